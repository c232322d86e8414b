/- Walk library, part 3 (operations): what each operation leaves. Plain theorems over any program. -/
/- Walk library, part 4 (slices of one's own: append, make, store, cut; calls). Plain theorems over any program. -/
/- Walk library, part 5 (slices of slices of one's own). Plain theorems over any program. -/
import Derived.Test.YtfepjcmjkaolgaaGMem
set_option linter.all false
namespace Go.Proofs.Ytfepjcmjkaolgaa.G
open Go Go.RowKit

section
variable {P : Program} {n : Nat} {ops : Array Oper} {S : World → Prop} {e : Env} {dst : Option Tmp} {ty : TypeId} {pos : String} {af : Array Edge}

theorem q_of {o : Oper} {v : Value} (hg : o.guard = none) (h : ∀ w, S w → (execOp (evl e) o).run P w = .ok (.value v) w) : Quiet P n ops S o e v :=
  Quiet.run (fun a ha w hw => by rw [ha.evalf]; exact h w hw) hg

theorem q_move {x : Operand} {v : Value} (h : evo e x = some (v)) : Quiet P n ops S ⟨dst, .move x, ty, pos, af, none⟩ e v := by
  replace h := ev_of h
  exact q_of rfl fun w _ => by simp [execOp, h]
theorem q_assign {x : Operand} {v : Value} (h : evo e x = some (v)) : Quiet P n ops S ⟨dst, .assign x, ty, pos, af, none⟩ e v := by
  replace h := ev_of h
  exact q_of rfl fun w _ => by simp [execOp, h]
theorem q_pickT {c x y : Operand} {v : Value} {t : Bool} (hc : evo e c = some (.bool t)) (ht : t = true) (h : evo e x = some (v)) : Quiet P n ops S ⟨dst, .pick c x y, ty, pos, af, none⟩ e v := by
  replace hc := ev_of hc
  replace h := ev_of h
  exact q_of rfl fun w _ => by subst ht; simp [execOp, hc, h, asBool]
theorem q_pickF {c x y : Operand} {v : Value} {t : Bool} (hc : evo e c = some (.bool t)) (ht : t = false) (h : evo e y = some (v)) : Quiet P n ops S ⟨dst, .pick c x y, ty, pos, af, none⟩ e v := by
  replace hc := ev_of hc
  replace h := ev_of h
  exact q_of rfl fun w _ => by subst ht; simp [execOp, hc, h, asBool]
theorem q_not {x : Operand} {t : Bool} {T : TypeId} (h : evo e x = some (.bool t)) : Quiet P n ops S ⟨dst, .unOp .not T x, ty, pos, af, none⟩ e (.bool !t) := by
  replace h := ev_of h
  exact q_of rfl fun w _ => by simp [execOp, h, Op.unary]
theorem q_ext {x : Operand} {vs : List Value} {v : Value} {i : Nat} (h : evo e x = some (.tuple vs.toArray)) (hv : vs[i]? = some v) : Quiet P n ops S ⟨dst, .extract x i, ty, pos, af, none⟩ e v := by
  replace h := ev_of h
  exact q_of rfl fun w _ => by simp [execOp, h, Instr.extract, hv]
/-! whole numbers -/
theorem run_bin_int {op : BinOp} {T : TypeId} {x y : Operand} {k : IntKind} {a b : Int} (hop : (match op with | .shl | .shr => false | _ => true) = true) (w : World) (hx : evl e x = .int k a) (hy : evl e y = .int k b) {T2 : TypeId} :
    (execOp (evl e) ⟨dst, .binOp op T x y T2, ty, pos, af, none⟩).run P w = (do pure (.value (← binOp op T (.int k a) (.int k b))) : Sem Next).run P w := by
  simp only [execOp, hx, hy, eqGuard]
  cases op <;> simp
theorem q_add {T T2 : TypeId} {x y : Operand} {k : IntKind} {a b z : Int} (hx : evo e x = some (.int k a)) (hy : evo e y = some (.int k b)) (hz : k.wrap (a + b) = z) : Quiet P n ops S ⟨dst, .binOp .add T x y T2, ty, pos, af, none⟩ e (.int k z) := by
  replace hx := ev_of hx
  replace hy := ev_of hy
  exact q_of rfl fun w _ => by rw [run_bin_int rfl w hx hy]; simp [binOp, Op.intArith, hz]
theorem q_sub {T T2 : TypeId} {x y : Operand} {k : IntKind} {a b z : Int} (hx : evo e x = some (.int k a)) (hy : evo e y = some (.int k b)) (hz : k.wrap (a - b) = z) : Quiet P n ops S ⟨dst, .binOp .sub T x y T2, ty, pos, af, none⟩ e (.int k z) := by
  replace hx := ev_of hx
  replace hy := ev_of hy
  exact q_of rfl fun w _ => by rw [run_bin_int rfl w hx hy]; simp [binOp, Op.intArith, hz]
theorem q_mul {T T2 : TypeId} {x y : Operand} {k : IntKind} {a b z : Int} (hx : evo e x = some (.int k a)) (hy : evo e y = some (.int k b)) (hz : k.wrap (a * b) = z) : Quiet P n ops S ⟨dst, .binOp .mul T x y T2, ty, pos, af, none⟩ e (.int k z) := by
  replace hx := ev_of hx
  replace hy := ev_of hy
  exact q_of rfl fun w _ => by rw [run_bin_int rfl w hx hy]; simp [binOp, Op.intArith, hz]
theorem q_lss {T T2 : TypeId} {x y : Operand} {k : IntKind} {a b : Int} (hx : evo e x = some (.int k a)) (hy : evo e y = some (.int k b)) : Quiet P n ops S ⟨dst, .binOp .lss T x y T2, ty, pos, af, none⟩ e (.bool (decide (a < b))) := by
  replace hx := ev_of hx
  replace hy := ev_of hy
  exact q_of rfl fun w _ => by rw [run_bin_int rfl w hx hy]; simp [binOp, Op.intCmp]
theorem q_leq {T T2 : TypeId} {x y : Operand} {k : IntKind} {a b : Int} (hx : evo e x = some (.int k a)) (hy : evo e y = some (.int k b)) : Quiet P n ops S ⟨dst, .binOp .leq T x y T2, ty, pos, af, none⟩ e (.bool (decide (a ≤ b))) := by
  replace hx := ev_of hx
  replace hy := ev_of hy
  exact q_of rfl fun w _ => by rw [run_bin_int rfl w hx hy]; simp [binOp, Op.intCmp]
theorem q_gtr {T T2 : TypeId} {x y : Operand} {k : IntKind} {a b : Int} (hx : evo e x = some (.int k a)) (hy : evo e y = some (.int k b)) : Quiet P n ops S ⟨dst, .binOp .gtr T x y T2, ty, pos, af, none⟩ e (.bool (decide (b < a))) := by
  replace hx := ev_of hx
  replace hy := ev_of hy
  exact q_of rfl fun w _ => by rw [run_bin_int rfl w hx hy]; simp [binOp, Op.intCmp]
theorem q_geq {T T2 : TypeId} {x y : Operand} {k : IntKind} {a b : Int} (hx : evo e x = some (.int k a)) (hy : evo e y = some (.int k b)) : Quiet P n ops S ⟨dst, .binOp .geq T x y T2, ty, pos, af, none⟩ e (.bool (decide (b ≤ a))) := by
  replace hx := ev_of hx
  replace hy := ev_of hy
  exact q_of rfl fun w _ => by rw [run_bin_int rfl w hx hy]; simp [binOp, Op.intCmp]
theorem q_eql {T T2 : TypeId} {x y : Operand} {k : IntKind} {a b : Int} (hx : evo e x = some (.int k a)) (hy : evo e y = some (.int k b)) : Quiet P n ops S ⟨dst, .binOp .eql T x y T2, ty, pos, af, none⟩ e (.bool (decide (a = b))) := by
  replace hx := ev_of hx
  replace hy := ev_of hy
  exact q_of rfl fun w _ => by rw [run_bin_int rfl w hx hy]; simp [binOp, Op.intCmp]; rfl
theorem q_neq {T T2 : TypeId} {x y : Operand} {k : IntKind} {a b : Int} (hx : evo e x = some (.int k a)) (hy : evo e y = some (.int k b)) : Quiet P n ops S ⟨dst, .binOp .neq T x y T2, ty, pos, af, none⟩ e (.bool (!decide (a = b))) := by
  replace hx := ev_of hx
  replace hy := ev_of hy
  exact q_of rfl fun w _ => by rw [run_bin_int rfl w hx hy]; simp [binOp, Op.intCmp]; rfl
theorem q_nilCheck {x : Operand} {p : Addr} (h : evo e x = some (.pointer (some p))) : Quiet P n ops S ⟨dst, .nilCheck x, ty, pos, af, none⟩ e (.pointer (some p)) := by
  replace h := ev_of h
  exact q_of rfl fun w _ => by simp [execOp, h]
/-! addresses -/
def fieldOff (P : Program) (s f : Nat) : Option Nat :=
  match P.underlying s with
  | some (.struct fs) => match fs[f]? with
    | some fd => match P.info? fd.type with
      | some i => if i.size = 0 then none else some fd.offset
      | none => none
    | none => none
  | _ => none
theorem q_fa {s f off : Nat} {x : Operand} {b o : Nat} (hf : fieldOff P s f = some off) (hx : evo e x = some (.pointer (some ⟨b, o, none⟩))) : Quiet P n ops S ⟨dst, .fieldAddr s x f, ty, pos, af, none⟩ e (.pointer (some ⟨b, o + off, none⟩)) := by
  replace hx := ev_of hx
  refine q_of rfl fun w _ => ?_
  unfold fieldOff at hf
  split at hf
  · rename_i fs hu
    split at hf
    · rename_i fd hfd
      split at hf
      · rename_i i hi
        split at hf
        · cases hf
        · rename_i hne
          cases hf
          simp [execOp, hx, Instr.fieldAt, run_underlying hu, hfd, Instr.sureAddr, fieldPlace, sizeOf, typeInfo, hi, hne, add_off]
      · cases hf
    · cases hf
  · cases hf
/-- In every world of S these cells lie there. -/
def sptr (S : World → Prop) (b o : Nat) (cs : List Value) : Prop := ∀ w, S w → ptr (hp w) b o cs
section
variable {α : Type} {E : ET P α}
theorem run_ix {t : TypeId} {x ix : Operand} {s0 : Value} {k : IntKind} {j : Nat} {w : World} {b o m c : Nat} (ht : P.underlying t = some (.slice E.T)) (hx : evl e x = .slice (some ⟨b, o, none⟩) m c) (hi : evl e ix = .int k (j : Int)) (hj : j < m) :
    (execOp (evl e) ⟨dst, .indexAddr t x ix, ty, pos, af, none⟩).run P w = .ok (.value (.pointer (some ⟨b, o + j * E.sz, none⟩))) w := by
  obtain ⟨i, z, hi', hs, _⟩ := E.info
  have h1 : (0 : Int) ≤ (j : Int) := by omega
  have h2 : (j : Int) < (m : Int) := by omega
  simp [execOp, hx, hi, Instr.indexAt, asIntOf, run_underlying ht, sizeOf, typeInfo, hi', hs, hj, add_off]
/-- An element of a slice that reads as xs in every world of S. -/
theorem q_ixS {t : TypeId} {x ix : Operand} {s0 : Value} {k : IntKind} {xs : List α} {j : Nat} {y : α} (ht : P.underlying t = some (.slice E.T)) (hx : evo e x = some (s0)) (hi : evo e ix = some (.int k (j : Int))) (hj : xs[j]? = some y) (w1 : World) (h1 : S w1) (R : ∀ w, S w → rdSl E (hp w) s0 xs) :
    ∃ b o, sptr S b o (E.cells y) ∧ Quiet P n ops S ⟨dst, .indexAddr t x ix, ty, pos, af, none⟩ e (.pointer (some ⟨b, o, none⟩)) := by
  replace hx := ev_of hx
  replace hi := ev_of hi
  obtain ⟨b, o, c, hv, hp1⟩ := (R w1 h1).at_ hj
  have hlt := (List.getElem?_eq_some_iff.1 hj).1
  refine ⟨b, o + j * E.sz, fun w hw => ?_, q_of rfl fun w _ => run_ix (s0 := s0) ht (hx.trans hv) hi hlt⟩
  obtain ⟨b', o', c', hv', hp'⟩ := (R w hw).at_ hj
  rw [hv] at hv'
  cases hv'
  exact hp'
theorem q_ldp {T : TypeId} {x : Operand} {b o : Nat} {y : α} (hp1 : sptr S b o (E.cells y)) (hT : E.T = T) (hx : evo e x = some (.pointer (some ⟨b, o, none⟩))) : Quiet P n ops S ⟨dst, .load T x, ty, pos, af, none⟩ e (E.val y) := by
  subst hT
  replace hx := ev_of hx
  refine q_of rfl fun w hw => ?_
  have := E.load w ⟨b, o, none⟩ y (fun j v hj => (hp1 w hw).cell j v hj)
  simp [execOp, hx, Instr.loadAt, Instr.sureAddr, this]
end
theorem q_ld {x : Operand} {T : TypeId} {p : Addr} {v : Value} (hx : evo e x = some (.pointer (some p))) (h : ∀ w, S w → (loadVar T p).run P w = .ok v w) : Quiet P n ops S ⟨dst, .load T x, ty, pos, af, none⟩ e v := by
  replace hx := ev_of hx
  exact q_of rfl fun w hw => by simp [execOp, hx, Instr.loadAt, Instr.sureAddr, h w hw]
theorem q_lenS {x : Operand} {t el : TypeId} {A : Option Addr} {m c : Nat} (ht : P.underlying t = some (.slice el)) (hx : evo e x = some (.slice A m c)) : Quiet P n ops S ⟨dst, .call { callee := .builtin .len, args := #[x], argTypes := #[t] }, ty, pos, af, none⟩ e (.int .i64 (m : Int)) := by
  replace hx := ev_of hx
  refine q_of rfl fun w _ => ?_
  simp [execOp, resolve, invoke, builtin, Builtin.len_, hx, run_underlying ht, goInt]
theorem q_lenStr {x : Operand} {t : TypeId} {s : ByteArray} (ht : P.underlying t = some .string) (hx : evo e x = some (.string s)) : Quiet P n ops S ⟨dst, .call { callee := .builtin .len, args := #[x], argTypes := #[t] }, ty, pos, af, none⟩ e (.int .i64 (s.size : Int)) := by
  replace hx := ev_of hx
  refine q_of rfl fun w _ => ?_
  simp [execOp, resolve, invoke, builtin, Builtin.len_, hx, run_underlying ht, goInt]
/-! structs -/
theorem fill_cells {pl : Nat → Option (Nat × Nat)} : ∀ (ps qs : List (Nat × Value)) (cs : Array Value), ps.map (fun p => (p.1, p.2.cells)) = qs.map (fun p => (p.1, p.2.cells)) → Instr.fill pl cs ps = Instr.fill pl cs qs := by
  intro ps
  induction ps with
  | nil => intro qs cs h; cases qs with
    | nil => rfl
    | cons q qs => simp at h
  | cons p ps ih =>
    intro qs cs h
    cases qs with
    | nil => simp at h
    | cons q qs =>
      simp only [List.map_cons, List.cons.injEq, Prod.mk.injEq] at h
      obtain ⟨⟨h1, h2⟩, h3⟩ := h
      obtain ⟨pi, pv⟩ := p
      obtain ⟨qi, qv⟩ := q
      simp only at h1 h2
      subst h1
      simp only [Instr.fill]
      rw [h2]
      split
      · rfl
      · split
        · rfl
        · exact ih qs _ h3
/-- A struct out of its parts, as cells. -/
def bld (P : Program) (T : TypeId) (ps : List (Nat × List Value)) (cs : List Value) : Prop := ∀ w, (Instr.build T (ps.map fun p => (p.1, Value.agg p.2.toArray)).toArray).run P w = .ok (.agg cs.toArray) w
def cellsOf (e : Env) : List (Nat × Operand) → List (Nat × List Value) → Prop
  | [], [] => True
  | (i, x) :: l, (j, c) :: m => (i = j ∧ (evo e x).map Value.cells = some c.toArray) ∧ cellsOf e l m
  | _, _ => False
theorem cells_of {e : Env} {x : Operand} {c : Array Value} (h : (evo e x).map Value.cells = some c) : (evl e x).cells = c := by
  obtain ⟨v, hv, hc⟩ := Option.map_eq_some_iff.1 h
  rw [ev_of hv]; exact hc
theorem cellsOf_map {e : Env} : ∀ {l : List (Nat × Operand)} {m : List (Nat × List Value)}, cellsOf e l m → (l.map fun p => (p.1, evl e p.2)).map (fun p => (p.1, p.2.cells)) = (m.map fun p => (p.1, Value.agg p.2.toArray)).map (fun p => (p.1, p.2.cells))
  | [], [], _ => rfl
  | (i, x) :: l, (j, c) :: m, h => by
    have := cellsOf_map h.2
    simp only [List.map_cons, h.1.1, cells_of h.1.2, this]
    rfl
  | [], _ :: _, h => h.elim
  | _ :: _, [], h => h.elim
theorem run_build_cells {T : TypeId} {l qs : List (Nat × Value)} (h : l.map (fun p => (p.1, p.2.cells)) = qs.map (fun p => (p.1, p.2.cells))) (w : World) : (Instr.build T l.toArray).run P w = (Instr.build T qs.toArray).run P w := by
  unfold Instr.build
  simp only [Sem.run_bind]
  congr 1
  funext z w1
  congr 1
  funext d w2
  cases d <;> simp only []
  · simp only [fill_cells l qs _ h]
  · simp only [Sem.run_bind]
    congr 1
    funext s w3
    simp only [fill_cells l qs _ h]
theorem q_build {T : TypeId} {ps : List (Nat × Operand)} {cps : List (Nat × List Value)} {cs : List Value} (hb : bld P T cps cs) (hc : cellsOf e ps cps) : Quiet P n ops S ⟨dst, .build T ps.toArray, ty, pos, af, none⟩ e (.agg cs.toArray) := by
  refine q_of rfl fun w _ => ?_
  have h1 := run_build_cells (P := P) (T := T) (cellsOf_map hc) w
  rw [hb w] at h1
  have h2 : (List.map (fun x : Nat × Operand => (x.fst, evl e x.snd)) ps).toArray = (ps.toArray.map fun x => (x.fst, evl e x.snd)) := by simp
  simp only [execOp, Sem.run_bind, Sem.run_pure, ← h2, h1, Result.andThen_ok]
end

/-! ### memory -/
section
variable {P : Program} {n : Nat} {ops : Array Oper} {e : Env} {dst : Option Tmp} {ty : TypeId} {pos : String} {af : Array Edge} {w0 w : World} {I0 I : Heap} {L : List Res}

theorem Mem.boxAt (M : Mem w0 I0 I L w) (i : Nat) {b : Nat} {T : TypeId} {cs : List Value} (hi : L[i]? = some (box b T cs)) : w.heap[b]? = some (.cells cs.toArray T (0, 0)) := M.holds _ (getElem?_mem' hi)
theorem Mem.boxCell (M : Mem w0 I0 I L w) (i : Nat) {b o : Nat} {T : TypeId} {cs : List Value} {v : Value} (hi : L[i]? = some (box b T cs)) (hv : cs[o]? = some v) : w.cell? ⟨b, o, none⟩ = some v := by
  rw [cell_of_row w b o _ T (0, 0) (M.boxAt i hi)]
  simpa using hv
theorem load_box (M : Mem w0 I0 I L w) (i : Nat) {b o : Nat} {T T0 : TypeId} {d : TypeDesc} {cs : List Value} {v : Value} (hu : P.underlying T = some d) (hd : oneKind d = true) (hi : L[i]? = some (box b T0 cs)) (hv : cs[o]? = some v) : (loadVar T ⟨b, o, none⟩).run P w = .ok v w :=
  run_loadVar_one hu hd w _ _ (M.boxCell i hi hv)
theorem load_boxA (M : Mem w0 I0 I L w) (i : Nat) {b o k : Nat} {T T0 : TypeId} {d : TypeDesc} {cs vs : List Value} (hu : P.underlying T = some d) (hd : oneKind d = false) (hk : (P.info? T).map (·.size) = some k) (hi : L[i]? = some (box b T0 cs)) (hv : (cs.drop o).take k = vs) (hl : vs.length = k) : (loadVar T ⟨b, o, none⟩).run P w = .ok (.agg vs.toArray) w := by
  refine run_loadVar_agg hu hd hk w _ vs hl fun j v hj => ?_
  rw [add_off]
  refine M.boxCell i hi ?_
  rw [← hv, List.getElem?_take] at hj
  split at hj
  · rw [List.getElem?_drop] at hj; exact hj
  · cases hj
/-- A load of one cell out of a block of one's own. -/
theorem q_ldb (i : Nat) {x : Operand} {b o : Nat} {T T0 : TypeId} {d : TypeDesc} {cs : List Value} {v : Value} (hu : P.underlying T = some d) (hd : oneKind d = true) (hi : L[i]? = some (box b T0 cs)) (hx : evo e x = some (.pointer (some ⟨b, o, none⟩))) (hv : cs[o]? = some v) : Quiet P n ops (Mem w0 I0 I L) ⟨dst, .load T x, ty, pos, af, none⟩ e v := by
  exact q_ld hx fun w M => load_box M i hu hd hi hv
theorem q_ldbA (i : Nat) {x : Operand} {b o k : Nat} {T T0 : TypeId} {d : TypeDesc} {cs vs : List Value} (hu : P.underlying T = some d) (hd : oneKind d = false) (hk : (P.info? T).map (·.size) = some k) (hi : L[i]? = some (box b T0 cs)) (hx : evo e x = some (.pointer (some ⟨b, o, none⟩))) (hv : (cs.drop o).take k = vs) (hl : vs.length = k) : Quiet P n ops (Mem w0 I0 I L) ⟨dst, .load T x, ty, pos, af, none⟩ e (.agg vs.toArray) := by
  exact q_ld hx fun w M => load_boxA M i hu hd hk hi hv hl
/-- A load out of a block that nobody writes any more. -/
theorem q_ldbI {x : Operand} {b o : Nat} {T T0 : TypeId} {d : TypeDesc} {cs : List Value} {v : Value} (hb : I b = some (.cells cs.toArray T0 (0, 0))) (hu : P.underlying T = some d) (hd : oneKind d = true) (hx : evo e x = some (.pointer (some ⟨b, o, none⟩))) (hv : cs[o]? = some v) : Quiet P n ops (Mem w0 I0 I L) ⟨dst, .load T x, ty, pos, af, none⟩ e v := by
  refine q_ld hx fun w M => run_loadVar_one hu hd w _ _ ?_
  rw [cell_of_row w b o _ T0 (0, 0) (M.imm _ _ hb)]
  simpa using hv
theorem q_ldbAI {x : Operand} {b o k : Nat} {T T0 : TypeId} {d : TypeDesc} {cs vs : List Value} (hb : I b = some (.cells cs.toArray T0 (0, 0))) (hu : P.underlying T = some d) (hd : oneKind d = false) (hk : (P.info? T).map (·.size) = some k) (hx : evo e x = some (.pointer (some ⟨b, o, none⟩))) (hv : (cs.drop o).take k = vs) (hl : vs.length = k) : Quiet P n ops (Mem w0 I0 I L) ⟨dst, .load T x, ty, pos, af, none⟩ e (.agg vs.toArray) := by
  refine q_ld hx fun w M => run_loadVar_agg hu hd hk w _ vs hl fun j v hj => ?_
  rw [add_off, cell_of_row w b _ _ T0 (0, 0) (M.imm _ _ hb)]
  rw [← hv, List.getElem?_take] at hj
  split at hj
  · rw [List.getElem?_drop] at hj; simpa using hj
  · cases hj
theorem Mem.frzBox (M : Mem w0 I0 I L w) (i : Nat) {b : Nat} {T : TypeId} {cs : List Value} (hi : L[i]? = some (box b T cs)) : ∃ I', Mem w0 I0 I' (L.eraseIdx i) w ∧ hle I I' ∧ I' b = some (.cells cs.toArray T (0, 0)) := by
  obtain ⟨h1, h2, h3⟩ := M.freeze i hi
  exact ⟨_, h1, h2, h3⟩
section
variable {α : Type} {E : ET P α}
/-- An element of a slice that is read. -/
theorem q_ix {t : TypeId} {x ix : Operand} {s0 : Value} {k : IntKind} {xs : List α} {j : Nat} {y : α} (M : Mem w0 I0 I L w) (R : rdSl E I s0 xs) (ht : P.underlying t = some (.slice E.T)) (hx : evo e x = some (s0)) (hi : evo e ix = some (.int k (j : Int))) (hj : xs[j]? = some y) :
    ∃ b o, sptr (Mem w0 I0 I L) b o (E.cells y) ∧ Quiet P n ops (Mem w0 I0 I L) ⟨dst, .indexAddr t x ix, ty, pos, af, none⟩ e (.pointer (some ⟨b, o, none⟩)) := by
  exact q_ixS ht hx hi hj w M fun w' M' => R.mono M'.imm
/-- An element of a slice of one's own. -/
theorem q_ixr (i : Nat) {t : TypeId} {x ix : Operand} {s0 : Value} {k : IntKind} {xs : List α} {j : Nat} {y : α} (M : Mem w0 I0 I L w) (hL : L[i]? = some (row E s0 xs)) (ht : P.underlying t = some (.slice E.T)) (hx : evo e x = some (s0)) (hi : evo e ix = some (.int k (j : Int))) (hj : xs[j]? = some y) :
    ∃ b o, sptr (Mem w0 I0 I L) b o (E.cells y) ∧ Quiet P n ops (Mem w0 I0 I L) ⟨dst, .indexAddr t x ix, ty, pos, af, none⟩ e (.pointer (some ⟨b, o, none⟩)) := by
  exact q_ixS ht hx hi hj w M fun w' M' => M'.rd hL
end

section
variable {α : Type} {E : ET P α} {K : Env → World → Prop} {rest : List Oper} {l : List (Nat × Value)} {b : Env} {d : Nat} {fuel : Nat} {listed : Array Bool}
/-- An element's place, in a walk. -/
theorem wl_ix {t : TypeId} {x ix : Operand} {v : Value} {k : IntKind} {xs : List α} {j : Nat} {y : α} (M : Mem w0 I0 I L w) (R : rdSl E I v xs) (ht : P.underlying t = some (.slice E.T)) (hx : evo (look l b) x = some v) (hi : evo (look l b) ix = some (.int k (j : Int))) (hj : xs[j]? = some y) (hn : Nat.blt d n = true)
    (h : ∀ b' o', sptr (Mem w0 I0 I L) b' o' (E.cells y) → WL P n ops K rest (look ((d, .pointer (some ⟨b', o', none⟩)) :: l) b) w) : WL P n ops K (⟨some d, .indexAddr t x ix, ty, pos, af, none⟩ :: rest) (look l b) w := by
  obtain ⟨b', o', p, q⟩ := q_ix (P := P) (n := n) (ops := ops) (dst := some d) (ty := ty) (pos := pos) (af := af) M R ht hx hi hj
  exact wl_q q M rfl hn (h b' o' p)
theorem wl_ixG {t : TypeId} {x ix : Operand} {v : Value} {k : IntKind} {xs : List α} {j : Nat} {y : α} (g : Nat) {want u : Bool} {dg : Nat} (hg : (ops[g]?).bind (·.dst) = some dg) (hgn : Nat.blt dg n = true) (hgt : look l b dg = some (.bool u)) (hgw : u = want) (M : Mem w0 I0 I L w) (R : rdSl E I v xs) (ht : P.underlying t = some (.slice E.T)) (hx : evo (look l b) x = some v) (hi : evo (look l b) ix = some (.int k (j : Int))) (hj : xs[j]? = some y) (hn : Nat.blt d n = true)
    (h : ∀ b' o', sptr (Mem w0 I0 I L) b' o' (E.cells y) → WL P n ops K rest (look ((d, .pointer (some ⟨b', o', none⟩)) :: l) b) w) : WL P n ops K (⟨some d, .indexAddr t x ix, ty, pos, af, some (g, want)⟩ :: rest) (look l b) w := by
  obtain ⟨b', o', p, q⟩ := q_ix (P := P) (n := n) (ops := ops) (dst := some d) (ty := ty) (pos := pos) (af := af) M R ht hx hi hj
  exact wl_q (q_guard g hg hgn hgt hgw q) M rfl hn (h b' o' p)
theorem wl_ixr (i : Nat) {t : TypeId} {x ix : Operand} {v : Value} {k : IntKind} {xs : List α} {j : Nat} {y : α} (M : Mem w0 I0 I L w) (hL : L[i]? = some (row E v xs)) (ht : P.underlying t = some (.slice E.T)) (hx : evo (look l b) x = some v) (hi : evo (look l b) ix = some (.int k (j : Int))) (hj : xs[j]? = some y) (hn : Nat.blt d n = true)
    (h : ∀ b' o', sptr (Mem w0 I0 I L) b' o' (E.cells y) → WL P n ops K rest (look ((d, .pointer (some ⟨b', o', none⟩)) :: l) b) w) : WL P n ops K (⟨some d, .indexAddr t x ix, ty, pos, af, none⟩ :: rest) (look l b) w := by
  obtain ⟨b', o', p, q⟩ := q_ixr (P := P) (n := n) (ops := ops) (dst := some d) (ty := ty) (pos := pos) (af := af) i M hL ht hx hi hj
  exact wl_q q M rfl hn (h b' o' p)
end
section
variable {α : Type} {E : ET P α} {K : Env → World → Prop} {l : List (Nat × Value)} {b : Env} {d : Nat} {fuel : Nat} {listed : Array Bool}
theorem wa_ixSG {F : List Nat} (g : Nat) {want u : Bool} {dg : Nat} (hg : (ops[g]?).bind (·.dst) = some dg) (hgn : Nat.blt dg n = true) (hgt : look l b dg = some (.bool u)) (hgw : u = want) (i : Nat) {S : World → Prop} {t : TypeId} {x ix : Operand} {v : Value} {k : IntKind} {xs : List α} {j : Nat} {y : α} (hS : S w) (R : ∀ w, S w → rdSl E (hp w) v xs) (hi0 : ops[i]? = some ⟨some d, .indexAddr t x ix, ty, pos, af, some (g, want)⟩) (hs : may ops F listed i = true) (ht : P.underlying t = some (.slice E.T)) (hx : evo (look l b) x = some v) (hi : evo (look l b) ix = some (.int k (j : Int))) (hj : xs[j]? = some y) (hn : Nat.blt d n = true)
    (h : ∀ b' o', sptr S b' o' (E.cells y) → WA P n ops S F K fuel (listed.setIfInBounds i true) (look ((d, .pointer (some ⟨b', o', none⟩)) :: l) b) w) : WA P n ops S F K (fuel + 1) listed (look l b) w := by
  obtain ⟨b', o', p, q⟩ := q_ixS (P := P) (n := n) (ops := ops) (S := S) (dst := some d) (ty := ty) (pos := pos) (af := af) ht hx hi hj w hS R
  exact wa_q i hi0 hs (q_guard g hg hgn hgt hgw q) hS rfl hn (h b' o' p)
/-- An element's place in whatever order, S knowing what the slice reads as. -/
theorem wa_ixS {F : List Nat} (i : Nat) {S : World → Prop} {t : TypeId} {x ix : Operand} {v : Value} {k : IntKind} {xs : List α} {j : Nat} {y : α} (hS : S w) (R : ∀ w, S w → rdSl E (hp w) v xs) (hi0 : ops[i]? = some ⟨some d, .indexAddr t x ix, ty, pos, af, none⟩) (hs : may ops F listed i = true) (ht : P.underlying t = some (.slice E.T)) (hx : evo (look l b) x = some v) (hi : evo (look l b) ix = some (.int k (j : Int))) (hj : xs[j]? = some y) (hn : Nat.blt d n = true)
    (h : ∀ b' o', sptr S b' o' (E.cells y) → WA P n ops S F K fuel (listed.setIfInBounds i true) (look ((d, .pointer (some ⟨b', o', none⟩)) :: l) b) w) : WA P n ops S F K (fuel + 1) listed (look l b) w := by
  obtain ⟨b', o', p, q⟩ := q_ixS (P := P) (n := n) (ops := ops) (S := S) (dst := some d) (ty := ty) (pos := pos) (af := af) ht hx hi hj w hS R
  exact wa_q i hi0 hs q hS rfl hn (h b' o' p)
end
/-- A parameter, a variable: a new block of known cells. -/
theorem e_box {T : TypeId} {x : Operand} {cs : List Value} (M : Mem w0 I0 I L w) (hc : (evo e x).map Value.cells = some cs.toArray) :
    Eff P n ops ⟨dst, .box T x, ty, pos, af, none⟩ e w fun v w' => ∃ b, v = .pointer (some ⟨b, 0, none⟩) ∧ Mem w0 I0 I (box b T cs :: L) w' := by
  replace hc := cells_of hc
  refine Eff.run (v := .pointer (some ⟨w.heap.size, 0, none⟩)) (w' := w.alloc (.cells cs.toArray T)) ?_ rfl ⟨_, rfl, M.alloc _ _ rfl (fun h e => e)⟩
  simp [execOp, Instr.box, newVar, newRow, hc]
def zeroOf (P : Program) (T : TypeId) : Option (List Value) := ((P.info? T).bind (·.zero)).map (·.cells.toList)
theorem e_alloc {T : TypeId} {cs : List Value} (M : Mem w0 I0 I L w) (hz : zeroOf P T = some cs) :
    Eff P n ops ⟨dst, .alloc T, ty, pos, af, none⟩ e w fun v w' => ∃ b, v = .pointer (some ⟨b, 0, none⟩) ∧ Mem w0 I0 I (box b T cs :: L) w' := by
  obtain ⟨z, hz1, hz2⟩ := Option.map_eq_some_iff.1 hz
  obtain ⟨i, hi, hzi⟩ := Option.bind_eq_some_iff.1 hz1
  refine Eff.run (v := .pointer (some ⟨w.heap.size, 0, none⟩)) (w' := w.alloc (.cells cs.toArray T)) ?_ rfl ⟨_, rfl, M.alloc _ _ rfl (fun h e => e)⟩
  simp [execOp, Instr.alloc, newVar, newRow, zeroValue, typeInfo, hi, hzi, ← hz2]
theorem chg_setRow (w : World) (g : Nat) (cs : Array Value) : Chg w (w.setRow g cs) [g] :=
  ⟨rfl, rfl, rfl, by simp, fun k _ h => setRow_other w g k _ (by simpa using h), Nat.le_refl _⟩
/-- A store into a block of one's own. -/
theorem e_stb (i : Nat) {T T0 : TypeId} {x y : Operand} {b o : Nat} {cs vs cs' : List Value} (M : Mem w0 I0 I L w) (hi : L[i]? = some (box b T0 cs)) (hx : evo e x = some (.pointer (some ⟨b, o, none⟩))) (hy : (evo e y).map Value.cells = some vs.toArray) (hk : (P.info? T).map (·.size) = some vs.length) (h1 : vs.all (·.oneCell') = true)
    (hcs : (Nat.ble (o + vs.length) cs.length, cs.take o ++ (vs ++ cs.drop (o + vs.length))) = (true, cs')) :
    Eff P n ops ⟨dst, .store T x y, ty, pos, af, none⟩ e w fun v w' => Mem w0 I0 I (L.set i (box b T0 cs')) w' := by
  replace hx := ev_of hx
  replace hy := cells_of hy
  simp only [Prod.mk.injEq] at hcs
  obtain ⟨hle1, hcs⟩ := hcs
  have hle2 : o + vs.length ≤ cs.length := by simpa using hle1
  have hb := M.boxAt i hi
  have hst := run_storeCells_at P b o T0 vs 0 cs.toArray w hb (by simpa using hle2) (fun v hv => List.all_eq_true.1 h1 v hv)
  simp only [Nat.add_zero] at hst
  have hcs2 : (cs.toArray.toList.take o ++ vs ++ cs.toArray.toList.drop (o + vs.length)).toArray = cs'.toArray := by
    rw [← hcs]; simp
  rw [hcs2] at hst
  cases hq : P.info? T with
  | none => simp [hq] at hk
  | some inf =>
    have hs : inf.size = vs.length := by simpa [hq] using hk
    refine Eff.run0 (w' := w.setRow b cs'.toArray) ?_ rfl ?_
    · simp [execOp, Instr.storeAt, Instr.sureAddr, hx, storeVar, hy, sizeOf, typeInfo, hq, hs, hst]
    · refine M.upd i hi _ (chg_setRow w b _) (by simp [box]) (fun c hc => .inl hc) (fun c hc => ?_) (setRow_heap w b cs.toArray _ T0 _ hb)
      have := M.own (getElem?_mem' hi) hc
      simp only [size_setRow]
      exact this.2.1
/-- A whole block is stored into. -/
theorem e_stW (i : Nat) {T T0 : TypeId} {x y : Operand} {b : Nat} {cs vs : List Value} (M : Mem w0 I0 I L w) (hi : L[i]? = some (box b T0 cs)) (hx : evo e x = some (.pointer (some ⟨b, 0, none⟩))) (hy : (evo e y).map Value.cells = some vs.toArray) (hk : (P.info? T).map (·.size) = some vs.length) (h1 : vs.all (·.oneCell') = true) (hl : Nat.beq vs.length cs.length = true) :
    Eff P n ops ⟨dst, .store T x y, ty, pos, af, none⟩ e w fun v w' => Mem w0 I0 I (L.set i (box b T0 vs)) w' := by
  have hl' := Nat.eq_of_beq_eq_true hl
  refine e_stb i M hi hx hy hk h1 ?_
  rw [Nat.zero_add, hl']
  simp
theorem q_lenR {α : Type} {E : ET P α} {S : World → Prop} {t el : TypeId} {x : Operand} {v : Value} {xs : List α} (R : rdSl E I v xs) (ht : P.underlying t = some (.slice el)) (hx : evo e x = some v) : Quiet P n ops S ⟨dst, .call { callee := .builtin .len, args := #[x], argTypes := #[t] }, ty, pos, af, none⟩ e (.int .i64 (xs.length : Int)) := by
  obtain ⟨A, c, rfl, _⟩ := R
  exact q_lenS ht hx
theorem q_lenr {α : Type} {E : ET P α} (i : Nat) {t el : TypeId} {x : Operand} {v : Value} {xs : List α} (M : Mem w0 I0 I L w) (hL : L[i]? = some (row E v xs)) (ht : P.underlying t = some (.slice el)) (hx : evo e x = some v) : Quiet P n ops (Mem w0 I0 I L) ⟨dst, .call { callee := .builtin .len, args := #[x], argTypes := #[t] }, ty, pos, af, none⟩ e (.int .i64 (xs.length : Int)) :=
  q_lenR (M.rd hL) ht hx
theorem wl_m {K : Env → World → Prop} {o : Oper} {rest : List Oper} {l : List (Nat × Value)} {b : Env} {d : Nat} {v : Value} (M : Mem w0 I0 I L w) (hq : Quiet P n ops (Mem w0 I0 I L) o (look l b) v) (hd : o.dst = some d) (hn : Nat.blt d n = true) (h : WL P n ops K rest (look ((d, v) :: l) b) w) : WL P n ops K (o :: rest) (look l b) w := wl_q hq M hd hn h
theorem wl_mv {K : Env → World → Prop} {rest : List Oper} {l : List (Nat × Value)} {b : Env} {d : Nat} {x : Operand} {v : Value} (M : Mem w0 I0 I L w) (hx : evo (look l b) x = some v) (hn : Nat.blt d n = true) (h : WL P n ops K rest (look ((d, v) :: l) b) w) : WL P n ops K (⟨some d, .move x, ty, pos, af, none⟩ :: rest) (look l b) w := wl_m M (q_move hx) rfl hn h
theorem wl_as {K : Env → World → Prop} {rest : List Oper} {l : List (Nat × Value)} {b : Env} {d : Nat} {x : Operand} {v : Value} (M : Mem w0 I0 I L w) (hx : evo (look l b) x = some v) (hn : Nat.blt d n = true) (h : WL P n ops K rest (look ((d, v) :: l) b) w) : WL P n ops K (⟨some d, .assign x, ty, pos, af, none⟩ :: rest) (look l b) w := wl_m M (q_assign hx) rfl hn h
theorem sC0 {α : Type} {x y : α} {l : List α} : (x :: l).set 0 y = y :: l := rfl
theorem sCS {α : Type} {x y : α} {l : List α} {k : Nat} : (x :: l).set (k + 1) y = x :: l.set k y := rfl
/-! slices of one's own -/
section
variable {α : Type} {E : ET P α}
/-- The cells that 'buildSlice' lays. -/
def bldS (P : Program) (t k : Nat) (ps : List (Nat × List Value)) (T : TypeId) (cs : List Value) : Prop := ∀ w, (Instr.buildSlice t k (ps.map fun p => (p.1, Value.agg p.2.toArray)).toArray).run P w = .ok (.slice (some ⟨w.heap.size, 0, none⟩) k k) (w.alloc (.cells cs.toArray T))
theorem run_buildSlice_cells {t k : Nat} {l qs : List (Nat × Value)} (h : l.map (fun p => (p.1, p.2.cells)) = qs.map (fun p => (p.1, p.2.cells))) (w : World) : (Instr.buildSlice t k l.toArray).run P w = (Instr.buildSlice t k qs.toArray).run P w := by
  unfold Instr.buildSlice
  simp only [Sem.run_bind]
  congr 1
  funext d w1
  cases d <;> simp only [] <;> try rfl
  simp only [Sem.run_bind]
  congr 1
  funext s w2
  have : ∀ (c : Prop) [Decidable c] (x : Sem Unit) (f g : Unit → Sem Value) (w : World), (∀ u w, (f u).run P w = (g u).run P w) → ((if c then x else pure ()) >>= f).run P w = ((if c then x else pure ()) >>= g).run P w := by
    intro c _ x f g w hfg
    simp only [Sem.run_bind]
    congr 1
    funext u w'
    exact hfg u w'
  simp only [fill_cells l qs _ h]
theorem run_bs {t k : Nat} {ps : List (Nat × Operand)} {cps : List (Nat × List Value)} {T : TypeId} {cs : List Value} (hb : bldS P t k cps T cs) (hc : cellsOf e ps cps) (w : World) :
    (execOp (evl e) ⟨dst, .buildSlice t k ps.toArray, ty, pos, af, none⟩).run P w = .ok (.value (.slice (some ⟨w.heap.size, 0, none⟩) k k)) (w.alloc (.cells cs.toArray T)) := by
  have h1 := run_buildSlice_cells (P := P) (t := t) (k := k) (cellsOf_map hc) w
  rw [hb w] at h1
  have h2 : (List.map (fun x : Nat × Operand => (x.fst, evl e x.snd)) ps).toArray = (ps.toArray.map fun x => (x.fst, evl e x.snd)) := by simp
  simp only [execOp, Sem.run_bind, Sem.run_pure, ← h2, h1, Result.andThen_ok]
/-- 'buildSlice': a slice that nobody writes any more. -/
theorem e_bsI {t k : Nat} {ps : List (Nat × Operand)} {cps : List (Nat × List Value)} {cs : List Value} {xs : List α} (M : Mem w0 I0 I L w) (hb : bldS P t k cps E.T cs) (hc : cellsOf e ps cps) (hxs : E.all xs = cs) (hk : xs.length = k) (hm : k ≤ 1000) :
    Eff P n ops ⟨dst, .buildSlice t k ps.toArray, ty, pos, af, none⟩ e w fun v w' => ∃ (u : SV) (I' : Heap), v = sv u ∧ hle I I' ∧ rdSl E I' (sv u) xs ∧ Mem w0 I0 I' L w' := by
  refine Eff.run (run_bs hb hc w) rfl ⟨(some ⟨w.heap.size, 0, none⟩, k, k), _, rfl, addI_le M.imm _, ?_, M.allocI _⟩
  refine ⟨_, k, by rw [hk]; rfl, by omega, by simp only [maxLen]; omega, fun _ => ⟨_, 0, rfl, cs.toArray, E.T, (0, 0), by simp [addI], ?_⟩⟩
  rw [hxs]; simp
/-- 'buildSlice': a slice of one's own. -/
theorem e_bsR {t k : Nat} {ps : List (Nat × Operand)} {cps : List (Nat × List Value)} {cs : List Value} {xs : List α} (M : Mem w0 I0 I L w) (hb : bldS P t k cps E.T cs) (hc : cellsOf e ps cps) (hxs : E.all xs = cs) (hk : xs.length = k) (hm : k ≤ 1000) :
    Eff P n ops ⟨dst, .buildSlice t k ps.toArray, ty, pos, af, none⟩ e w fun v w' => ∃ u : SV, v = sv u ∧ Mem w0 I0 I (row E (sv u) xs :: L) w' := by
  refine Eff.run (run_bs hb hc w) rfl ⟨(some ⟨w.heap.size, 0, none⟩, k, k), rfl, M.alloc _ _ (by simp [row, Value.ownBlock, sv]) fun h eh => .inr ⟨_, 0, k, cs.toArray, by rw [hk]; rfl, eh, by omega, by simp only [maxLen]; omega, ?_, ?_⟩⟩
  · have := E.all_length xs
    rw [hxs] at this
    rw [Nat.zero_add, ← hk]
    simp [this]
  · have := E.all_length xs
    rw [hxs] at this
    rw [← this, hxs]
    simp
end
end
end Go.Proofs.Ytfepjcmjkaolgaa.G

set_option linter.all false
namespace Go.Proofs.Ytfepjcmjkaolgaa.G
open Go Go.RowKit

section
variable {P : Program} {α : Type} {E : ET P α}

theorem take_of_seg {l : List Value} {o k : Nat} {xs : List Value} (h : (l.drop o).take k = xs) (hk : o + k ≤ l.length) : ∃ pre post, l = pre ++ xs ++ post ∧ pre.length = o ∧ xs.length = k := by
  refine ⟨l.take o, l.drop (o + k), ?_, by simp; omega, by rw [← h]; simp; omega⟩
  rw [← h, List.append_assoc]
  conv => lhs; rw [← List.take_append_drop o l]
  congr 1
  rw [← List.drop_drop]
  exact (List.take_append_drop k _).symm

/-- append, whatever the capacity. -/
theorem run_append {w : World} {t ty : TypeId} {s0 : Value} {xs ys : List α} {av : Value} {I : Heap} (hI : hle I (hp w)) (ht : P.underlying t = some (.slice E.T)) (hr : rowHolds E s0 xs (hp w)) (ha : rdSl E I av ys) (hbd : (xs.length + ys.length) * E.by' ≤ 140737488355328) :
    ∃ v' w', (Builtin.append_ #[t, t] ty #[s0, av]).run P w = .ok v' w' ∧ rowHolds E v' (xs ++ ys) (hp w') ∧ Chg w w' s0.ownBlock.toList ∧ (∀ b ∈ v'.ownBlock.toList, (b ∈ s0.ownBlock.toList ∨ w.heap.size ≤ b) ∧ b < w'.heap.size) := by
  obtain ⟨i, z, hi, hsz, hby, hz, hzs⟩ := E.info
  have hpos := E.pos
  have hby0 := E.byb
  obtain ⟨A, c, rfl, hc1, hc2, hA⟩ := ha
  have hlen : xs.length + ys.length ≤ 140737488355328 := Nat.le_trans (Nat.le_mul_of_pos_right _ hby0) hbd
  have hmax : maxLen = 9223372036854775807 := by decide
  by_cases hys : ys = []
  · -- nothing is appended
    subst hys
    have hzero : (Builtin.firstCells i.size 0 (.slice A 0 c)).run P w = .ok #[] w := by cases A <;> simp [Builtin.firstCells, loadCells, loadCellsFrom]
    refine ⟨s0, w, ?_, by simpa using hr, ⟨rfl, rfl, rfl, Nat.le_refl _, fun _ _ _ => rfl, Nat.le_refl _⟩, fun x hx => ?_⟩
    · rcases hr with ⟨rfl, rfl⟩ | ⟨b, o, cc, cur, rfl, _, hle, _⟩
      · simp [Builtin.append_, run_underlying ht, sizeOf, typeInfo, hi, Builtin.lenOf, hzero]
      · simp [Builtin.append_, run_underlying ht, sizeOf, typeInfo, hi, Builtin.lenOf, hle, hzero, storeCells]
    · refine ⟨.inl hx, ?_⟩
      rcases hr with ⟨rfl, rfl⟩ | ⟨b', o, cc, cur, rfl, hh, _⟩
      · simp [Value.ownBlock] at hx
      · simp [Value.ownBlock] at hx
        subst hx
        exact hp_lt hh
  · obtain ⟨ab, ao, rfl, pa⟩ := hA hys
    have pa' : ptr (hp w) ab ao (E.all ys) := pa.mono hI
    have hnl : (E.all ys).length = ys.length * i.size := by rw [E.all_length, hsz]
    have hnews : ∀ j v, (E.all ys)[j]? = some v → w.cell? ((⟨ab, ao, none⟩ : Addr).add j) = some v := fun j v hj => pa'.cell j v hj
    have h0 : 0 < ys.length := List.length_pos_iff.2 hys
    rcases hr with ⟨rfl, rfl⟩ | ⟨b, o, cc, cur, rfl, hb', hle, hcm, hcur, hseg⟩
    · -- onto nil
      have hrun := run_append_nil (P := P) w t ty E.T i z ht hi hz ⟨ab, ao, none⟩ ys.length c (E.all ys) hnl hnews h0 (by simp at hlen; omega) (by rw [hby]; simp at hbd; omega)
      have hge := grownCap_ge w ys.length 0 E.T
      refine ⟨_, _, hrun, ?_, ⟨rfl, rfl, rfl, by simp, fun k hk _ => heap_alloc_old w.drew _ hk, Nat.le_succ _⟩, fun x hx => ?_⟩
      · refine .inr ⟨w.heap.size, 0, grownCap w ys.length 0 E.T, _, by simp, hp_alloc_new w.drew _, by simpa using hge, grownCap_le_maxLen w _ _ _ (by simp at hlen; omega), ?_, ?_⟩
        · rw [Nat.zero_add]
          simp only [Array.size_append, List.size_toArray, hnl, hsz, size_zeroCells, hzs]
          rw [← Nat.add_mul, Nat.add_sub_cancel' hge]
          exact Nat.le_refl _
        · simp only [Array.toList_append, List.nil_append, List.drop_zero]
          have : (E.all ys).length = ys.length * E.sz := E.all_length ys
          rw [← this]
          simp
      · simp [Value.ownBlock] at hx
        subst hx
        exact ⟨.inr (Nat.le_refl _), by simp⟩
    · have hcur' : o + xs.length * E.sz ≤ cur.size := by
        have := Nat.mul_le_mul_right E.sz hle
        omega
      have holds : ∀ j v, (E.all xs)[j]? = some v → w.cell? ((⟨b, o, none⟩ : Addr).add j) = some v := fun j v hj =>
        ptr.cell (w := w) ⟨cur, E.T, (0, 0), hb', by rw [E.all_length]; exact hseg⟩ j v hj
      by_cases hroom : xs.length + ys.length ≤ cc
      · -- in place
        have hfit : o + xs.length * E.sz + (E.all ys).length ≤ cur.size := by
          rw [E.all_length, Nat.add_assoc, ← Nat.add_mul]
          have := Nat.mul_le_mul_right E.sz hroom
          omega
        have hst := run_storeCells_at P b (o + xs.length * E.sz) E.T (E.all ys) 0 cur w hb' (by simpa using hfit) (E.all_one' ys)
        simp only [Nat.add_zero] at hst
        have hf := run_firstCells_some (P := P) w i.size ys.length ⟨ab, ao, none⟩ ys.length c (E.all ys) hnl hnews
        refine ⟨.slice (some ⟨b, o, none⟩) (xs.length + ys.length) cc, w.setRow b (cur.toList.take (o + xs.length * E.sz) ++ E.all ys ++ cur.toList.drop (o + xs.length * E.sz + (E.all ys).length)).toArray, ?_, .inr ⟨b, o, cc, (cur.toList.take (o + xs.length * E.sz) ++ E.all ys ++ cur.toList.drop (o + xs.length * E.sz + (E.all ys).length)).toArray, by rw [List.length_append], setRow_heap w b cur _ E.T _ hb', by rw [List.length_append]; exact hroom, hcm, ?_, ?_⟩, chg_setRow w b _, fun x hx => ?_⟩
        · rw [hsz] at hf
          simp only [List.append_assoc] at hst ⊢
          simp [Builtin.append_, run_underlying ht, sizeOf, typeInfo, hi, Builtin.lenOf, hroom, hf, add_off, hsz, hst]
        · simp only [List.size_toArray, List.length_append, List.length_take, List.length_drop, Array.length_toList]
          omega
        · obtain ⟨pre, post, hl, hpre, hx⟩ := take_of_seg hseg (by simpa using hcur')
          rw [hl, ← hpre, ← hx, E.all_append]
          simp only [List.append_assoc]
          rw [show pre.length + (E.all xs).length = (pre ++ E.all xs).length by simp, ← List.append_assoc pre, List.take_left]
          simp only [List.append_assoc, List.drop_left]
          rw [show (xs ++ ys).length * E.sz = (E.all xs ++ E.all ys).length by rw [← E.all_append, E.all_length], ← List.append_assoc, List.take_left]
        · refine ⟨.inl (by simpa [Value.ownBlock] using hx), ?_⟩
          simp [Value.ownBlock] at hx
          subst hx
          simp only [size_setRow]
          exact hp_lt hb'
      · -- a new row
        have hrun := run_append_grow (P := P) w t ty E.T i z ht hi hz ⟨b, o, none⟩ xs.length cc (E.all xs) (by rw [E.all_length, hsz]) holds ⟨ab, ao, none⟩ ys.length c (E.all ys) hnl hnews (by omega) (by omega) (growslice_fits (by omega) (by rw [hby]; exact hbd))
        have hge := grownCap_ge w (xs.length + ys.length) cc E.T
        refine ⟨_, _, hrun, ?_, ⟨rfl, rfl, rfl, by simp, fun k hk _ => heap_alloc_old w.drew _ hk, Nat.le_succ _⟩, fun x hx => ?_⟩
        · refine .inr ⟨w.heap.size, 0, _, _, by rw [List.length_append], hp_alloc_new w.drew _, by rw [List.length_append]; exact hge, grownCap_le_maxLen w _ _ _ (by omega), ?_, ?_⟩
          · rw [Nat.zero_add]
            simp only [Array.size_append, List.size_toArray, E.all_length, size_zeroCells, hzs]
            rw [← Nat.add_mul, ← Nat.add_mul, Nat.add_sub_cancel' hge]
            exact Nat.le_refl _
          · simp only [Array.toList_append, List.drop_zero, ← E.all_append]
            rw [← E.all_length]
            simp
        · simp [Value.ownBlock] at hx
          subst hx
          exact ⟨.inr (Nat.le_refl _), by simp⟩

end

section
variable {P : Program} {n : Nat} {ops : Array Oper} {e : Env} {dst : Option Tmp} {ty : TypeId} {pos : String} {af : Array Edge} {w0 w : World} {I0 I : Heap} {L : List Res}
section
variable {α : Type} {E : ET P α}
theorem own_nodup (v : Value) : v.ownBlock.toList.Nodup := by cases v.ownBlock <;> simp
/-- append onto a slice of one's own. -/
theorem e_app (i : Nat) {t : TypeId} {x y : Operand} {s0 av : Value} {xs ys : List α} (M : Mem w0 I0 I L w) (hi : L[i]? = some (row E s0 xs)) (ha : rdSl E I av ys) (ht : P.underlying t = some (.slice E.T)) (hx : evo e x = some (s0)) (hy : evo e y = some (av)) (hb : (xs.length + ys.length) * E.by' ≤ 140737488355328) :
    Eff P n ops ⟨dst, .call { callee := .builtin .append, args := #[x, y], argTypes := #[t, t] }, ty, pos, af, none⟩ e w fun v w' => ∃ u : SV, v = sv u ∧ Mem w0 I0 I (L.set i (row E (sv u) (xs ++ ys))) w' := by
  replace hx := ev_of hx
  replace hy := ev_of hy
  obtain ⟨v', w', hrun, h1, h2, h3⟩ := run_append (ty := ty) M.imm ht (M.holds _ (getElem?_mem' hi)) ha hb
  obtain ⟨u, rfl⟩ := rowHolds_slice h1
  refine Eff.run (v := sv u) (w' := w') ?_ rfl ⟨u, rfl, M.upd i hi _ h2 (own_nodup (sv u)) (fun b hb => (h3 b hb).1) (fun b hb => (h3 b hb).2) h1⟩
  simp only [execOp, resolve, invoke, builtin, Sem.run_bind, Sem.run_pure, Result.andThen_ok, List.map_toArray, List.map_cons, List.map_nil, hx, hy, hrun]
theorem all_replicate (E : ET P α) (y : α) : ∀ m, E.all (List.replicate m y) = (List.replicate m (E.cells y)).flatten := by
  intro m; induction m with
  | zero => rfl
  | succ m ih =>
    rw [List.replicate_succ, List.replicate_succ, List.flatten_cons, ← ih]
    simp [ET.all]
theorem madeCells_all (z : Array Value) (hz : 0 < z.size) (m : Nat) : (madeCells z (m * z.size)).toList = (List.replicate m z.toList).flatten := by
  induction m with
  | zero => simp [madeCells]
  | succ m ih =>
    rw [List.replicate_succ', List.flatten_append, ← ih]
    apply List.ext_getElem?
    intro j
    simp only [madeCells, Array.toList_map, Array.toList_range, List.getElem?_map, List.getElem?_append, List.length_map, List.length_range, List.flatten_singleton]
    rcases Nat.lt_or_ge j (m * z.size) with h | h
    · have h2 : j < (m + 1) * z.size := by rw [Nat.add_mul]; omega
      simp [h, h2]
    · rcases Nat.lt_or_ge j ((m + 1) * z.size) with h2 | h2
      · have h3 : j - m * z.size < z.size := by rw [Nat.add_mul] at h2; omega
        have h4 : j % z.size = j - m * z.size := by
          conv => lhs; rw [show j = (j - m * z.size) + z.size * m by rw [Nat.mul_comm z.size]; omega]
          rw [Nat.add_mul_mod_self_left, Nat.mod_eq_of_lt h3]
        simp [Nat.not_lt.2 h, h2, h3, h4]
      · have h3 : z.size ≤ j - m * z.size := by rw [Nat.add_mul] at h2; omega
        simp [Nat.not_lt.2 h, Nat.not_lt.2 h2, h3]
/-- make([]T, m). -/
theorem e_make {t : TypeId} {x y : Operand} {k k2 : IntKind} {m : Nat} {zv : α} (M : Mem w0 I0 I L w) (ht : P.underlying t = some (.slice E.T)) (hz : zeroOf P E.T = some (E.cells zv)) (hx : evo e x = some (.int k (m : Int))) (hy : evo e y = some (.int k2 (m : Int))) (hb : m * E.by' ≤ 281474976710656) :
    Eff P n ops ⟨dst, .makeSlice t x y, ty, pos, af, none⟩ e w fun v w' => ∃ u : SV, v = sv u ∧ Mem w0 I0 I (row E (sv u) (List.replicate m zv) :: L) w' := by
  replace hx := ev_of hx
  replace hy := ev_of hy
  obtain ⟨i, z, hi, hsz, hby, hz1, hzs⟩ := E.info
  have hzc : z.cells.toList = E.cells zv := by
    unfold zeroOf at hz
    rw [hi] at hz
    simpa [hz1] using hz
  have hpos := E.pos
  have hby0 := E.byb
  have hm : m ≤ 281474976710656 := Nat.le_trans (Nat.le_mul_of_pos_right _ hby0) hb
  have hbz : (i.bytes : Int) * (m : Int) ≤ 281474976710656 := by
    have : ((i.bytes * m : Nat) : Int) ≤ 281474976710656 := by rw [hby, Nat.mul_comm]; omega
    rwa [Int.natCast_mul] at this
  have hrun := run_make (P := P) w t E.T i z ht hi hz1 k k2 m m (by omega) (by omega) hbz (by omega)
  simp only [Int.toNat_natCast] at hrun
  refine Eff.run (v := .slice (some ⟨w.heap.size, 0, none⟩) m m) (w' := w.alloc (.cells (madeCells z.cells (m * i.size)) E.T)) ?_ rfl ⟨(some ⟨w.heap.size, 0, none⟩, m, m), rfl, M.alloc _ _ (by simp [row, Value.ownBlock, sv]) fun h eh => .inr ⟨w.heap.size, 0, m, madeCells z.cells (m * i.size), by simp [sv], eh, by simp, by simp only [maxLen]; omega, ?_, ?_⟩⟩
  · simp only [execOp, hx, hy, hrun, Sem.run_bind, Result.andThen_ok, Sem.run_pure]
  · rw [size_madeCells, hsz]; omega
  · rw [hsz, ← hzs, madeCells_all _ (by omega), hzc, all_replicate]
    simp only [List.drop_zero, List.length_replicate]
    rw [hzs, List.take_of_length_le]
    simp [E.len]
/-- s[k:] of a slice of one's own: the value turns, the memory does not. -/
theorem run_cut_lo {t : TypeId} {A : Option Addr} {m c k : Nat} {kd : IntKind} (ht : P.underlying t = some (.slice E.T)) (hk : k ≤ m) (w : World) : (Instr.slice t (.slice A m c) (some (.int kd (k : Int))) none none).run P w = .ok (.slice (if c = k then A else A.map (·.add (k * E.sz))) (m - k) (c - k)) w := by
  obtain ⟨i, z, hi, hsz, hby, hz1, hzs⟩ := E.info
  have h1 : (0 : Int) ≤ (k : Int) ∧ (k : Int) ≤ (m : Int) := by omega
  simp [Instr.slice, run_underlying ht, Instr.sliceBounds, Instr.sliceBound, asIntOf, hk, sizeOf, typeInfo, hi, hsz]
theorem rowHolds.cut {h : Heap} {A : Option Addr} {m c k : Nat} {xs : List α} (hk : k ≤ xs.length) (r : rowHolds E (.slice A m c) xs h) : rowHolds E (.slice (if c = k then A else A.map (·.add (k * E.sz))) (m - k) (c - k)) (xs.drop k) h := by
  rcases r with ⟨hv, rfl⟩ | ⟨b, o, cc, cur, hv, hb, h1, h2, h3, h4⟩
  · cases hv
    have : k = 0 := by simpa using hk
    subst this
    exact .inl ⟨by simp, by simp⟩
  · cases hv
    refine .inr ⟨b, if c = k then o else o + k * E.sz, c - k, cur, ?_, hb, by simp; omega, by omega, ?_, ?_⟩
    · split <;> simp [add_off]
    · split
      · rename_i he; subst he; simp; omega
      · have : k * E.sz + (c - k) * E.sz = c * E.sz := by rw [← Nat.add_mul]; congr 1; omega
        omega
    · have hall : E.all xs = E.all (xs.take k) ++ E.all (xs.drop k) := by rw [← E.all_append, List.take_append_drop]
      have hl := E.all_length (xs.take k)
      rw [List.length_take, Nat.min_eq_left hk] at hl
      split
      · rename_i he
        have : xs.drop k = [] := List.drop_eq_nil_of_le (by omega)
        rw [this]; simp [ET.all]
      · rw [← List.drop_drop]
        have h5 : ((cur.toList.drop o).take (xs.length * E.sz)).drop (k * E.sz) = E.all (xs.drop k) := by
          rw [h4, hall, ← hl, List.drop_left]
        rw [List.drop_take] at h5
        rw [← h5]
        congr 1
        rw [List.length_drop, ← Nat.sub_mul]
theorem Mem.reval (M : Mem w0 I0 I L w) (i : Nat) {r : Res} (hi : L[i]? = some r) (r' : Res) (hb : ∀ b ∈ r'.blks, b ∈ r.blks) (hn : r'.blks.Nodup) (hr : r'.holds (hp w)) : Mem w0 I0 I (L.set i r') w :=
  M.upd i hi r' ⟨rfl, rfl, rfl, Nat.le_refl _, fun _ _ _ => rfl, Nat.le_refl _⟩ hn (fun b h => .inl (hb b h)) (fun b h => (M.own (getElem?_mem' hi) (hb b h)).2.1) hr
/-- s = s[k:] of a slice of one's own. -/
theorem e_cut (i : Nat) {t : TypeId} {x y : Operand} {kd : IntKind} {s0 : Value} {k : Nat} {xs : List α} (M : Mem w0 I0 I L w) (hi : L[i]? = some (row E s0 xs)) (ht : P.underlying t = some (.slice E.T)) (hx : evo e x = some (s0)) (hy : evo e y = some (.int kd (k : Int))) (hk : k ≤ xs.length) :
    Eff P n ops ⟨dst, .slice t x (some y) none none, ty, pos, af, none⟩ e w fun v w' => ∃ u : SV, v = sv u ∧ Mem w0 I0 I (L.set i (row E (sv u) (xs.drop k))) w' := by
  replace hx := ev_of hx
  replace hy := ev_of hy
  have hr : rowHolds E s0 xs (hp w) := M.holds _ (getElem?_mem' hi)
  obtain ⟨A, c, rfl, _⟩ := hr.rd
  have hcut := hr.cut hk
  refine Eff.run (v := .slice (if c = k then A else A.map (·.add (k * E.sz))) (xs.length - k) (c - k)) (w' := w) ?_ rfl ⟨(if c = k then A else A.map (·.add (k * E.sz)), xs.length - k, c - k), rfl, M.reval i hi _ ?_ (own_nodup _) hcut⟩
  · have := run_cut_lo (E := E) (A := A) (m := xs.length) (c := c) (kd := kd) ht hk w
    simp only [execOp, Sem.run_bind, Instr.sliceAt, run_underlying ht, Result.andThen_ok, Option.map_some, Option.map_none, hx, hy, this, Sem.run_pure]
  · intro b hb
    simp only [row, sv] at hb ⊢
    cases A with
    | none => simp [Value.ownBlock] at hb
    | some a =>
      have : ∀ m : Nat, (a.add m).block = a.block := fun m => by unfold Addr.add; split <;> rfl
      split at hb <;> simpa [Value.ownBlock, this] using hb
/-- s[k:] of a slice that is read. -/
theorem rdSl.cut {h : Heap} {A : Option Addr} {m c k : Nat} {xs : List α} (hk : k ≤ xs.length) (r : rdSl E h (.slice A m c) xs) : rdSl E h (.slice (if c = k then A else A.map (·.add (k * E.sz))) (m - k) (c - k)) (xs.drop k) := by
  obtain ⟨A', c', hv, h1, h2, h3⟩ := r
  cases hv
  refine ⟨_, c - k, by rw [List.length_drop], by simp; omega, by omega, fun hne => ?_⟩
  have hlt : k < xs.length := by
    rcases Nat.lt_or_ge k xs.length with h | h
    · exact h
    · exact absurd (List.drop_eq_nil_of_le h) hne
  obtain ⟨b, o, rfl, p⟩ := h3 (by intro e; subst e; simp at hlt)
  rw [if_neg (by omega)]
  refine ⟨b, o + k * E.sz, by simp [add_off], ?_⟩
  have hall : E.all xs = E.all (xs.take k) ++ E.all (xs.drop k) := by rw [← E.all_append, List.take_append_drop]
  have hl := E.all_length (xs.take k)
  rw [List.length_take, Nat.min_eq_left hk] at hl
  rw [hall, ← List.append_nil (_ ++ _)] at p
  rw [← hl]
  exact p.part
/-! a store into an element of a slice of one's own -/
/-- In every world of Mem the element's place is (b, o). -/
def eptr (E : ET P α) (s0 : Value) (j : Nat) (b o : Nat) : Prop := ∃ o' m c, s0 = .slice (some ⟨b, o', none⟩) m c ∧ o = o' + j * E.sz
theorem q_ixw {S : World → Prop} {t : TypeId} {x ix : Operand} {s0 : Value} {k : IntKind} {xs : List α} {j : Nat} (i : Nat) (M : Mem w0 I0 I L w) (hL : L[i]? = some (row E s0 xs)) (ht : P.underlying t = some (.slice E.T)) (hx : evo e x = some (s0)) (hi : evo e ix = some (.int k (j : Int))) (hj : j < xs.length) :
    ∃ b o, eptr E s0 j b o ∧ Quiet P n ops S ⟨dst, .indexAddr t x ix, ty, pos, af, none⟩ e (.pointer (some ⟨b, o, none⟩)) := by
  replace hx := ev_of hx
  replace hi := ev_of hi
  rcases (M.holds _ (getElem?_mem' hL) : rowHolds E s0 xs (hp w)) with ⟨_, rfl⟩ | ⟨b, o, c, cur, rfl, _⟩
  · simp at hj
  · exact ⟨b, _, ⟨o, _, c, rfl, rfl⟩, q_of rfl fun w _ => run_ix (s0 := .slice (some ⟨b, o, none⟩) xs.length c) ht hx hi hj⟩
theorem wl_ixw {K : Env → World → Prop} {rest : List Oper} {l : List (Nat × Value)} {b : Env} {d : Nat} {t : TypeId} {x ix : Operand} {v : Value} {k : IntKind} {xs : List α} {j : Nat} (i : Nat) (M : Mem w0 I0 I L w) (hL : L[i]? = some (row E v xs)) (ht : P.underlying t = some (.slice E.T)) (hx : evo (look l b) x = some v) (hi : evo (look l b) ix = some (.int k (j : Int))) (hj : j < xs.length) (hn : Nat.blt d n = true)
    (h : ∀ b' o', eptr E v j b' o' → WL P n ops K rest (look ((d, .pointer (some ⟨b', o', none⟩)) :: l) b) w) : WL P n ops K (⟨some d, .indexAddr t x ix, ty, pos, af, none⟩ :: rest) (look l b) w := by
  obtain ⟨b', o', p, q⟩ := q_ixw (P := P) (n := n) (ops := ops) (S := Mem w0 I0 I L) (dst := some d) (ty := ty) (pos := pos) (af := af) i M hL ht hx hi hj
  exact wl_q q M rfl hn (h b' o' p)
theorem wa_ixw {F : List Nat} (i r : Nat) {S : World → Prop} {K : Env → World → Prop} {l : List (Nat × Value)} {b : Env} {d fuel : Nat} {listed : Array Bool} {t : TypeId} {x ix : Operand} {v : Value} {k : IntKind} {xs : List α} {j : Nat} (M : Mem w0 I0 I L w) (hS : S w) (hL : L[r]? = some (row E v xs)) (hi0 : ops[i]? = some ⟨some d, .indexAddr t x ix, ty, pos, af, none⟩) (hs : may ops F listed i = true) (ht : P.underlying t = some (.slice E.T)) (hx : evo (look l b) x = some v) (hi : evo (look l b) ix = some (.int k (j : Int))) (hj : j < xs.length) (hn : Nat.blt d n = true)
    (h : ∀ b' o', eptr E v j b' o' → WA P n ops S F K fuel (listed.setIfInBounds i true) (look ((d, .pointer (some ⟨b', o', none⟩)) :: l) b) w) : WA P n ops S F K (fuel + 1) listed (look l b) w := by
  obtain ⟨b', o', p, q⟩ := q_ixw (P := P) (n := n) (ops := ops) (S := S) (dst := some d) (ty := ty) (pos := pos) (af := af) r M hL ht hx hi hj
  exact wa_q i hi0 hs q hS rfl hn (h b' o' p)
theorem set_seg {l : List Value} {o k : Nat} {a c d : List Value} {cs : List Value} (h : (l.drop o).take k = a ++ c ++ d) (hk : o + k ≤ l.length) (hc : cs.length = c.length) : ((l.take (o + a.length) ++ cs ++ l.drop (o + a.length + cs.length)).drop o).take k = a ++ cs ++ d := by
  obtain ⟨pre, post, hl, hpre, hx⟩ := take_of_seg h hk
  subst hl
  have e1 : o + a.length = (pre ++ a).length := by simp [hpre]
  have e2 : (pre ++ a).length + cs.length = (pre ++ a ++ c).length := by simp [hc]; omega
  have e3 : pre ++ (a ++ c ++ d) ++ post = (pre ++ a) ++ (c ++ d ++ post) := by simp
  have e4 : pre ++ (a ++ c ++ d) ++ post = (pre ++ a ++ c) ++ (d ++ post) := by simp
  rw [e1, e2]
  conv => lhs; rw [e3, List.take_left]
  rw [← e3, e4, List.drop_left]
  have e5 : pre ++ a ++ cs ++ (d ++ post) = pre ++ ((a ++ cs ++ d) ++ post) := by simp
  rw [e5, ← hpre, List.drop_left]
  have : k = (a ++ cs ++ d).length := by rw [← hx]; simp [hc]
  rw [this, List.take_left]
theorem e_str (i : Nat) {x y : Operand} {s0 : Value} {xs : List α} {j b o : Nat} {u : α} {T : TypeId} (M : Mem w0 I0 I L w) (hL : L[i]? = some (row E s0 xs)) (hT : E.T = T) (hx : evo e x = some (.pointer (some ⟨b, o, none⟩))) (hp1 : eptr E s0 j b o) (hj : j < xs.length) (hy : evo e y = some (E.val u)) :
    Eff P n ops ⟨dst, .store T x y, ty, pos, af, none⟩ e w fun v w' => Mem w0 I0 I (L.set i (row E s0 (xs.set j u))) w' := by
  subst hT
  replace hx := ev_of hx
  replace hy := ev_of hy
  obtain ⟨inf, z, hi, hsz, _⟩ := E.info
  obtain ⟨o', m, c', rfl, rfl⟩ := hp1
  rcases (M.holds _ (getElem?_mem' hL) : rowHolds E _ xs (hp w)) with ⟨hv, _⟩ | ⟨b', o2, c, cur, hv, hb, h1, h2, h3, h4⟩
  · cases hv
  · cases hv
    have hsp := E.all_split xs (List.getElem?_eq_getElem hj)
    have hl1 : (E.all (xs.take j)).length = j * E.sz := by rw [E.all_length, List.length_take, Nat.min_eq_left (by omega)]
    have hfit : o' + j * E.sz + E.sz ≤ cur.size := by
      have : (j + 1) * E.sz ≤ c' * E.sz := Nat.mul_le_mul_right _ (by omega)
      rw [Nat.add_mul] at this
      omega
    have hst := run_storeCells_at P b (o' + j * E.sz) E.T (E.cells u) 0 cur w hb (by rw [E.len]; simpa using hfit) (E.one u)
    simp only [Nat.add_zero, E.len] at hst
    refine Eff.run0 (w' := _) ?_ rfl (M.upd i hL _ (w' := w.setRow b (cur.toList.take (o' + j * E.sz) ++ E.cells u ++ cur.toList.drop (o' + j * E.sz + E.sz)).toArray) (chg_setRow w b _) (by simp [row, Value.ownBlock]) (fun x h => .inl h) (fun x h => ?_) (.inr ⟨b, o', c', (cur.toList.take (o' + j * E.sz) ++ E.cells u ++ cur.toList.drop (o' + j * E.sz + E.sz)).toArray, by rw [List.length_set], setRow_heap w b cur _ E.T _ hb, by rw [List.length_set]; exact h1, h2, ?_, ?_⟩))
    · simp [execOp, Instr.storeAt, Instr.sureAddr, hx, hy, storeVar, E.vcells, E.len, sizeOf, typeInfo, hi, hsz, hst]
    · have := M.own (getElem?_mem' hL) h
      simp only [size_setRow]
      exact this.2.1
    · simp only [List.size_toArray, List.length_append, List.length_take, List.length_drop, Array.length_toList, E.len]
      omega
    · rw [hsp] at h4
      have := set_seg (cs := E.cells u) h4 (by have := Nat.mul_le_mul_right E.sz h1; simp only [Array.length_toList]; omega) (by rw [E.len, E.len])
      rw [hl1, E.len] at this
      rw [List.length_set]
      rw [this, E.all_split (xs.set j u) (j := j) (x := u) (by simp [hj])]
      congr 2
      · congr 1; rw [List.take_set_of_le (Nat.le_refl _)]
      · rw [List.drop_set_of_lt (by omega)]
end

/-! ### calls -/
theorem evs_of {e : Env} : ∀ {xs : List Operand} {vs : List Value}, xs.map (evo e) = vs.map some → xs.map (evl e) = vs
  | [], [], _ => rfl
  | [], _ :: _, h => by simp at h
  | _ :: _, [], h => by simp at h
  | x :: xs, v :: vs, h => by
    simp only [List.map_cons, List.cons.injEq] at h
    rw [List.map_cons, ev_of h.1, evs_of h.2]
theorem run_call {f : FuncId} {fn : Func} {args : List Operand} {vs : List Value} {tys : Array TypeId} (hf : P.funcs[f]? = some fn) (hb : fn.body.isNone = false) (hn : (fn.name == "runtime.NumGoroutine") = false) (ha : args.map (evo e) = vs.map some) (w : World) :
    (execOp (evl e) ⟨dst, .call { callee := .value (.func f), args := args.toArray, argTypes := tys }, ty, pos, af, none⟩).run P w = .ok (.enter f vs.toArray) w := by
  replace ha := evs_of ha
  have h2 : (args.toArray.map (evl e)) = vs.toArray := by rw [← ha]; simp
  have h3 : evl e (.func f) = .func (.func f) #[] #[] := rfl
  simp only [execOp, resolve, h3, Deferred.ofValue, Sem.run_bind, Sem.run_pure, Result.andThen_ok, invoke, callFunc, run_program, hf, hn, hb, h2]
  simp
/-- A call, by its contract. -/
theorem e_call {f : FuncId} {fn : Func} {args : List Operand} {vs : List Value} {tys : Array TypeId} {post : Value → Heap → Prop} (M : Mem w0 I0 I L w) (hf : P.funcs[f]? = some fn) (hb : (fn.body.isNone || fn.name == "runtime.NumGoroutine") = false) (ha : args.map (evo e) = vs.map some)
    (c : Calls P f vs.toArray w (Ret w I post)) : Eff P n ops ⟨dst, .call { callee := .value (.func f), args := args.toArray, argTypes := tys }, ty, pos, af, none⟩ e w fun v w' => ∃ I', hle I I' ∧ post v I' ∧ Mem w0 I0 I' L w' := by
  simp only [Bool.or_eq_false_iff] at hb
  refine Eff.call (run_call hf hb.1 hb.2 ha w) rfl (c.mono ?_)
  rintro en w' ⟨v, I', rfl, g, hp1⟩
  exact ⟨v, rfl, I', g.hle M.imm, hp1, M.call g⟩
/-- The same, the contract ahead. -/
theorem e_callC {f : FuncId} {fn : Func} {args : List Operand} {vs : List Value} {tys : Array TypeId} {post : Value → Heap → Prop} (M : Mem w0 I0 I L w) (c : Calls P f vs.toArray w (Ret w I post)) (hf : P.funcs[f]? = some fn) (hb : (fn.body.isNone || fn.name == "runtime.NumGoroutine") = false) (ha : args.map (evo e) = vs.map some) :
    Eff P n ops ⟨dst, .call { callee := .value (.func f), args := args.toArray, argTypes := tys }, ty, pos, af, none⟩ e w fun v w' => ∃ I', hle I I' ∧ post v I' ∧ Mem w0 I0 I' L w' := e_call M hf hb ha c
theorem e_callVC {f : FuncId} {fn : Func} {g : Operand} {args : List Operand} {vs caps : List Value} {tys : Array TypeId} {post : Value → Heap → Prop} (M : Mem w0 I0 I L w) (c : Calls P f (vs ++ caps).toArray w (Ret w I post)) (hf : P.funcs[f]? = some fn) (hb : (fn.body.isNone || fn.name == "runtime.NumGoroutine") = false) (hg : evo e g = some (.func (.func f) #[] caps.toArray)) (ha : args.map (evo e) = vs.map some) :
    Eff P n ops ⟨dst, .call { callee := .value g, args := args.toArray, argTypes := tys }, ty, pos, af, none⟩ e w fun v w' => ∃ I', hle I I' ∧ post v I' ∧ Mem w0 I0 I' L w' := by
  replace hg := ev_of hg
  simp only [Bool.or_eq_false_iff] at hb
  refine Eff.call (f := f) (args := (vs ++ caps).toArray) ?_ rfl (c.mono ?_)
  · replace ha := evs_of ha
    have h2 : (args.toArray.map (evl e)) = vs.toArray := by rw [← ha]; simp
    simp only [execOp, resolve, hg, Deferred.ofValue, Sem.run_bind, Sem.run_pure, Result.andThen_ok, invoke, callFunc, run_program, hf, hb.1, hb.2, h2]
    simp
  · rintro en w' ⟨v, I', rfl, g, hp1⟩
    exact ⟨v, rfl, I', g.hle M.imm, hp1, M.call g⟩
/-- A call, whatever its contract says. -/
theorem e_callR {f : FuncId} {fn : Func} {args : List Operand} {vs : List Value} {tys : Array TypeId} {Post : Value → World → Prop} (hf : P.funcs[f]? = some fn) (hb : (fn.body.isNone || fn.name == "runtime.NumGoroutine") = false) (ha : args.map (evo e) = vs.map some)
    (c : Calls P f vs.toArray w fun en w' => ∃ v, en = .returned v ∧ Post v w') : Eff P n ops ⟨dst, .call { callee := .value (.func f), args := args.toArray, argTypes := tys }, ty, pos, af, none⟩ e w Post := by
  simp only [Bool.or_eq_false_iff] at hb
  exact Eff.call (run_call hf hb.1 hb.2 ha w) rfl c
/-- A call that gives one of a kind. -/
theorem e_callO {α : Type} {val : α → Value} {N : α → World → Prop} {f : FuncId} {fn : Func} {args : List Operand} {vs : List Value} {tys : Array TypeId} (hf : P.funcs[f]? = some fn) (hb : (fn.body.isNone || fn.name == "runtime.NumGoroutine") = false) (ha : args.map (evo e) = vs.map some)
    (c : Calls P f vs.toArray w fun en w' => ∃ x, en = .returned (val x) ∧ N x w') : Eff P n ops ⟨dst, .call { callee := .value (.func f), args := args.toArray, argTypes := tys }, ty, pos, af, none⟩ e w fun v w' => ∃ x, v = val x ∧ N x w' :=
  e_callR hf hb ha (c.mono fun en w' h => by obtain ⟨x, rfl, h⟩ := h; exact ⟨_, rfl, x, rfl, h⟩)
theorem q_makeFunc {S : World → Prop} {f : FuncId} {caps : List Operand} {vs : List Value} (hc : caps.map (evo e) = vs.map some) : Quiet P n ops S ⟨dst, .makeFunc (.func f) #[] caps.toArray, ty, pos, af, none⟩ e (.func (.func f) #[] vs.toArray) := by
  refine q_of rfl fun w _ => ?_
  replace hc := evs_of hc
  simp [execOp, Instr.makeFunc, ← hc]
end
end Go.Proofs.Ytfepjcmjkaolgaa.G

set_option linter.all false
namespace Go.Proofs.Ytfepjcmjkaolgaa.G
open Go Go.RowKit

section
variable {P : Program} {α : Type} {E : ET P α} {V : ET P SV}
/-- Rows of rows: the outer row holds os, the inner rows are those of vs. -/
def inner (E : ET P α) (vs : List SV) (xss : List (List α)) (h : Heap) : Prop := vs.length = xss.length ∧ ∀ (j : Nat) (u : SV) (xs : List α), vs[j]? = some u → xss[j]? = some xs → rowHolds E (sv u) xs h
def oblks (vs : List SV) : List Nat := vs.flatMap fun u => (sv u).ownBlock.toList
theorem mem_oblks {vs : List SV} {j : Nat} {u : SV} (h : vs[j]? = some u) {b : Nat} (hb : b ∈ (sv u).ownBlock.toList) : b ∈ oblks vs := List.mem_flatMap.2 ⟨u, List.mem_of_getElem? h, hb⟩
theorem inner.loc {vs : List SV} {xss : List (List α)} {h h' : Heap} (e : ∀ b ∈ oblks vs, h b = h' b) (i : inner E vs xss h) : inner E vs xss h' :=
  ⟨i.1, fun j u xs hu hx => (row E (sv u) xs).loc h h' (fun b hb => e b (mem_oblks hu hb)) (i.2 j u xs hu hx)⟩
def mat (E : ET P α) (V : ET P SV) (v : Value) (os vs : List SV) (xss : List (List α)) : Res where
  blks := v.ownBlock.toList ++ oblks vs
  holds h := rowHolds V v os h ∧ inner E vs xss h
  loc h h' e k := ⟨(row V v os).loc h h' (fun b hb => e b (List.mem_append.2 (.inl hb))) k.1, k.2.loc fun b hb => e b (List.mem_append.2 (.inr hb))⟩
/-- What reads so. -/
def rdMat (E : ET P α) (V : ET P SV) (h : Heap) (v : Value) (xss : List (List α)) : Prop := ∃ vs : List SV, rdSl V h v vs ∧ vs.length = xss.length ∧ ∀ (j : Nat) (u : SV) (xs : List α), vs[j]? = some u → xss[j]? = some xs → rdSl E h (sv u) xs
theorem rdMat.mono {h h' : Heap} {v : Value} {xss : List (List α)} (k : hle h h') (r : rdMat E V h v xss) : rdMat E V h' v xss := by
  obtain ⟨vs, h1, h2, h3⟩ := r
  exact ⟨vs, h1.mono k, h2, fun j u xs hu hx => (h3 j u xs hu hx).mono k⟩
theorem rdMat.at_ {h : Heap} {v : Value} {xss : List (List α)} (r : rdMat E V h v xss) {j : Nat} {xs : List α} (hj : xss[j]? = some xs) : ∃ vs : List SV, ∃ u : SV, rdSl V h v vs ∧ vs[j]? = some u ∧ rdSl E h (sv u) xs := by
  obtain ⟨vs, h1, h2, h3⟩ := r
  have hlt : j < vs.length := by rw [h2]; exact (List.getElem?_eq_some_iff.1 hj).1
  exact ⟨vs, vs[j], h1, List.getElem?_eq_getElem hlt, h3 j _ xs (List.getElem?_eq_getElem hlt) hj⟩
theorem rdMat_slice {h : Heap} {v : Value} {xss : List (List α)} (r : rdMat E V h v xss) : ∃ u : SV, v = sv u := by
  obtain ⟨vs, h1, _⟩ := r
  exact rdSl_slice h1
end

section
variable {P : Program} {n : Nat} {ops : Array Oper} {e : Env} {dst : Option Tmp} {ty : TypeId} {pos : String} {af : Array Edge} {w0 w : World} {I0 I : Heap} {L : List Res} {α : Type} {E : ET P α} {V : ET P SV}

theorem Mem.resNodup (M : Mem w0 I0 I L w) {r : Res} (hr : r ∈ L) : r.blks.Nodup := by
  have h := M.nodup
  clear M
  induction L with
  | nil => cases hr
  | cons x L ih =>
    rw [List.flatMap_cons, List.nodup_append] at h
    rcases List.mem_cons.1 hr with rfl | hr
    · exact h.1
    · exact ih hr h.2.1
theorem oblks_nil (m : Nat) : oblks (List.replicate m nilV) = [] := by
  induction m with
  | zero => rfl
  | succ m ih => rw [List.replicate_succ]; simpa [oblks, sv, nilV, Value.ownBlock] using ih
/-- make([][]T, m). -/
theorem Mem.toMat (M : Mem w0 I0 I L w) (i : Nat) (E : ET P α) {v : Value} {m : Nat} (hi : L[i]? = some (row V v (List.replicate m nilV))) : Mem w0 I0 I (L.set i (mat E V v (List.replicate m nilV) (List.replicate m nilV) (List.replicate m []))) w := by
  have hr : rowHolds V v (List.replicate m nilV) (hp w) := M.holds _ (getElem?_mem' hi)
  refine M.reval i hi _ (fun b hb => ?_) ?_ ⟨hr, by simp, fun j u xs hu hx => ?_⟩
  · simp only [mat, oblks_nil, List.append_nil] at hb; exact hb
  · simp only [mat, oblks_nil, List.append_nil]; exact own_nodup v
  · have h1 : u = nilV := by rw [List.getElem?_replicate] at hu; split at hu <;> simp_all
    have h2 : xs = [] := by rw [List.getElem?_replicate] at hx; split at hx <;> simp_all
    subst h1 h2
    exact rowHolds_nil _
theorem Mem.matOut (M : Mem w0 I0 I L w) {i : Nat} {v : Value} {os vs : List SV} {xss : List (List α)} (hi : L[i]? = some (mat E V v os vs xss)) : rdSl V (hp w) v os := ((M.holds _ (getElem?_mem' hi) : rowHolds V v os (hp w) ∧ _).1).rd
/-- The place of an element of the outer row, for a load. -/
theorem q_ixm (i : Nat) {t : TypeId} {x ix : Operand} {v : Value} {k : IntKind} {os vs : List SV} {xss : List (List α)} {j : Nat} {u : SV} (M : Mem w0 I0 I L w) (hL : L[i]? = some (mat E V v os vs xss)) (ht : P.underlying t = some (.slice V.T)) (hx : evo e x = some (v)) (hi : evo e ix = some (.int k (j : Int))) (hj : os[j]? = some u) :
    ∃ b o, sptr (Mem w0 I0 I L) b o (V.cells u) ∧ Quiet P n ops (Mem w0 I0 I L) ⟨dst, .indexAddr t x ix, ty, pos, af, none⟩ e (.pointer (some ⟨b, o, none⟩)) := by
  exact q_ixS ht hx hi hj w M fun w' M' => M'.matOut hL
/-- The place of an element of the outer row, for a store. -/
theorem q_ixmw {S : World → Prop} (i : Nat) {t : TypeId} {x ix : Operand} {v : Value} {k : IntKind} {os vs : List SV} {xss : List (List α)} {j : Nat} (M : Mem w0 I0 I L w) (hL : L[i]? = some (mat E V v os vs xss)) (ht : P.underlying t = some (.slice V.T)) (hx : evo e x = some (v)) (hi : evo e ix = some (.int k (j : Int))) (hj : j < os.length) :
    ∃ b o, eptr V v j b o ∧ Quiet P n ops S ⟨dst, .indexAddr t x ix, ty, pos, af, none⟩ e (.pointer (some ⟨b, o, none⟩)) := by
  replace hx := ev_of hx
  replace hi := ev_of hi
  rcases (M.holds _ (getElem?_mem' hL) : rowHolds V v os (hp w) ∧ _).1 with ⟨_, rfl⟩ | ⟨b, o, c, cur, rfl, _⟩
  · simp at hj
  · exact ⟨b, _, ⟨o, _, c, rfl, rfl⟩, q_of rfl fun w _ => run_ix (s0 := .slice (some ⟨b, o, none⟩) os.length c) ht hx hi hj⟩
theorem wl_ixm {K : Env → World → Prop} {rest : List Oper} {l : List (Nat × Value)} {b : Env} {d : Nat} (i : Nat) {t : TypeId} {x ix : Operand} {v : Value} {k : IntKind} {os vs : List SV} {xss : List (List α)} {j : Nat} {u : SV} (M : Mem w0 I0 I L w) (hL : L[i]? = some (mat E V v os vs xss)) (ht : P.underlying t = some (.slice V.T)) (hx : evo (look l b) x = some v) (hi : evo (look l b) ix = some (.int k (j : Int))) (hj : os[j]? = some u) (hn : Nat.blt d n = true)
    (h : ∀ b' o', sptr (Mem w0 I0 I L) b' o' (V.cells u) → WL P n ops K rest (look ((d, .pointer (some ⟨b', o', none⟩)) :: l) b) w) : WL P n ops K (⟨some d, .indexAddr t x ix, ty, pos, af, none⟩ :: rest) (look l b) w := by
  obtain ⟨b', o', p, q⟩ := q_ixm (P := P) (n := n) (ops := ops) (dst := some d) (ty := ty) (pos := pos) (af := af) i M hL ht hx hi hj
  exact wl_q q M rfl hn (h b' o' p)
theorem wa_ixmw {F : List Nat} (i r : Nat) {S : World → Prop} {K : Env → World → Prop} {l : List (Nat × Value)} {b : Env} {d fuel : Nat} {listed : Array Bool} {t : TypeId} {x ix : Operand} {v : Value} {k : IntKind} {os vs : List SV} {xss : List (List α)} {j : Nat} (M : Mem w0 I0 I L w) (hS : S w) (hL : L[r]? = some (mat E V v os vs xss)) (hi0 : ops[i]? = some ⟨some d, .indexAddr t x ix, ty, pos, af, none⟩) (hs : may ops F listed i = true) (ht : P.underlying t = some (.slice V.T)) (hx : evo (look l b) x = some v) (hi : evo (look l b) ix = some (.int k (j : Int))) (hj : j < os.length) (hn : Nat.blt d n = true)
    (h : ∀ b' o', eptr V v j b' o' → WA P n ops S F K fuel (listed.setIfInBounds i true) (look ((d, .pointer (some ⟨b', o', none⟩)) :: l) b) w) : WA P n ops S F K (fuel + 1) listed (look l b) w := by
  obtain ⟨b', o', p, q⟩ := q_ixmw (P := P) (n := n) (ops := ops) (S := S) (dst := some d) (ty := ty) (pos := pos) (af := af) r M hL ht hx hi hj
  exact wa_q i hi0 hs q hS rfl hn (h b' o' p)
theorem flat_set_nodup : ∀ {vs : List SV} {j : Nat} {u u' : SV} {m : Nat}, (oblks vs).Nodup → (∀ b ∈ oblks vs, b < m) → vs[j]? = some u → (∀ b ∈ (sv u').ownBlock.toList, b ∈ (sv u).ownBlock.toList ∨ m ≤ b) → (oblks (vs.set j u')).Nodup := by
  intro vs
  induction vs with
  | nil => intro j u u' m _ _ h; simp at h
  | cons x vs ih =>
    intro j u u' m hn hm hj h2
    simp only [oblks, List.flatMap_cons, List.nodup_append] at hn
    obtain ⟨n1, n2, n3⟩ := hn
    have hm2 : ∀ b ∈ oblks vs, b < m := fun b hb => hm b (by simp only [oblks, List.flatMap_cons, List.mem_append]; exact .inr hb)
    cases j with
    | zero =>
      simp at hj
      subst hj
      simp only [List.set_cons_zero, oblks, List.flatMap_cons, List.nodup_append]
      refine ⟨own_nodup _, n2, fun a ha b hb => ?_⟩
      rcases h2 a ha with h | h
      · exact n3 a h b hb
      · have := hm2 b hb; omega
    | succ j =>
      simp at hj
      simp only [List.set_cons_succ, oblks, List.flatMap_cons, List.nodup_append]
      refine ⟨n1, ih n2 hm2 hj h2, fun a ha b hb => ?_⟩
      obtain ⟨y, hy, hby⟩ := List.mem_flatMap.1 hb
      obtain ⟨k, hk⟩ := List.getElem?_of_mem hy
      rw [List.getElem?_set] at hk
      split at hk
      · split at hk
        · cases hk
          rcases h2 b hby with h | h
          · exact n3 a ha b (mem_oblks hj h)
          · have := hm a (by simp only [oblks, List.flatMap_cons, List.mem_append]; exact .inl ha); omega
        · cases hk
      · exact n3 a ha b (mem_oblks hk hby)
theorem oblks_set_sub {vs : List SV} {j : Nat} {u' : SV} {b : Nat} (hb : b ∈ oblks (vs.set j u')) : b ∈ (sv u').ownBlock.toList ∨ ∃ k, k ≠ j ∧ ∃ y, vs[k]? = some y ∧ b ∈ (sv y).ownBlock.toList := by
  obtain ⟨y, hy, hby⟩ := List.mem_flatMap.1 hb
  obtain ⟨k, hk⟩ := List.getElem?_of_mem hy
  rw [List.getElem?_set] at hk
  split at hk
  · split at hk
    · cases hk; exact .inl hby
    · cases hk
  · rename_i hne; exact .inr ⟨k, fun e => hne e.symm, y, hk, hby⟩
theorem oblks_apart : ∀ {vs : List SV} (hn : (oblks vs).Nodup) {j k : Nat} {u y : SV}, vs[j]? = some u → vs[k]? = some y → k ≠ j → ∀ b, b ∈ (sv y).ownBlock.toList → b ∉ (sv u).ownBlock.toList := by
  intro vs
  induction vs with
  | nil => intro _ j k u y h; simp at h
  | cons x vs ih =>
    intro hn j k u y hj hk hne b hb hb'
    simp only [oblks, List.flatMap_cons, List.nodup_append] at hn
    obtain ⟨n1, n2, n3⟩ := hn
    cases j with
    | zero =>
      simp at hj; subst hj
      cases k with
      | zero => exact hne rfl
      | succ k => simp at hk; exact n3 b hb' b (mem_oblks hk hb) rfl
    | succ j =>
      simp at hj
      cases k with
      | zero => simp at hk; subst hk; exact n3 b hb b (mem_oblks hj hb') rfl
      | succ k => simp at hk; exact ih n2 hj hk (by omega) b hb hb'
/-- append onto an inner row. -/
theorem e_appm (i j : Nat) {t : TypeId} {x y : Operand} {v av : Value} {os vs : List SV} {xss : List (List α)} {u : SV} {xs ys : List α} (M : Mem w0 I0 I L w) (hi : L[i]? = some (mat E V v os vs xss)) (ht : P.underlying t = some (.slice E.T)) (hu : vs[j]? = some u) (hxs : xss[j]? = some xs) (hx : evo e x = some (sv u)) (hy : evo e y = some (av)) (ha : rdSl E I av ys) (hb : (xs.length + ys.length) * E.by' ≤ 140737488355328) :
    Eff P n ops ⟨dst, .call { callee := .builtin .append, args := #[x, y], argTypes := #[t, t] }, ty, pos, af, none⟩ e w fun v1 w' => ∃ u', v1 = sv u' ∧ Mem w0 I0 I (L.set i (mat E V v os (vs.set j u') (xss.set j (xs ++ ys)))) w' := by
  replace hx := ev_of hx
  replace hy := ev_of hy
  have hri := getElem?_mem' hi
  obtain ⟨h0, hin⟩ : rowHolds V v os (hp w) ∧ inner E vs xss (hp w) := M.holds _ hri
  obtain ⟨v', w', hrun, h1, h2, h3⟩ := run_append (s0 := sv u) (ty := ty) M.imm ht (hin.2 j u xs hu hxs) ha hb
  obtain ⟨u', rfl⟩ := rowHolds_slice h1
  have hnd : (v.ownBlock.toList ++ oblks vs).Nodup := by
    exact M.resNodup hri
  obtain ⟨n1, n2, n3⟩ := List.nodup_append.1 hnd
  have hlt : ∀ b ∈ v.ownBlock.toList ++ oblks vs, b < w.heap.size := fun b hb => (M.own hri hb).2.1
  have hjl : j < vs.length := (List.getElem?_eq_some_iff.1 hu).1
  refine Eff.run (v := sv u') (w' := w') ?_ rfl ⟨u', rfl, M.upd i hi _ ?_ ?_ ?_ ?_ ?_⟩
  · simp only [execOp, resolve, invoke, builtin, Sem.run_bind, Sem.run_pure, Result.andThen_ok, List.map_toArray, List.map_cons, List.map_nil, hx, hy, hrun]
  · exact ⟨h2.os, h2.tape, h2.output, h2.size, fun k hk hkn => h2.block k hk fun hku => hkn (List.mem_append.2 (.inr (mem_oblks hu hku))), h2.dr⟩
  · show (v.ownBlock.toList ++ oblks (vs.set j u')).Nodup
    refine List.nodup_append.2 ⟨n1, flat_set_nodup n2 (fun b hb => hlt b (List.mem_append.2 (.inr hb))) hu (fun b hb => (h3 b hb).1), fun a ha b hb hab => ?_⟩
    subst hab
    rcases oblks_set_sub hb with h | ⟨k, _, y, hk, hy⟩
    · rcases (h3 a h).1 with h' | h'
      · exact n3 a ha a (mem_oblks hu h') rfl
      · have := hlt a (List.mem_append.2 (.inl ha)); omega
    · exact n3 a ha a (mem_oblks hk hy) rfl
  · intro b hb
    rcases List.mem_append.1 hb with hb | hb
    · exact .inl (List.mem_append.2 (.inl hb))
    · rcases oblks_set_sub hb with h | ⟨k, _, y, hk, hy⟩
      · rcases (h3 b h).1 with h' | h'
        · exact .inl (List.mem_append.2 (.inr (mem_oblks hu h')))
        · exact .inr h'
      · exact .inl (List.mem_append.2 (.inr (mem_oblks hk hy)))
  · intro b hb
    rcases List.mem_append.1 hb with hb | hb
    · exact Nat.lt_of_lt_of_le (hlt b (List.mem_append.2 (.inl hb))) h2.size
    · rcases oblks_set_sub hb with h | ⟨k, _, y, hk, hy⟩
      · exact (h3 b h).2
      · exact Nat.lt_of_lt_of_le (hlt b (List.mem_append.2 (.inr (mem_oblks hk hy)))) h2.size
  · have hkeep : ∀ b, b < w.heap.size → b ∉ (sv u).ownBlock.toList → hp w b = hp w' b := fun b hb hn => (h2.block b hb hn).symm
    refine ⟨(row V v os).loc _ _ (fun b hb => hkeep b (hlt b (List.mem_append.2 (.inl hb))) fun h => n3 b hb b (mem_oblks hu h) rfl) h0, by simp [hin.1], fun k y zs hk hz => ?_⟩
    rw [List.getElem?_set] at hk hz
    by_cases hkj : j = k
    · subst hkj
      have hjx : j < xss.length := by rw [← hin.1]; exact hjl
      simp only [if_true, hjl, hjx] at hk hz
      cases hk; cases hz
      exact h1
    · rw [if_neg hkj] at hk hz
      exact (row E (sv y) zs).loc _ _ (fun b hb => hkeep b (hlt b (List.mem_append.2 (.inr (mem_oblks hk hb)))) (oblks_apart n2 hu hk (fun e => hkj e.symm) b hb)) (hin.2 k y zs hk hz)
/-- A store into the outer row. -/
theorem e_stm (i : Nat) {x y : Operand} {v : Value} {os vs : List SV} {xss : List (List α)} {j b o : Nat} {u : SV} {T : TypeId} (M : Mem w0 I0 I L w) (hL : L[i]? = some (mat E V v os vs xss)) (hT : V.T = T) (hx : evo e x = some (.pointer (some ⟨b, o, none⟩))) (hp1 : eptr V v j b o) (hj : j < os.length) (hy : evo e y = some (V.val u)) :
    Eff P n ops ⟨dst, .store T x y, ty, pos, af, none⟩ e w fun v1 w' => Mem w0 I0 I (L.set i (mat E V v (os.set j u) vs xss)) w' := by
  subst hT
  have hri := getElem?_mem' hL
  obtain ⟨h0, hin⟩ : rowHolds V v os (hp w) ∧ inner E vs xss (hp w) := M.holds _ hri
  have hnd : (v.ownBlock.toList ++ oblks vs).Nodup := by
    exact M.resNodup hri
  -- the outer row alone, as a world of its own
  have M1 : Mem w0 I0 I [row V v os] w := ⟨M.below, M.old, M.imm, by simpa [row] using own_nodup v, fun c hc => M.own hri (List.mem_append.2 (.inl (by simpa [row] using hc))), fun r hr => by rw [List.mem_singleton.1 hr]; exact h0, M.dr⟩
  intro a ha
  have hE := (e_str (ops := ops) (n := n) (dst := dst) (ty := ty) (pos := pos) (af := af) 0 M1 rfl rfl hx hp1 hj hy) a ha
  refine ⟨hE.1, fun K Q hk => ?_⟩
  replace hx := ev_of hx
  replace hy := ev_of hy
  obtain ⟨inf, z, hi, hsz, _⟩ := V.info
  obtain ⟨o', m, c', rfl, rfl⟩ := hp1
  -- the run itself
  obtain ⟨w', hrun, hM', hch⟩ : ∃ w', (execOp (evl e) (⟨dst, .store V.T x y, ty, pos, af, none⟩ : Oper)).run P w = .ok .skip w' ∧ rowHolds V (.slice (some ⟨b, o', none⟩) m c') (os.set j u) (hp w') ∧ Chg w w' [b] := by
    rcases h0 with ⟨hv, _⟩ | ⟨b', o2, c, cur, hv, hb, h1, h2, h3, h4⟩
    · cases hv
    · cases hv
      have hsp := V.all_split os (List.getElem?_eq_getElem hj)
      have hl1 : (V.all (os.take j)).length = j * V.sz := by rw [V.all_length, List.length_take, Nat.min_eq_left (by omega)]
      have hfit : o' + j * V.sz + V.sz ≤ cur.size := by
        have : (j + 1) * V.sz ≤ c' * V.sz := Nat.mul_le_mul_right _ (by omega)
        rw [Nat.add_mul] at this
        omega
      have hst := run_storeCells_at P b (o' + j * V.sz) V.T (V.cells u) 0 cur w hb (by rw [V.len]; simpa using hfit) (V.one u)
      simp only [Nat.add_zero, V.len] at hst
      refine ⟨w.setRow b (cur.toList.take (o' + j * V.sz) ++ V.cells u ++ cur.toList.drop (o' + j * V.sz + V.sz)).toArray, ?_, .inr ⟨b, o', c', (cur.toList.take (o' + j * V.sz) ++ V.cells u ++ cur.toList.drop (o' + j * V.sz + V.sz)).toArray, by rw [List.length_set], setRow_heap w b cur _ V.T _ hb, by rw [List.length_set]; exact h1, h2, ?_, ?_⟩, chg_setRow w b _⟩
      · simp [execOp, Instr.storeAt, Instr.sureAddr, hx, hy, storeVar, V.vcells, V.len, sizeOf, typeInfo, hi, hsz, hst]
      · simp only [List.size_toArray, List.length_append, List.length_take, List.length_drop, Array.length_toList, V.len]
        omega
      · rw [hsp] at h4
        have := set_seg (cs := V.cells u) h4 (by have := Nat.mul_le_mul_right V.sz h1; simp only [Array.length_toList]; omega) (by rw [V.len, V.len])
        rw [hl1, V.len] at this
        rw [List.length_set]
        rw [this, V.all_split (os.set j u) (j := j) (x := u) (by simp [hj])]
        congr 2
        · congr 1; rw [List.take_set_of_le (Nat.le_refl _)]
        · rw [List.drop_set_of_lt (by omega)]
  unfold Oper.wp
  rw [ha.evalf, hrun]
  obtain ⟨n1, n2, n3⟩ := List.nodup_append.1 hnd
  have hb1 : b ∈ (Value.slice (some ⟨b, o', none⟩) m c').ownBlock.toList := by simp [Value.ownBlock]
  refine hk _ _ (M.upd i hL _ ⟨hch.os, hch.tape, hch.output, hch.size, fun k hk hkn => hch.block k hk fun h => hkn (List.mem_append.2 (.inl (by rw [List.mem_singleton.1 h]; exact hb1))), hch.dr⟩ hnd (fun c hc => .inl hc) (fun c hc => Nat.lt_of_lt_of_le (M.own hri hc).2.1 hch.size) ⟨hM', hin.loc fun c hc => (hch.block c (M.own hri (List.mem_append.2 (.inr hc))).2.1 fun h => n3 b hb1 c hc (List.mem_singleton.1 h).symm).symm⟩)
theorem q_lenMat {S : World → Prop} {t el : TypeId} {x : Operand} {v : Value} {xss : List (List α)} (R : rdMat E V I v xss) (ht : P.underlying t = some (.slice el)) (hx : evo e x = some v) : Quiet P n ops S ⟨dst, .call { callee := .builtin .len, args := #[x], argTypes := #[t] }, ty, pos, af, none⟩ e (.int .i64 (xss.length : Int)) := by
  obtain ⟨vs, h1, h2, _⟩ := R
  rw [← h2]
  exact q_lenR h1 ht hx
/-- Rows of rows become immutable. -/
theorem Mem.frzMat (M : Mem w0 I0 I L w) (i : Nat) {v : Value} {vs : List SV} {xss : List (List α)} (hi : L[i]? = some (mat E V v vs vs xss)) : ∃ I', Mem w0 I0 I' (L.eraseIdx i) w ∧ hle I I' ∧ rdMat E V I' v xss := by
  obtain ⟨h1, h2, h3⟩ := M.freeze i hi
  obtain ⟨h0, hin⟩ : rowHolds V v vs _ ∧ inner E vs xss _ := h3
  exact ⟨_, h1, h2, vs, h0.rd, hin.1, fun j u xs hu hx => (hin.2 j u xs hu hx).rd⟩
end
end Go.Proofs.Ytfepjcmjkaolgaa.G
