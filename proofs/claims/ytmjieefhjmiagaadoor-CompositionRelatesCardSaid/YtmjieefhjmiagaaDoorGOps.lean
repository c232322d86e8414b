/- Walk library, part 3 (operations): what each operation leaves. Plain theorems over any program. -/
import Derived.Test.YtmjieefhjmiagaaDoorGMem
set_option linter.all false
namespace Go.Proofs.YtmjieefhjmiagaaDoor.G
open Go Go.RowKit

section
variable {P : Program} {n : Nat} {ops : Array Oper} {S : World → Prop} {e : Env} {dst : Option Tmp} {ty : TypeId} {pos : String} {af : Array Edge}

theorem q_of {o : Oper} {v : Value} (hg : o.guard = none) (h : ∀ w, S w → (execOp (evl e) o).run P w = .ok (.value v) w) : Quiet P n ops S o e v :=
  Quiet.run (fun a ha w hw => by rw [ha.evalf]; exact h w hw) hg

theorem q_move {x : Operand} {v : Value} (h : evo e x = some (v)) : Quiet P n ops S ⟨dst, .move x, ty, pos, af, none⟩ e v := by
  replace h := ev_of h
  exact q_of rfl fun w _ => by simp [execOp, h]
theorem q_assign {x : Operand} {v : Value} (h : evo e x = some (v)) : Quiet P n ops S ⟨dst, .assign x, ty, pos, af, none⟩ e v := by
  replace h := ev_of h
  exact q_of rfl fun w _ => by simp [execOp, h]
theorem q_pickT {c x y : Operand} {v : Value} {t : Bool} (hc : evo e c = some (.bool t)) (ht : t = true) (h : evo e x = some (v)) : Quiet P n ops S ⟨dst, .pick c x y, ty, pos, af, none⟩ e v := by
  replace hc := ev_of hc
  replace h := ev_of h
  exact q_of rfl fun w _ => by subst ht; simp [execOp, hc, h, asBool]
theorem q_pickF {c x y : Operand} {v : Value} {t : Bool} (hc : evo e c = some (.bool t)) (ht : t = false) (h : evo e y = some (v)) : Quiet P n ops S ⟨dst, .pick c x y, ty, pos, af, none⟩ e v := by
  replace hc := ev_of hc
  replace h := ev_of h
  exact q_of rfl fun w _ => by subst ht; simp [execOp, hc, h, asBool]
theorem q_not {x : Operand} {t : Bool} {T : TypeId} (h : evo e x = some (.bool t)) : Quiet P n ops S ⟨dst, .unOp .not T x, ty, pos, af, none⟩ e (.bool !t) := by
  replace h := ev_of h
  exact q_of rfl fun w _ => by simp [execOp, h, Op.unary]
theorem q_ext {x : Operand} {vs : List Value} {v : Value} {i : Nat} (h : evo e x = some (.tuple vs.toArray)) (hv : vs[i]? = some v) : Quiet P n ops S ⟨dst, .extract x i, ty, pos, af, none⟩ e v := by
  replace h := ev_of h
  exact q_of rfl fun w _ => by simp [execOp, h, Instr.extract, hv]
/-! whole numbers -/
theorem run_bin_int {op : BinOp} {T : TypeId} {x y : Operand} {k : IntKind} {a b : Int} (hop : (match op with | .shl | .shr => false | _ => true) = true) (w : World) (hx : evl e x = .int k a) (hy : evl e y = .int k b) {T2 : TypeId} :
    (execOp (evl e) ⟨dst, .binOp op T x y T2, ty, pos, af, none⟩).run P w = (do pure (.value (← binOp op T (.int k a) (.int k b))) : Sem Next).run P w := by
  simp only [execOp, hx, hy, eqGuard]
  cases op <;> simp
theorem q_add {T T2 : TypeId} {x y : Operand} {k : IntKind} {a b z : Int} (hx : evo e x = some (.int k a)) (hy : evo e y = some (.int k b)) (hz : k.wrap (a + b) = z) : Quiet P n ops S ⟨dst, .binOp .add T x y T2, ty, pos, af, none⟩ e (.int k z) := by
  replace hx := ev_of hx
  replace hy := ev_of hy
  exact q_of rfl fun w _ => by rw [run_bin_int rfl w hx hy]; simp [binOp, Op.intArith, hz]
theorem q_sub {T T2 : TypeId} {x y : Operand} {k : IntKind} {a b z : Int} (hx : evo e x = some (.int k a)) (hy : evo e y = some (.int k b)) (hz : k.wrap (a - b) = z) : Quiet P n ops S ⟨dst, .binOp .sub T x y T2, ty, pos, af, none⟩ e (.int k z) := by
  replace hx := ev_of hx
  replace hy := ev_of hy
  exact q_of rfl fun w _ => by rw [run_bin_int rfl w hx hy]; simp [binOp, Op.intArith, hz]
theorem q_mul {T T2 : TypeId} {x y : Operand} {k : IntKind} {a b z : Int} (hx : evo e x = some (.int k a)) (hy : evo e y = some (.int k b)) (hz : k.wrap (a * b) = z) : Quiet P n ops S ⟨dst, .binOp .mul T x y T2, ty, pos, af, none⟩ e (.int k z) := by
  replace hx := ev_of hx
  replace hy := ev_of hy
  exact q_of rfl fun w _ => by rw [run_bin_int rfl w hx hy]; simp [binOp, Op.intArith, hz]
theorem q_lss {T T2 : TypeId} {x y : Operand} {k : IntKind} {a b : Int} (hx : evo e x = some (.int k a)) (hy : evo e y = some (.int k b)) : Quiet P n ops S ⟨dst, .binOp .lss T x y T2, ty, pos, af, none⟩ e (.bool (decide (a < b))) := by
  replace hx := ev_of hx
  replace hy := ev_of hy
  exact q_of rfl fun w _ => by rw [run_bin_int rfl w hx hy]; simp [binOp, Op.intCmp]
theorem q_leq {T T2 : TypeId} {x y : Operand} {k : IntKind} {a b : Int} (hx : evo e x = some (.int k a)) (hy : evo e y = some (.int k b)) : Quiet P n ops S ⟨dst, .binOp .leq T x y T2, ty, pos, af, none⟩ e (.bool (decide (a ≤ b))) := by
  replace hx := ev_of hx
  replace hy := ev_of hy
  exact q_of rfl fun w _ => by rw [run_bin_int rfl w hx hy]; simp [binOp, Op.intCmp]
theorem q_gtr {T T2 : TypeId} {x y : Operand} {k : IntKind} {a b : Int} (hx : evo e x = some (.int k a)) (hy : evo e y = some (.int k b)) : Quiet P n ops S ⟨dst, .binOp .gtr T x y T2, ty, pos, af, none⟩ e (.bool (decide (b < a))) := by
  replace hx := ev_of hx
  replace hy := ev_of hy
  exact q_of rfl fun w _ => by rw [run_bin_int rfl w hx hy]; simp [binOp, Op.intCmp]
theorem q_geq {T T2 : TypeId} {x y : Operand} {k : IntKind} {a b : Int} (hx : evo e x = some (.int k a)) (hy : evo e y = some (.int k b)) : Quiet P n ops S ⟨dst, .binOp .geq T x y T2, ty, pos, af, none⟩ e (.bool (decide (b ≤ a))) := by
  replace hx := ev_of hx
  replace hy := ev_of hy
  exact q_of rfl fun w _ => by rw [run_bin_int rfl w hx hy]; simp [binOp, Op.intCmp]
theorem q_eql {T T2 : TypeId} {x y : Operand} {k : IntKind} {a b : Int} (hx : evo e x = some (.int k a)) (hy : evo e y = some (.int k b)) : Quiet P n ops S ⟨dst, .binOp .eql T x y T2, ty, pos, af, none⟩ e (.bool (decide (a = b))) := by
  replace hx := ev_of hx
  replace hy := ev_of hy
  exact q_of rfl fun w _ => by rw [run_bin_int rfl w hx hy]; simp [binOp, Op.intCmp]; rfl
theorem q_neq {T T2 : TypeId} {x y : Operand} {k : IntKind} {a b : Int} (hx : evo e x = some (.int k a)) (hy : evo e y = some (.int k b)) : Quiet P n ops S ⟨dst, .binOp .neq T x y T2, ty, pos, af, none⟩ e (.bool (!decide (a = b))) := by
  replace hx := ev_of hx
  replace hy := ev_of hy
  exact q_of rfl fun w _ => by rw [run_bin_int rfl w hx hy]; simp [binOp, Op.intCmp]; rfl
theorem q_nilCheck {x : Operand} {p : Addr} (h : evo e x = some (.pointer (some p))) : Quiet P n ops S ⟨dst, .nilCheck x, ty, pos, af, none⟩ e (.pointer (some p)) := by
  replace h := ev_of h
  exact q_of rfl fun w _ => by simp [execOp, h]
/-! addresses -/
def fieldOff (P : Program) (s f : Nat) : Option Nat :=
  match P.underlying s with
  | some (.struct fs) => match fs[f]? with
    | some fd => match P.info? fd.type with
      | some i => if i.size = 0 then none else some fd.offset
      | none => none
    | none => none
  | _ => none
theorem q_fa {s f off : Nat} {x : Operand} {b o : Nat} (hf : fieldOff P s f = some off) (hx : evo e x = some (.pointer (some ⟨b, o, none⟩))) : Quiet P n ops S ⟨dst, .fieldAddr s x f, ty, pos, af, none⟩ e (.pointer (some ⟨b, o + off, none⟩)) := by
  replace hx := ev_of hx
  refine q_of rfl fun w _ => ?_
  unfold fieldOff at hf
  split at hf
  · rename_i fs hu
    split at hf
    · rename_i fd hfd
      split at hf
      · rename_i i hi
        split at hf
        · cases hf
        · rename_i hne
          cases hf
          simp [execOp, hx, Instr.fieldAt, run_underlying hu, hfd, Instr.sureAddr, fieldPlace, sizeOf, typeInfo, hi, hne, add_off]
      · cases hf
    · cases hf
  · cases hf
/-- In every world of S these cells lie there. -/
def sptr (S : World → Prop) (b o : Nat) (cs : List Value) : Prop := ∀ w, S w → ptr (hp w) b o cs
section
variable {α : Type} {E : ET P α}
theorem run_ix {t : TypeId} {x ix : Operand} {s0 : Value} {k : IntKind} {j : Nat} {w : World} {b o m c : Nat} (ht : P.underlying t = some (.slice E.T)) (hx : evl e x = .slice (some ⟨b, o, none⟩) m c) (hi : evl e ix = .int k (j : Int)) (hj : j < m) :
    (execOp (evl e) ⟨dst, .indexAddr t x ix, ty, pos, af, none⟩).run P w = .ok (.value (.pointer (some ⟨b, o + j * E.sz, none⟩))) w := by
  obtain ⟨i, z, hi', hs, _⟩ := E.info
  have h1 : (0 : Int) ≤ (j : Int) := by omega
  have h2 : (j : Int) < (m : Int) := by omega
  simp [execOp, hx, hi, Instr.indexAt, asIntOf, run_underlying ht, sizeOf, typeInfo, hi', hs, hj, add_off]
/-- An element of a slice that reads as xs in every world of S. -/
theorem q_ixS {t : TypeId} {x ix : Operand} {s0 : Value} {k : IntKind} {xs : List α} {j : Nat} {y : α} (ht : P.underlying t = some (.slice E.T)) (hx : evo e x = some (s0)) (hi : evo e ix = some (.int k (j : Int))) (hj : xs[j]? = some y) (w1 : World) (h1 : S w1) (R : ∀ w, S w → rdSl E (hp w) s0 xs) :
    ∃ b o, sptr S b o (E.cells y) ∧ Quiet P n ops S ⟨dst, .indexAddr t x ix, ty, pos, af, none⟩ e (.pointer (some ⟨b, o, none⟩)) := by
  replace hx := ev_of hx
  replace hi := ev_of hi
  obtain ⟨b, o, c, hv, hp1⟩ := (R w1 h1).at_ hj
  have hlt := (List.getElem?_eq_some_iff.1 hj).1
  refine ⟨b, o + j * E.sz, fun w hw => ?_, q_of rfl fun w _ => run_ix (s0 := s0) ht (hx.trans hv) hi hlt⟩
  obtain ⟨b', o', c', hv', hp'⟩ := (R w hw).at_ hj
  rw [hv] at hv'
  cases hv'
  exact hp'
theorem q_ldp {T : TypeId} {x : Operand} {b o : Nat} {y : α} (hp1 : sptr S b o (E.cells y)) (hT : E.T = T) (hx : evo e x = some (.pointer (some ⟨b, o, none⟩))) : Quiet P n ops S ⟨dst, .load T x, ty, pos, af, none⟩ e (E.val y) := by
  subst hT
  replace hx := ev_of hx
  refine q_of rfl fun w hw => ?_
  have := E.load w ⟨b, o, none⟩ y (fun j v hj => (hp1 w hw).cell j v hj)
  simp [execOp, hx, Instr.loadAt, Instr.sureAddr, this]
end
/-- A part of an element. -/
theorem q_ldf {α : Type} {E : ET P α} {T : TypeId} {d : TypeDesc} {x : Operand} {b o off : Nat} {y : α} {v : Value} (hp1 : sptr S b o (E.cells y)) (hu : P.underlying T = some d) (hd : oneKind d = true) (hx : evo e x = some (.pointer (some ⟨b, o + off, none⟩))) (hv : (E.cells y)[off]? = some v) : Quiet P n ops S ⟨dst, .load T x, ty, pos, af, none⟩ e v := by
  replace hx := ev_of hx
  refine q_of rfl fun w hw => ?_
  have h1 := (hp1 w hw).cell off v hv
  rw [add_off] at h1
  simp [execOp, hx, Instr.loadAt, Instr.sureAddr, run_loadVar_one hu hd w _ _ h1]
theorem q_ld {x : Operand} {T : TypeId} {p : Addr} {v : Value} (hx : evo e x = some (.pointer (some p))) (h : ∀ w, S w → (loadVar T p).run P w = .ok v w) : Quiet P n ops S ⟨dst, .load T x, ty, pos, af, none⟩ e v := by
  replace hx := ev_of hx
  exact q_of rfl fun w hw => by simp [execOp, hx, Instr.loadAt, Instr.sureAddr, h w hw]
theorem q_lenS {x : Operand} {t el : TypeId} {A : Option Addr} {m c : Nat} (ht : P.underlying t = some (.slice el)) (hx : evo e x = some (.slice A m c)) : Quiet P n ops S ⟨dst, .call { callee := .builtin .len, args := #[x], argTypes := #[t] }, ty, pos, af, none⟩ e (.int .i64 (m : Int)) := by
  replace hx := ev_of hx
  refine q_of rfl fun w _ => ?_
  simp [execOp, resolve, invoke, builtin, Builtin.len_, hx, run_underlying ht, goInt]
theorem q_lenStr {x : Operand} {t : TypeId} {s : ByteArray} (ht : P.underlying t = some .string) (hx : evo e x = some (.string s)) : Quiet P n ops S ⟨dst, .call { callee := .builtin .len, args := #[x], argTypes := #[t] }, ty, pos, af, none⟩ e (.int .i64 (s.size : Int)) := by
  replace hx := ev_of hx
  refine q_of rfl fun w _ => ?_
  simp [execOp, resolve, invoke, builtin, Builtin.len_, hx, run_underlying ht, goInt]
/-! structs -/
theorem fill_cells {pl : Nat → Option (Nat × Nat)} : ∀ (ps qs : List (Nat × Value)) (cs : Array Value), ps.map (fun p => (p.1, p.2.cells)) = qs.map (fun p => (p.1, p.2.cells)) → Instr.fill pl cs ps = Instr.fill pl cs qs := by
  intro ps
  induction ps with
  | nil => intro qs cs h; cases qs with
    | nil => rfl
    | cons q qs => simp at h
  | cons p ps ih =>
    intro qs cs h
    cases qs with
    | nil => simp at h
    | cons q qs =>
      simp only [List.map_cons, List.cons.injEq, Prod.mk.injEq] at h
      obtain ⟨⟨h1, h2⟩, h3⟩ := h
      obtain ⟨pi, pv⟩ := p
      obtain ⟨qi, qv⟩ := q
      simp only at h1 h2
      subst h1
      simp only [Instr.fill]
      rw [h2]
      split
      · rfl
      · split
        · rfl
        · exact ih qs _ h3
/-- A struct out of its parts, as cells. -/
def bld (P : Program) (T : TypeId) (ps : List (Nat × List Value)) (cs : List Value) : Prop := ∀ w, (Instr.build T (ps.map fun p => (p.1, Value.agg p.2.toArray)).toArray).run P w = .ok (.agg cs.toArray) w
def cellsOf (e : Env) : List (Nat × Operand) → List (Nat × List Value) → Prop
  | [], [] => True
  | (i, x) :: l, (j, c) :: m => (i = j ∧ (evo e x).map Value.cells = some c.toArray) ∧ cellsOf e l m
  | _, _ => False
theorem cells_of {e : Env} {x : Operand} {c : Array Value} (h : (evo e x).map Value.cells = some c) : (evl e x).cells = c := by
  obtain ⟨v, hv, hc⟩ := Option.map_eq_some_iff.1 h
  rw [ev_of hv]; exact hc
theorem cellsOf_map {e : Env} : ∀ {l : List (Nat × Operand)} {m : List (Nat × List Value)}, cellsOf e l m → (l.map fun p => (p.1, evl e p.2)).map (fun p => (p.1, p.2.cells)) = (m.map fun p => (p.1, Value.agg p.2.toArray)).map (fun p => (p.1, p.2.cells))
  | [], [], _ => rfl
  | (i, x) :: l, (j, c) :: m, h => by
    have := cellsOf_map h.2
    simp only [List.map_cons, h.1.1, cells_of h.1.2, this]
    rfl
  | [], _ :: _, h => h.elim
  | _ :: _, [], h => h.elim
theorem run_build_cells {T : TypeId} {l qs : List (Nat × Value)} (h : l.map (fun p => (p.1, p.2.cells)) = qs.map (fun p => (p.1, p.2.cells))) (w : World) : (Instr.build T l.toArray).run P w = (Instr.build T qs.toArray).run P w := by
  unfold Instr.build
  simp only [Sem.run_bind]
  congr 1
  funext z w1
  congr 1
  funext d w2
  cases d <;> simp only []
  · simp only [fill_cells l qs _ h]
  · simp only [Sem.run_bind]
    congr 1
    funext s w3
    simp only [fill_cells l qs _ h]
theorem q_build {T : TypeId} {ps : List (Nat × Operand)} {cps : List (Nat × List Value)} {cs : List Value} (hb : bld P T cps cs) (hc : cellsOf e ps cps) : Quiet P n ops S ⟨dst, .build T ps.toArray, ty, pos, af, none⟩ e (.agg cs.toArray) := by
  refine q_of rfl fun w _ => ?_
  have h1 := run_build_cells (P := P) (T := T) (cellsOf_map hc) w
  rw [hb w] at h1
  have h2 : (List.map (fun x : Nat × Operand => (x.fst, evl e x.snd)) ps).toArray = (ps.toArray.map fun x => (x.fst, evl e x.snd)) := by simp
  simp only [execOp, Sem.run_bind, Sem.run_pure, ← h2, h1, Result.andThen_ok]
end

/-! ### memory -/
section
variable {P : Program} {n : Nat} {ops : Array Oper} {e : Env} {dst : Option Tmp} {ty : TypeId} {pos : String} {af : Array Edge} {w0 w : World} {I0 I : Heap} {L : List Res}

theorem Mem.boxAt (M : Mem w0 I0 I L w) (i : Nat) {b : Nat} {T : TypeId} {cs : List Value} (hi : L[i]? = some (box b T cs)) : w.heap[b]? = some (.cells cs.toArray T (0, 0)) := M.holds _ (getElem?_mem' hi)
theorem Mem.boxCell (M : Mem w0 I0 I L w) (i : Nat) {b o : Nat} {T : TypeId} {cs : List Value} {v : Value} (hi : L[i]? = some (box b T cs)) (hv : cs[o]? = some v) : w.cell? ⟨b, o, none⟩ = some v := by
  rw [cell_of_row w b o _ T (0, 0) (M.boxAt i hi)]
  simpa using hv
theorem load_box (M : Mem w0 I0 I L w) (i : Nat) {b o : Nat} {T T0 : TypeId} {d : TypeDesc} {cs : List Value} {v : Value} (hu : P.underlying T = some d) (hd : oneKind d = true) (hi : L[i]? = some (box b T0 cs)) (hv : cs[o]? = some v) : (loadVar T ⟨b, o, none⟩).run P w = .ok v w :=
  run_loadVar_one hu hd w _ _ (M.boxCell i hi hv)
theorem load_boxA (M : Mem w0 I0 I L w) (i : Nat) {b o k : Nat} {T T0 : TypeId} {d : TypeDesc} {cs vs : List Value} (hu : P.underlying T = some d) (hd : oneKind d = false) (hk : (P.info? T).map (·.size) = some k) (hi : L[i]? = some (box b T0 cs)) (hv : (cs.drop o).take k = vs) (hl : vs.length = k) : (loadVar T ⟨b, o, none⟩).run P w = .ok (.agg vs.toArray) w := by
  refine run_loadVar_agg hu hd hk w _ vs hl fun j v hj => ?_
  rw [add_off]
  refine M.boxCell i hi ?_
  rw [← hv, List.getElem?_take] at hj
  split at hj
  · rw [List.getElem?_drop] at hj; exact hj
  · cases hj
/-- A load of one cell out of a block of one's own. -/
theorem q_ldb (i : Nat) {x : Operand} {b o : Nat} {T T0 : TypeId} {d : TypeDesc} {cs : List Value} {v : Value} (hu : P.underlying T = some d) (hd : oneKind d = true) (hi : L[i]? = some (box b T0 cs)) (hx : evo e x = some (.pointer (some ⟨b, o, none⟩))) (hv : cs[o]? = some v) : Quiet P n ops (Mem w0 I0 I L) ⟨dst, .load T x, ty, pos, af, none⟩ e v := by
  exact q_ld hx fun w M => load_box M i hu hd hi hv
theorem q_ldbA (i : Nat) {x : Operand} {b o k : Nat} {T T0 : TypeId} {d : TypeDesc} {cs vs : List Value} (hu : P.underlying T = some d) (hd : oneKind d = false) (hk : (P.info? T).map (·.size) = some k) (hi : L[i]? = some (box b T0 cs)) (hx : evo e x = some (.pointer (some ⟨b, o, none⟩))) (hv : (cs.drop o).take k = vs) (hl : vs.length = k) : Quiet P n ops (Mem w0 I0 I L) ⟨dst, .load T x, ty, pos, af, none⟩ e (.agg vs.toArray) := by
  exact q_ld hx fun w M => load_boxA M i hu hd hk hi hv hl
/-- A load out of a block that nobody writes any more. -/
theorem q_ldbI {x : Operand} {b o : Nat} {T T0 : TypeId} {d : TypeDesc} {cs : List Value} {v : Value} (hb : I b = some (.cells cs.toArray T0 (0, 0))) (hu : P.underlying T = some d) (hd : oneKind d = true) (hx : evo e x = some (.pointer (some ⟨b, o, none⟩))) (hv : cs[o]? = some v) : Quiet P n ops (Mem w0 I0 I L) ⟨dst, .load T x, ty, pos, af, none⟩ e v := by
  refine q_ld hx fun w M => run_loadVar_one hu hd w _ _ ?_
  rw [cell_of_row w b o _ T0 (0, 0) (M.imm _ _ hb)]
  simpa using hv
theorem q_ldbAI {x : Operand} {b o k : Nat} {T T0 : TypeId} {d : TypeDesc} {cs vs : List Value} (hb : I b = some (.cells cs.toArray T0 (0, 0))) (hu : P.underlying T = some d) (hd : oneKind d = false) (hk : (P.info? T).map (·.size) = some k) (hx : evo e x = some (.pointer (some ⟨b, o, none⟩))) (hv : (cs.drop o).take k = vs) (hl : vs.length = k) : Quiet P n ops (Mem w0 I0 I L) ⟨dst, .load T x, ty, pos, af, none⟩ e (.agg vs.toArray) := by
  refine q_ld hx fun w M => run_loadVar_agg hu hd hk w _ vs hl fun j v hj => ?_
  rw [add_off, cell_of_row w b _ _ T0 (0, 0) (M.imm _ _ hb)]
  rw [← hv, List.getElem?_take] at hj
  split at hj
  · rw [List.getElem?_drop] at hj; simpa using hj
  · cases hj
theorem Mem.frzBox (M : Mem w0 I0 I L w) (i : Nat) {b : Nat} {T : TypeId} {cs : List Value} (hi : L[i]? = some (box b T cs)) : ∃ I', Mem w0 I0 I' (L.eraseIdx i) w ∧ hle I I' ∧ I' b = some (.cells cs.toArray T (0, 0)) := by
  obtain ⟨h1, h2, h3⟩ := M.freeze i hi
  exact ⟨_, h1, h2, h3⟩
section
variable {α : Type} {E : ET P α}
/-- An element of a slice that is read. -/
theorem q_ix {t : TypeId} {x ix : Operand} {s0 : Value} {k : IntKind} {xs : List α} {j : Nat} {y : α} (M : Mem w0 I0 I L w) (R : rdSl E I s0 xs) (ht : P.underlying t = some (.slice E.T)) (hx : evo e x = some (s0)) (hi : evo e ix = some (.int k (j : Int))) (hj : xs[j]? = some y) :
    ∃ b o, sptr (Mem w0 I0 I L) b o (E.cells y) ∧ Quiet P n ops (Mem w0 I0 I L) ⟨dst, .indexAddr t x ix, ty, pos, af, none⟩ e (.pointer (some ⟨b, o, none⟩)) := by
  exact q_ixS ht hx hi hj w M fun w' M' => R.mono M'.imm
/-- An element of a slice of one's own. -/
theorem q_ixr (i : Nat) {t : TypeId} {x ix : Operand} {s0 : Value} {k : IntKind} {xs : List α} {j : Nat} {y : α} (M : Mem w0 I0 I L w) (hL : L[i]? = some (row E s0 xs)) (ht : P.underlying t = some (.slice E.T)) (hx : evo e x = some (s0)) (hi : evo e ix = some (.int k (j : Int))) (hj : xs[j]? = some y) :
    ∃ b o, sptr (Mem w0 I0 I L) b o (E.cells y) ∧ Quiet P n ops (Mem w0 I0 I L) ⟨dst, .indexAddr t x ix, ty, pos, af, none⟩ e (.pointer (some ⟨b, o, none⟩)) := by
  exact q_ixS ht hx hi hj w M fun w' M' => M'.rd hL
end

section
variable {α : Type} {E : ET P α} {K : Env → World → Prop} {rest : List Oper} {l : List (Nat × Value)} {b : Env} {d : Nat} {fuel : Nat} {listed : Array Bool}
/-- An element's place, in a walk. -/
theorem wl_ix {t : TypeId} {x ix : Operand} {v : Value} {k : IntKind} {xs : List α} {j : Nat} {y : α} (M : Mem w0 I0 I L w) (R : rdSl E I v xs) (ht : P.underlying t = some (.slice E.T)) (hx : evo (look l b) x = some v) (hi : evo (look l b) ix = some (.int k (j : Int))) (hj : xs[j]? = some y) (hn : Nat.blt d n = true)
    (h : ∀ b' o', sptr (Mem w0 I0 I L) b' o' (E.cells y) → WL P n ops K rest (look ((d, .pointer (some ⟨b', o', none⟩)) :: l) b) w) : WL P n ops K (⟨some d, .indexAddr t x ix, ty, pos, af, none⟩ :: rest) (look l b) w := by
  obtain ⟨b', o', p, q⟩ := q_ix (P := P) (n := n) (ops := ops) (dst := some d) (ty := ty) (pos := pos) (af := af) M R ht hx hi hj
  exact wl_q q M rfl hn (h b' o' p)
theorem wl_ixG {t : TypeId} {x ix : Operand} {v : Value} {k : IntKind} {xs : List α} {j : Nat} {y : α} (g : Nat) {want u : Bool} {dg : Nat} (hg : (ops[g]?).bind (·.dst) = some dg) (hgn : Nat.blt dg n = true) (hgt : look l b dg = some (.bool u)) (hgw : u = want) (M : Mem w0 I0 I L w) (R : rdSl E I v xs) (ht : P.underlying t = some (.slice E.T)) (hx : evo (look l b) x = some v) (hi : evo (look l b) ix = some (.int k (j : Int))) (hj : xs[j]? = some y) (hn : Nat.blt d n = true)
    (h : ∀ b' o', sptr (Mem w0 I0 I L) b' o' (E.cells y) → WL P n ops K rest (look ((d, .pointer (some ⟨b', o', none⟩)) :: l) b) w) : WL P n ops K (⟨some d, .indexAddr t x ix, ty, pos, af, some (g, want)⟩ :: rest) (look l b) w := by
  obtain ⟨b', o', p, q⟩ := q_ix (P := P) (n := n) (ops := ops) (dst := some d) (ty := ty) (pos := pos) (af := af) M R ht hx hi hj
  exact wl_q (q_guard g hg hgn hgt hgw q) M rfl hn (h b' o' p)
theorem wl_ixrG {t : TypeId} {x ix : Operand} {v : Value} {k : IntKind} {xs : List α} {j : Nat} {y : α} (g : Nat) {want u : Bool} {dg : Nat} (hg : (ops[g]?).bind (·.dst) = some dg) (hgn : Nat.blt dg n = true) (hgt : look l b dg = some (.bool u)) (hgw : u = want) (i : Nat) (M : Mem w0 I0 I L w) (hL : L[i]? = some (row E v xs)) (ht : P.underlying t = some (.slice E.T)) (hx : evo (look l b) x = some v) (hi : evo (look l b) ix = some (.int k (j : Int))) (hj : xs[j]? = some y) (hn : Nat.blt d n = true)
    (h : ∀ b' o', sptr (Mem w0 I0 I L) b' o' (E.cells y) → WL P n ops K rest (look ((d, .pointer (some ⟨b', o', none⟩)) :: l) b) w) : WL P n ops K (⟨some d, .indexAddr t x ix, ty, pos, af, some (g, want)⟩ :: rest) (look l b) w := by
  obtain ⟨b', o', p, q⟩ := q_ixr (P := P) (n := n) (ops := ops) (dst := some d) (ty := ty) (pos := pos) (af := af) i M hL ht hx hi hj
  exact wl_q (q_guard g hg hgn hgt hgw q) M rfl hn (h b' o' p)
theorem wl_ixS {t : TypeId} {x ix : Operand} {v : Value} {k : IntKind} {xs : List α} {j : Nat} {y : α} (M : Mem w0 I0 I L w) (R : ∀ w, Mem w0 I0 I L w → rdSl E (hp w) v xs) (ht : P.underlying t = some (.slice E.T)) (hx : evo (look l b) x = some v) (hi : evo (look l b) ix = some (.int k (j : Int))) (hj : xs[j]? = some y) (hn : Nat.blt d n = true)
    (h : ∀ b' o', sptr (Mem w0 I0 I L) b' o' (E.cells y) → WL P n ops K rest (look ((d, .pointer (some ⟨b', o', none⟩)) :: l) b) w) : WL P n ops K (⟨some d, .indexAddr t x ix, ty, pos, af, none⟩ :: rest) (look l b) w := by
  obtain ⟨b', o', p, q⟩ := q_ixS (P := P) (n := n) (ops := ops) (S := Mem w0 I0 I L) (dst := some d) (ty := ty) (pos := pos) (af := af) ht hx hi hj w M R
  exact wl_q q M rfl hn (h b' o' p)
theorem wl_ixr (i : Nat) {t : TypeId} {x ix : Operand} {v : Value} {k : IntKind} {xs : List α} {j : Nat} {y : α} (M : Mem w0 I0 I L w) (hL : L[i]? = some (row E v xs)) (ht : P.underlying t = some (.slice E.T)) (hx : evo (look l b) x = some v) (hi : evo (look l b) ix = some (.int k (j : Int))) (hj : xs[j]? = some y) (hn : Nat.blt d n = true)
    (h : ∀ b' o', sptr (Mem w0 I0 I L) b' o' (E.cells y) → WL P n ops K rest (look ((d, .pointer (some ⟨b', o', none⟩)) :: l) b) w) : WL P n ops K (⟨some d, .indexAddr t x ix, ty, pos, af, none⟩ :: rest) (look l b) w := by
  obtain ⟨b', o', p, q⟩ := q_ixr (P := P) (n := n) (ops := ops) (dst := some d) (ty := ty) (pos := pos) (af := af) i M hL ht hx hi hj
  exact wl_q q M rfl hn (h b' o' p)
theorem wa_ix {F : List Nat} (i : Nat) {I' : Heap} {L' : List Res} {t : TypeId} {x ix : Operand} {v : Value} {k : IntKind} {xs : List α} {j : Nat} {y : α} (M : Mem w0 I0 I' L' w) (R : rdSl E I' v xs) (hi0 : ops[i]? = some ⟨some d, .indexAddr t x ix, ty, pos, af, none⟩) (hs : may ops F listed i = true) (ht : P.underlying t = some (.slice E.T)) (hx : evo (look l b) x = some v) (hi : evo (look l b) ix = some (.int k (j : Int))) (hj : xs[j]? = some y) (hn : Nat.blt d n = true)
    (h : ∀ b' o', sptr (Mem w0 I0 I' L') b' o' (E.cells y) → WA P n ops (Mem w0 I0 I' L') F K fuel (listed.setIfInBounds i true) (look ((d, .pointer (some ⟨b', o', none⟩)) :: l) b) w) : WA P n ops (Mem w0 I0 I' L') F K (fuel + 1) listed (look l b) w := by
  obtain ⟨b', o', p, q⟩ := q_ix (P := P) (n := n) (ops := ops) (dst := some d) (ty := ty) (pos := pos) (af := af) M R ht hx hi hj
  exact wa_q i hi0 hs q M rfl hn (h b' o' p)
theorem wa_ixr {F : List Nat} (i r : Nat) {I' : Heap} {L' : List Res} {t : TypeId} {x ix : Operand} {v : Value} {k : IntKind} {xs : List α} {j : Nat} {y : α} (M : Mem w0 I0 I' L' w) (hL : L'[r]? = some (row E v xs)) (hi0 : ops[i]? = some ⟨some d, .indexAddr t x ix, ty, pos, af, none⟩) (hs : may ops F listed i = true) (ht : P.underlying t = some (.slice E.T)) (hx : evo (look l b) x = some v) (hi : evo (look l b) ix = some (.int k (j : Int))) (hj : xs[j]? = some y) (hn : Nat.blt d n = true)
    (h : ∀ b' o', sptr (Mem w0 I0 I' L') b' o' (E.cells y) → WA P n ops (Mem w0 I0 I' L') F K fuel (listed.setIfInBounds i true) (look ((d, .pointer (some ⟨b', o', none⟩)) :: l) b) w) : WA P n ops (Mem w0 I0 I' L') F K (fuel + 1) listed (look l b) w := by
  obtain ⟨b', o', p, q⟩ := q_ixr (P := P) (n := n) (ops := ops) (dst := some d) (ty := ty) (pos := pos) (af := af) r M hL ht hx hi hj
  exact wa_q i hi0 hs q M rfl hn (h b' o' p)
end
section
variable {α : Type} {E : ET P α} {K : Env → World → Prop} {l : List (Nat × Value)} {b : Env} {d : Nat} {fuel : Nat} {listed : Array Bool}
theorem wa_ixSG {F : List Nat} (g : Nat) {want u : Bool} {dg : Nat} (hg : (ops[g]?).bind (·.dst) = some dg) (hgn : Nat.blt dg n = true) (hgt : look l b dg = some (.bool u)) (hgw : u = want) (i : Nat) {S : World → Prop} {t : TypeId} {x ix : Operand} {v : Value} {k : IntKind} {xs : List α} {j : Nat} {y : α} (hS : S w) (R : ∀ w, S w → rdSl E (hp w) v xs) (hi0 : ops[i]? = some ⟨some d, .indexAddr t x ix, ty, pos, af, some (g, want)⟩) (hs : may ops F listed i = true) (ht : P.underlying t = some (.slice E.T)) (hx : evo (look l b) x = some v) (hi : evo (look l b) ix = some (.int k (j : Int))) (hj : xs[j]? = some y) (hn : Nat.blt d n = true)
    (h : ∀ b' o', sptr S b' o' (E.cells y) → WA P n ops S F K fuel (listed.setIfInBounds i true) (look ((d, .pointer (some ⟨b', o', none⟩)) :: l) b) w) : WA P n ops S F K (fuel + 1) listed (look l b) w := by
  obtain ⟨b', o', p, q⟩ := q_ixS (P := P) (n := n) (ops := ops) (S := S) (dst := some d) (ty := ty) (pos := pos) (af := af) ht hx hi hj w hS R
  exact wa_q i hi0 hs (q_guard g hg hgn hgt hgw q) hS rfl hn (h b' o' p)
/-- An element's place in whatever order, S knowing what the slice reads as. -/
theorem wa_ixS {F : List Nat} (i : Nat) {S : World → Prop} {t : TypeId} {x ix : Operand} {v : Value} {k : IntKind} {xs : List α} {j : Nat} {y : α} (hS : S w) (R : ∀ w, S w → rdSl E (hp w) v xs) (hi0 : ops[i]? = some ⟨some d, .indexAddr t x ix, ty, pos, af, none⟩) (hs : may ops F listed i = true) (ht : P.underlying t = some (.slice E.T)) (hx : evo (look l b) x = some v) (hi : evo (look l b) ix = some (.int k (j : Int))) (hj : xs[j]? = some y) (hn : Nat.blt d n = true)
    (h : ∀ b' o', sptr S b' o' (E.cells y) → WA P n ops S F K fuel (listed.setIfInBounds i true) (look ((d, .pointer (some ⟨b', o', none⟩)) :: l) b) w) : WA P n ops S F K (fuel + 1) listed (look l b) w := by
  obtain ⟨b', o', p, q⟩ := q_ixS (P := P) (n := n) (ops := ops) (S := S) (dst := some d) (ty := ty) (pos := pos) (af := af) ht hx hi hj w hS R
  exact wa_q i hi0 hs q hS rfl hn (h b' o' p)
end
/-- A parameter, a variable: a new block of known cells. -/
theorem e_box {T : TypeId} {x : Operand} {cs : List Value} (M : Mem w0 I0 I L w) (hc : (evo e x).map Value.cells = some cs.toArray) :
    Eff P n ops ⟨dst, .box T x, ty, pos, af, none⟩ e w fun v w' => ∃ b, v = .pointer (some ⟨b, 0, none⟩) ∧ Mem w0 I0 I (box b T cs :: L) w' := by
  replace hc := cells_of hc
  refine Eff.run (v := .pointer (some ⟨w.heap.size, 0, none⟩)) (w' := w.alloc (.cells cs.toArray T)) ?_ rfl ⟨_, rfl, M.alloc _ _ rfl (fun h e => e)⟩
  simp [execOp, Instr.box, newVar, newRow, hc]
def zeroOf (P : Program) (T : TypeId) : Option (List Value) := ((P.info? T).bind (·.zero)).map (·.cells.toList)
theorem e_alloc {T : TypeId} {cs : List Value} (M : Mem w0 I0 I L w) (hz : zeroOf P T = some cs) :
    Eff P n ops ⟨dst, .alloc T, ty, pos, af, none⟩ e w fun v w' => ∃ b, v = .pointer (some ⟨b, 0, none⟩) ∧ Mem w0 I0 I (box b T cs :: L) w' := by
  obtain ⟨z, hz1, hz2⟩ := Option.map_eq_some_iff.1 hz
  obtain ⟨i, hi, hzi⟩ := Option.bind_eq_some_iff.1 hz1
  refine Eff.run (v := .pointer (some ⟨w.heap.size, 0, none⟩)) (w' := w.alloc (.cells cs.toArray T)) ?_ rfl ⟨_, rfl, M.alloc _ _ rfl (fun h e => e)⟩
  simp [execOp, Instr.alloc, newVar, newRow, zeroValue, typeInfo, hi, hzi, ← hz2]
theorem chg_setRow (w : World) (g : Nat) (cs : Array Value) : Chg w (w.setRow g cs) [g] :=
  ⟨rfl, rfl, rfl, by simp, fun k _ h => setRow_other w g k _ (by simpa using h), Nat.le_refl _⟩
/-- A store into a block of one's own. -/
theorem e_stb (i : Nat) {T T0 : TypeId} {x y : Operand} {b o : Nat} {cs vs cs' : List Value} (M : Mem w0 I0 I L w) (hi : L[i]? = some (box b T0 cs)) (hx : evo e x = some (.pointer (some ⟨b, o, none⟩))) (hy : (evo e y).map Value.cells = some vs.toArray) (hk : (P.info? T).map (·.size) = some vs.length) (h1 : vs.all (·.oneCell') = true)
    (hcs : (Nat.ble (o + vs.length) cs.length, cs.take o ++ (vs ++ cs.drop (o + vs.length))) = (true, cs')) :
    Eff P n ops ⟨dst, .store T x y, ty, pos, af, none⟩ e w fun v w' => Mem w0 I0 I (L.set i (box b T0 cs')) w' := by
  replace hx := ev_of hx
  replace hy := cells_of hy
  simp only [Prod.mk.injEq] at hcs
  obtain ⟨hle1, hcs⟩ := hcs
  have hle2 : o + vs.length ≤ cs.length := by simpa using hle1
  have hb := M.boxAt i hi
  have hst := run_storeCells_at P b o T0 vs 0 cs.toArray w hb (by simpa using hle2) (fun v hv => List.all_eq_true.1 h1 v hv)
  simp only [Nat.add_zero] at hst
  have hcs2 : (cs.toArray.toList.take o ++ vs ++ cs.toArray.toList.drop (o + vs.length)).toArray = cs'.toArray := by
    rw [← hcs]; simp
  rw [hcs2] at hst
  cases hq : P.info? T with
  | none => simp [hq] at hk
  | some inf =>
    have hs : inf.size = vs.length := by simpa [hq] using hk
    refine Eff.run0 (w' := w.setRow b cs'.toArray) ?_ rfl ?_
    · simp [execOp, Instr.storeAt, Instr.sureAddr, hx, storeVar, hy, sizeOf, typeInfo, hq, hs, hst]
    · refine M.upd i hi _ (chg_setRow w b _) (by simp [box]) (fun c hc => .inl hc) (fun c hc => ?_) (setRow_heap w b cs.toArray _ T0 _ hb)
      have := M.own (getElem?_mem' hi) hc
      simp only [size_setRow]
      exact this.2.1
/-- A whole block is stored into. -/
theorem e_stW (i : Nat) {T T0 : TypeId} {x y : Operand} {b : Nat} {cs vs : List Value} (M : Mem w0 I0 I L w) (hi : L[i]? = some (box b T0 cs)) (hx : evo e x = some (.pointer (some ⟨b, 0, none⟩))) (hy : (evo e y).map Value.cells = some vs.toArray) (hk : (P.info? T).map (·.size) = some vs.length) (h1 : vs.all (·.oneCell') = true) (hl : Nat.beq vs.length cs.length = true) :
    Eff P n ops ⟨dst, .store T x y, ty, pos, af, none⟩ e w fun v w' => Mem w0 I0 I (L.set i (box b T0 vs)) w' := by
  have hl' := Nat.eq_of_beq_eq_true hl
  refine e_stb i M hi hx hy hk h1 ?_
  rw [Nat.zero_add, hl']
  simp
theorem q_lenR {α : Type} {E : ET P α} {S : World → Prop} {t el : TypeId} {x : Operand} {v : Value} {xs : List α} (R : rdSl E I v xs) (ht : P.underlying t = some (.slice el)) (hx : evo e x = some v) : Quiet P n ops S ⟨dst, .call { callee := .builtin .len, args := #[x], argTypes := #[t] }, ty, pos, af, none⟩ e (.int .i64 (xs.length : Int)) := by
  obtain ⟨A, c, rfl, _⟩ := R
  exact q_lenS ht hx
theorem q_lenr {α : Type} {E : ET P α} (i : Nat) {t el : TypeId} {x : Operand} {v : Value} {xs : List α} (M : Mem w0 I0 I L w) (hL : L[i]? = some (row E v xs)) (ht : P.underlying t = some (.slice el)) (hx : evo e x = some v) : Quiet P n ops (Mem w0 I0 I L) ⟨dst, .call { callee := .builtin .len, args := #[x], argTypes := #[t] }, ty, pos, af, none⟩ e (.int .i64 (xs.length : Int)) :=
  q_lenR (M.rd hL) ht hx
theorem wl_m {K : Env → World → Prop} {o : Oper} {rest : List Oper} {l : List (Nat × Value)} {b : Env} {d : Nat} {v : Value} (M : Mem w0 I0 I L w) (hq : Quiet P n ops (Mem w0 I0 I L) o (look l b) v) (hd : o.dst = some d) (hn : Nat.blt d n = true) (h : WL P n ops K rest (look ((d, v) :: l) b) w) : WL P n ops K (o :: rest) (look l b) w := wl_q hq M hd hn h
theorem wa_m {F : List Nat} (i : Nat) {L' : List Res} {I' : Heap} {K : Env → World → Prop} {o : Oper} {l : List (Nat × Value)} {b : Env} {d : Nat} {v : Value} {fuel : Nat} {listed : Array Bool} (M : Mem w0 I0 I' L' w) (hi : ops[i]? = some o) (hs : may ops F listed i = true)
    (hq : Quiet P n ops (Mem w0 I0 I' L') o (look l b) v) (hd : o.dst = some d) (hn : Nat.blt d n = true) (h : WA P n ops (Mem w0 I0 I' L') F K fuel (listed.setIfInBounds i true) (look ((d, v) :: l) b) w) : WA P n ops (Mem w0 I0 I' L') F K (fuel + 1) listed (look l b) w := wa_q i hi hs hq M hd hn h

/-! slices of one's own -/
section
variable {α : Type} {E : ET P α}
/-- The cells that 'buildSlice' lays. -/
def bldS (P : Program) (t k : Nat) (ps : List (Nat × List Value)) (T : TypeId) (cs : List Value) : Prop := ∀ w, (Instr.buildSlice t k (ps.map fun p => (p.1, Value.agg p.2.toArray)).toArray).run P w = .ok (.slice (some ⟨w.heap.size, 0, none⟩) k k) (w.alloc (.cells cs.toArray T))
theorem run_buildSlice_cells {t k : Nat} {l qs : List (Nat × Value)} (h : l.map (fun p => (p.1, p.2.cells)) = qs.map (fun p => (p.1, p.2.cells))) (w : World) : (Instr.buildSlice t k l.toArray).run P w = (Instr.buildSlice t k qs.toArray).run P w := by
  unfold Instr.buildSlice
  simp only [Sem.run_bind]
  congr 1
  funext d w1
  cases d <;> simp only [] <;> try rfl
  simp only [Sem.run_bind]
  congr 1
  funext s w2
  have : ∀ (c : Prop) [Decidable c] (x : Sem Unit) (f g : Unit → Sem Value) (w : World), (∀ u w, (f u).run P w = (g u).run P w) → ((if c then x else pure ()) >>= f).run P w = ((if c then x else pure ()) >>= g).run P w := by
    intro c _ x f g w hfg
    simp only [Sem.run_bind]
    congr 1
    funext u w'
    exact hfg u w'
  simp only [fill_cells l qs _ h]
theorem run_bs {t k : Nat} {ps : List (Nat × Operand)} {cps : List (Nat × List Value)} {T : TypeId} {cs : List Value} (hb : bldS P t k cps T cs) (hc : cellsOf e ps cps) (w : World) :
    (execOp (evl e) ⟨dst, .buildSlice t k ps.toArray, ty, pos, af, none⟩).run P w = .ok (.value (.slice (some ⟨w.heap.size, 0, none⟩) k k)) (w.alloc (.cells cs.toArray T)) := by
  have h1 := run_buildSlice_cells (P := P) (t := t) (k := k) (cellsOf_map hc) w
  rw [hb w] at h1
  have h2 : (List.map (fun x : Nat × Operand => (x.fst, evl e x.snd)) ps).toArray = (ps.toArray.map fun x => (x.fst, evl e x.snd)) := by simp
  simp only [execOp, Sem.run_bind, Sem.run_pure, ← h2, h1, Result.andThen_ok]
/-- 'buildSlice': a slice that nobody writes any more. -/
theorem e_bsI {t k : Nat} {ps : List (Nat × Operand)} {cps : List (Nat × List Value)} {cs : List Value} {xs : List α} (M : Mem w0 I0 I L w) (hb : bldS P t k cps E.T cs) (hc : cellsOf e ps cps) (hxs : E.all xs = cs) (hk : xs.length = k) (hm : k ≤ 1000) :
    Eff P n ops ⟨dst, .buildSlice t k ps.toArray, ty, pos, af, none⟩ e w fun v w' => ∃ (u : SV) (I' : Heap), v = sv u ∧ hle I I' ∧ rdSl E I' (sv u) xs ∧ Mem w0 I0 I' L w' := by
  refine Eff.run (run_bs hb hc w) rfl ⟨(some ⟨w.heap.size, 0, none⟩, k, k), _, rfl, addI_le M.imm _, ?_, M.allocI _⟩
  refine ⟨_, k, by rw [hk]; rfl, by omega, by simp only [maxLen]; omega, fun _ => ⟨_, 0, rfl, cs.toArray, E.T, (0, 0), by simp [addI], ?_⟩⟩
  rw [hxs]; simp
/-- 'buildSlice': a slice of one's own. -/
theorem e_bsR {t k : Nat} {ps : List (Nat × Operand)} {cps : List (Nat × List Value)} {cs : List Value} {xs : List α} (M : Mem w0 I0 I L w) (hb : bldS P t k cps E.T cs) (hc : cellsOf e ps cps) (hxs : E.all xs = cs) (hk : xs.length = k) (hm : k ≤ 1000) :
    Eff P n ops ⟨dst, .buildSlice t k ps.toArray, ty, pos, af, none⟩ e w fun v w' => ∃ u : SV, v = sv u ∧ Mem w0 I0 I (row E (sv u) xs :: L) w' := by
  refine Eff.run (run_bs hb hc w) rfl ⟨(some ⟨w.heap.size, 0, none⟩, k, k), rfl, M.alloc _ _ (by simp [row, Value.ownBlock, sv]) fun h eh => .inr ⟨_, 0, k, cs.toArray, by rw [hk]; rfl, eh, by omega, by simp only [maxLen]; omega, ?_, ?_⟩⟩
  · have := E.all_length xs
    rw [hxs] at this
    rw [Nat.zero_add, ← hk]
    simp [this]
  · have := E.all_length xs
    rw [hxs] at this
    rw [← this, hxs]
    simp
end
end
end Go.Proofs.YtmjieefhjmiagaaDoor.G
