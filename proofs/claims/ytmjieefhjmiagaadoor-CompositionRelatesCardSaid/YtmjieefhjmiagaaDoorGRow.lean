/- Walk library, part 10: parts of a slice of one's own: s[k:] beside s, s[:k], s[:n:n], clear. Plain theorems over any program. -/
import Derived.Test.YtmjieefhjmiagaaDoorGMapC
import Derived.Laws.Slices
set_option linter.all false
namespace Go.Proofs.YtmjieefhjmiagaaDoor.G
open Go Go.RowKit
def cutV (sz : Nat) (u : SV) (k : Nat) : SV := (if u.2.2 = k then u.1 else u.1.map (·.add (k * sz)), u.2.1 - k, u.2.2 - k)
def takeV (u : SV) (k : Nat) : SV := (u.1, k, u.2.2)
def clipV (u : SV) : SV := (u.1, u.2.1, u.2.1)
section
variable {P : Program} {n : Nat} {ops : Array Oper} {e : Env} {dst : Option Tmp} {ty : TypeId} {pos : String} {af : Array Edge} {w0 w : World} {I0 I : Heap} {L : List Res} {α : Type} {E : ET P α} {S : World → Prop}
theorem all_get (xs : List α) (t : Nat) (ht : t < xs.length * E.sz) : ∃ x v, xs[t / E.sz]? = some x ∧ (E.cells x)[t % E.sz]? = some v ∧ (E.all xs)[t]? = some v := by
  have hp := E.pos
  have hd : t / E.sz < xs.length := Nat.div_lt_of_lt_mul (by rw [Nat.mul_comm]; exact ht)
  have hx := List.getElem?_eq_getElem hd
  have hm : t % E.sz < (E.cells xs[t / E.sz]).length := by rw [E.len]; exact Nat.mod_lt _ hp
  refine ⟨_, _, hx, List.getElem?_eq_getElem hm, ?_⟩
  rw [E.all_split xs hx]
  have hl : (E.all (xs.take (t / E.sz))).length = t / E.sz * E.sz := by rw [E.all_length, List.length_take, Nat.min_eq_left (by omega)]
  have ht2 : t = t / E.sz * E.sz + t % E.sz := by rw [Nat.mul_comm]; exact (Nat.div_add_mod t E.sz).symm
  rw [List.append_assoc, List.getElem?_append_right (by rw [hl]; omega), hl, List.getElem?_append_left (by rw [E.len] at hm ⊢; omega)]
  rw [show t - t / E.sz * E.sz = t % E.sz by omega]
  exact List.getElem?_eq_getElem hm
theorem rd_len {h : Heap} {u : SV} {xs : List α} (r : rdSl E h (sv u) xs) : u.2.1 = xs.length := by
  obtain ⟨A, c, hv, _⟩ := r
  obtain ⟨a, m, c'⟩ := u
  simp only [sv, Value.slice.injEq] at hv
  exact hv.2.1
theorem Mem.rowLen (M : Mem w0 I0 I L w) {i : Nat} {u : SV} {xs : List α} (hL : L[i]? = some (row E (sv u) xs)) : u.2.1 = xs.length := rd_len (M.rd hL)
theorem rdCut {h : Heap} {u : SV} {xs : List α} {k : Nat} (r : rdSl E h (sv u) xs) (hk : k ≤ xs.length) : rdSl E h (sv (cutV E.sz u k)) (xs.drop k) := by
  obtain ⟨A, m, c⟩ := u
  exact r.cut hk
theorem q_cutV {t : TypeId} {x y : Operand} {kd : IntKind} {u : SV} {k : Nat} (ht : P.underlying t = some (.slice E.T)) (hx : evo e x = some (sv u)) (hy : evo e y = some (.int kd (k : Int))) (hk : k ≤ u.2.1) :
    Quiet P n ops S ⟨dst, .slice t x (some y) none none, ty, pos, af, none⟩ e (sv (cutV E.sz u k)) := by
  replace hx := ev_of hx
  replace hy := ev_of hy
  obtain ⟨A, m, c⟩ := u
  refine q_of rfl fun w _ => ?_
  have := run_cut_lo (E := E) (A := A) (m := m) (c := c) (kd := kd) ht hk w
  simp only [execOp, Sem.run_bind, Instr.sliceAt, run_underlying ht, Result.andThen_ok, Option.map_some, Option.map_none, hx, hy, sv, this, Sem.run_pure, cutV]
theorem map_add0 (A : Option Addr) (c : Nat) : (if c = 0 then A else A.map (·.add (0 * 1))) = A := by
  split
  · rfl
  · cases A with
    | none => rfl
    | some a => simp [Addr.add]
theorem q_takeV {t : TypeId} {x y : Operand} {kd : IntKind} {u : SV} {k : Nat} (ht : P.underlying t = some (.slice E.T)) (hx : evo e x = some (sv u)) (hy : evo e y = some (.int kd (k : Int))) (hk : k ≤ u.2.2) :
    Quiet P n ops S ⟨dst, .slice t x none (some y) none, ty, pos, af, none⟩ e (sv (takeV u k)) := by
  replace hx := ev_of hx
  replace hy := ev_of hy
  obtain ⟨A, m, c⟩ := u
  obtain ⟨i, z, hi, hsz, _⟩ := E.info
  refine q_of rfl fun w _ => ?_
  have hk' : (k : Int) ≤ (c : Int) := by have : k ≤ c := hk; omega
  have h0 : (0 : Int) ≤ (k : Int) := by omega
  have hA : (if c = 0 then A else A.map (·.add 0)) = A := by
    split
    · rfl
    · cases A with
      | none => rfl
      | some a => simp [Addr.add]
  have : (Instr.slice t (.slice A m c) none (some (.int kd (k : Int))) none).run P w = .ok (.slice A k c) w := by
    have hkc : k ≤ c := hk
    simp [Instr.slice, run_underlying ht, Instr.sliceBounds, Instr.sliceBound, asIntOf, hkc, sizeOf, typeInfo, hi, hsz, hA]
  simp only [execOp, Sem.run_bind, Instr.sliceAt, run_underlying ht, Result.andThen_ok, Option.map_some, Option.map_none, hx, hy, sv, this, Sem.run_pure, takeV]
theorem q_clipV {t : TypeId} {x y z : Operand} {k1 k2 : IntKind} {u : SV} (ht : P.underlying t = some (.slice E.T)) (hx : evo e x = some (sv u)) (hy : evo e y = some (.int k1 (u.2.1 : Int))) (hz : evo e z = some (.int k2 (u.2.1 : Int))) (hk : u.2.1 ≤ u.2.2) :
    Quiet P n ops S ⟨dst, .slice t x none (some y) (some z), ty, pos, af, none⟩ e (sv (clipV u)) := by
  replace hx := ev_of hx
  replace hy := ev_of hy
  replace hz := ev_of hz
  obtain ⟨A, m, c⟩ := u
  obtain ⟨i, z, hi, hsz, _⟩ := E.info
  refine q_of rfl fun w _ => ?_
  have hA : (if m = 0 then A else A.map (·.add 0)) = A := by
    split
    · rfl
    · cases A with
      | none => rfl
      | some a => simp [Addr.add]
  have hkc : m ≤ c := hk
  have : (Instr.slice t (.slice A m c) none (some (.int k1 (m : Int))) (some (.int k2 (m : Int)))).run P w = .ok (.slice A m m) w := by
    simp [Instr.slice, run_underlying ht, Instr.sliceBounds, Instr.sliceBound, asIntOf, hkc, sizeOf, typeInfo, hi, hsz, hA]
  simp only [execOp, Sem.run_bind, Instr.sliceAt, run_underlying ht, Result.andThen_ok, Option.map_some, Option.map_none, hx, hy, hz, sv, this, Sem.run_pure, clipV]
theorem Mem.rowCap (M : Mem w0 I0 I L w) {i : Nat} {u : SV} {xs : List α} (hL : L[i]? = some (row E (sv u) xs)) : u.2.1 ≤ u.2.2 := by
  obtain ⟨A, c, hv, h1, _⟩ := M.rd hL
  obtain ⟨a, m, c'⟩ := u
  simp only [sv, Value.slice.injEq] at hv
  obtain ⟨_, rfl, rfl⟩ := hv
  exact h1
theorem Mem.rowTake (M : Mem w0 I0 I L w) (i : Nat) {u : SV} {xs : List α} (hL : L[i]? = some (row E (sv u) xs)) {k : Nat} (hk : k ≤ xs.length) : Mem w0 I0 I (L.set i (row E (sv (takeV u k)) (xs.take k))) w := by
  obtain ⟨A, m, c⟩ := u
  refine M.reval i hL _ (fun b hb => by cases A <;> simpa [row, sv, takeV, clipV, Value.ownBlock] using hb) (by cases A <;> simp [row, sv, takeV, clipV, Value.ownBlock]) ?_
  rcases (M.holds _ (getElem?_mem' hL) : rowHolds E _ xs (hp w)) with ⟨hv, rfl⟩ | ⟨b, o, cc, cur, hv, hb, h1, h2, h3, h4⟩
  · simp only [sv, Value.slice.injEq] at hv
    obtain ⟨rfl, rfl, rfl⟩ := hv
    have : k = 0 := by simpa using hk
    subst this
    exact .inl ⟨rfl, by simp⟩
  · simp only [sv, Value.slice.injEq] at hv
    obtain ⟨rfl, rfl, rfl⟩ := hv
    have hl : (xs.take k).length = k := by rw [List.length_take, Nat.min_eq_left hk]
    refine .inr ⟨b, o, c, cur, by rw [hl]; rfl, hb, by rw [hl]; omega, h2, h3, ?_⟩
    rw [hl]
    have h5 := congrArg (List.take (k * E.sz)) h4
    rw [List.take_take, Nat.min_eq_left (Nat.mul_le_mul_right _ hk)] at h5
    rw [h5]
    have e1 : E.all xs = E.all (xs.take k) ++ E.all (xs.drop k) := by rw [← E.all_append, List.take_append_drop]
    have e2 : (E.all (xs.take k)).length = k * E.sz := by rw [E.all_length, hl]
    rw [e1, ← e2, List.take_left]
theorem Mem.rowClip (M : Mem w0 I0 I L w) (i : Nat) {u : SV} {xs : List α} (hL : L[i]? = some (row E (sv u) xs)) : Mem w0 I0 I (L.set i (row E (sv (clipV u)) xs)) w := by
  obtain ⟨A, m, c⟩ := u
  refine M.reval i hL _ (fun b hb => by cases A <;> simpa [row, sv, takeV, clipV, Value.ownBlock] using hb) (by cases A <;> simp [row, sv, takeV, clipV, Value.ownBlock]) ?_
  rcases (M.holds _ (getElem?_mem' hL) : rowHolds E _ xs (hp w)) with ⟨hv, rfl⟩ | ⟨b, o, cc, cur, hv, hb, h1, h2, h3, h4⟩
  · simp only [sv, Value.slice.injEq] at hv
    obtain ⟨rfl, rfl, rfl⟩ := hv
    exact .inl ⟨rfl, rfl⟩
  · simp only [sv, Value.slice.injEq] at hv
    obtain ⟨rfl, rfl, rfl⟩ := hv
    refine .inr ⟨b, o, xs.length, cur, rfl, hb, Nat.le_refl _, by omega, ?_, h4⟩
    have := Nat.mul_le_mul_right E.sz h1
    omega
/-- clear(s[k:]). -/
theorem e_clear (i : Nat) {t : TypeId} {x : Operand} {u : SV} {xs : List α} {k : Nat} {zv : α} (M : Mem w0 I0 I L w) (hL : L[i]? = some (row E (sv u) xs)) (ht : P.underlying t = some (.slice E.T)) (hz : zeroOf P E.T = some (E.cells zv)) (hx : evo e x = some (sv (cutV E.sz u k))) (hk : k ≤ xs.length) :
    Eff P n ops ⟨dst, .call { callee := .builtin .clear, args := #[x], argTypes := #[t] }, ty, pos, af, none⟩ e w fun _ w' => Mem w0 I0 I (L.set i (row E (sv u) (xs.take k ++ List.replicate (xs.length - k) zv))) w' := by
  replace hx := ev_of hx
  have hri := getElem?_mem' hL
  have hul := M.rowLen hL
  obtain ⟨A, m, c⟩ := u
  simp only at hul
  subst hul
  by_cases hkl : k = xs.length
  · have hxs : xs.take k ++ List.replicate (xs.length - k) zv = xs := by rw [hkl]; simp
    rw [hxs]
    have hLL : L.set i (row E (sv (A, xs.length, c)) xs) = L := by
      apply List.ext_getElem?
      intro j
      rw [List.getElem?_set]
      split
      · rename_i e; subst e
        split
        · exact hL.symm
        · rename_i h; rw [List.getElem?_eq_none (by omega)]
      · rfl
    rw [hLL]
    refine Eff.run (v := .tuple #[]) (w' := w) ?_ rfl M
    have h0 : xs.length - k = 0 := by omega
    simp only [cutV, sv, h0] at hx
    cases hA : (if c = k then A else A.map (·.add (k * E.sz))) with
    | none => rw [hA] at hx; simp [execOp, resolve, invoke, builtin, Builtin.clear_, hx, run_underlying ht]
    | some a => rw [hA] at hx; simp [execOp, resolve, invoke, builtin, Builtin.clear_, hx, run_underlying ht]
  · rcases (M.holds _ hri : rowHolds E _ xs (hp w)) with ⟨hv, rfl⟩ | ⟨b, o, cc, cur, hv, hb, h1, h2, h3, h4⟩
    · simp at hk hkl; omega
    · simp only [sv, Value.slice.injEq] at hv
      obtain ⟨rfl, _, rfl⟩ := hv
      have hck : ¬ c = k := by omega
      simp only [cutV, sv, if_neg hck, Option.map_some, add_off] at hx
      obtain ⟨zz, hz1, hz2⟩ := Option.map_eq_some_iff.1 hz
      obtain ⟨inf, hi, hzi⟩ := Option.bind_eq_some_iff.1 hz1
      have hzv : (zeroValue E.T).run P w = .ok zz w := by simp [zeroValue, typeInfo, hi, hzi]
      have hzs : zz.cells.toList = E.cells zv := hz2
      have hzz : zz.cells.size = E.sz := by rw [← E.len zv, ← hzs]; simp
      have hzc : (Builtin.zeroCells zz.cells (xs.length - k)).toList = E.all (List.replicate (xs.length - k) zv) := by
        apply List.ext_getElem?
        intro t
        by_cases ht : t < (xs.length - k) * E.sz
        · obtain ⟨y, v, g1, g2, g3⟩ := all_get (E := E) (List.replicate (xs.length - k) zv) t (by simpa using ht)
          have hy : y = zv := by rw [List.getElem?_replicate] at g1; split at g1 <;> simp_all
          subst hy
          rw [g3, Array.getElem?_toList, Builtin.zeroCells, Array.getElem?_map, Array.getElem?_range, hzz, if_pos ht]
          simp only [Option.map_some]
          rw [← hzs, Array.getElem?_toList] at g2
          obtain ⟨q1, q2⟩ := Array.getElem?_eq_some_iff.1 g2
          rw [getElem!_pos zz.cells (t % E.sz) q1, q2]
        · rw [List.getElem?_eq_none (by simp [Builtin.zeroCells, hzz]; omega), List.getElem?_eq_none (by rw [E.all_length]; simp; omega)]
      have hl1 : (E.all (xs.take k)).length = k * E.sz := by rw [E.all_length, List.length_take, Nat.min_eq_left hk]
      have hle : xs.length * E.sz ≤ c * E.sz := Nat.mul_le_mul_right _ h1
      have hsum : k * E.sz + (xs.length - k) * E.sz = xs.length * E.sz := by rw [← Nat.add_mul]; congr 1; omega
      have hlz : (E.all (List.replicate (xs.length - k) zv)).length = (xs.length - k) * E.sz := by rw [E.all_length]; simp
      have hst := run_storeCells_at P b (o + k * E.sz) E.T (E.all (List.replicate (xs.length - k) zv)) 0 cur w hb (by rw [hlz]; simp; omega) (E.all_one' _)
      simp only [Nat.add_zero, hlz] at hst
      refine Eff.run (v := .tuple #[]) (w' := w.setRow b (cur.toList.take (o + k * E.sz) ++ E.all (List.replicate (xs.length - k) zv) ++ cur.toList.drop (o + k * E.sz + (xs.length - k) * E.sz)).toArray) ?_ rfl (M.upd i hL _ (chg_setRow w b _) (by simp [row, sv, Value.ownBlock]) (fun x h => .inl h) (fun x h => ?_) (.inr ⟨b, o, c, (cur.toList.take (o + k * E.sz) ++ E.all (List.replicate (xs.length - k) zv) ++ cur.toList.drop (o + k * E.sz + (xs.length - k) * E.sz)).toArray, by simp [sv]; omega, setRow_heap w b cur _ E.T _ hb, by simp; omega, h2, ?_, ?_⟩))
      · obtain ⟨q, hq⟩ : ∃ q, xs.length - k = q + 1 := ⟨xs.length - k - 1, by omega⟩
        rw [hq] at hx hzc hst ⊢
        simp [execOp, resolve, invoke, builtin, Builtin.clear_, hx, run_underlying ht, hzv, hzc, hst]
      · have := M.own hri h
        simp only [size_setRow]
        exact this.2.1
      · simp only [List.size_toArray, List.length_append, List.length_take, List.length_drop, Array.length_toList, hlz]
        omega
      · have hsp : E.all xs = E.all (xs.take k) ++ E.all (xs.drop k) := by rw [← E.all_append, List.take_append_drop]
        have hld : (E.all (xs.drop k)).length = (xs.length - k) * E.sz := by rw [E.all_length, List.length_drop]
        rw [hsp, ← List.append_nil (_ ++ _)] at h4
        have := set_seg (cs := E.all (List.replicate (xs.length - k) zv)) h4 (by simp only [Array.length_toList]; omega) (by rw [hlz, hld])
        rw [hl1, hlz, List.append_nil] at this
        have e1 : (xs.take k ++ List.replicate (xs.length - k) zv).length = xs.length := by simp; omega
        rw [e1, this, E.all_append]
end
/-! structs that are compared -/
structure EqT (P : Program) (κ : Type) [DecidableEq κ] where
  T : TypeId
  cells : κ → List Value
  eq : ∀ w a b, (Op.equalIn 10000 T (.agg (cells a).toArray) (.agg (cells b).toArray)).run P w = .ok (decide (a = b)) w
  gd : P.eqGuardType P.depth T = false
def EqT.ints {P : Program} {κ : Type} [DecidableEq κ] (T : TypeId) (qs : List IntKind) (g : κ → List Int) (f : κ → List Value) (fs : Array Field) (hu : P.underlying T = some (.struct fs)) (hp : P.stoodInHeld T = false) (hfs : intFlds P fs.toList 0 = true) (hq : qs.length = fs.toList.length)
    (hg : ∀ k, (g k).length = fs.toList.length) (hf : ∀ k, ivals qs (g k) = f k) (hinj : ∀ a b, g a = g b → a = b) (gd : P.eqGuardType P.depth T = false) : EqT P κ where
  T := T
  cells := f
  gd := gd
  eq w a b := by
    have hfo : P.fieldsOf T = fs := by simp [Program.fieldsOf, hu]
    show (Op.equalIn (9999 + 1) T _ _).run P w = _
    rw [run_equalIn_struct w 9999 T _ _ (by rw [hfo]; exact hu) hp, hfo]
    rw [run_eqFields_ints fs.toList 0 (g a) (g b) hfs (hg a) (hg b) (fun j x y h1 h2 => by
      rw [← hf a, ← hf b]
      obtain ⟨q, hq1, h1⟩ := ivals_get (qs := qs) (by rw [hq, hg]) h1
      obtain ⟨q', hq2, h2⟩ := ivals_get (qs := qs) (by rw [hq, hg]) h2
      rw [hq1] at hq2
      cases hq2
      exact ⟨q, by simpa using h1, by simpa using h2⟩)]
    congr 1
    by_cases e : a = b
    · subst e; simp
    · have : ¬ g a = g b := fun x => e (hinj a b x)
      simp [e, this]
section
variable {P : Program} {n : Nat} {ops : Array Oper} {e : Env} {dst : Option Tmp} {ty : TypeId} {pos : String} {af : Array Edge} {S : World → Prop} {κ : Type} [DecidableEq κ]
theorem q_eqlK (K : EqT P κ) (x y : κ) {T T2 : TypeId} {X Y : Operand} (hT : K.T = T) (hx : evo e X = some (.agg (K.cells x).toArray)) (hy : evo e Y = some (.agg (K.cells y).toArray)) : Quiet P n ops S ⟨dst, .binOp .eql T X Y T2, ty, pos, af, none⟩ e (.bool (decide (x = y))) := by
  subst hT
  replace hx := ev_of hx
  replace hy := ev_of hy
  refine q_of rfl fun w _ => ?_
  simp only [execOp, hx, hy, Sem.run_bind, run_eqGuard_agg w .eql K.T X Y _ _ K.gd, Result.andThen_ok, run_eql_struct, K.eq, Sem.run_pure]
theorem q_neqK (K : EqT P κ) (x y : κ) {T T2 : TypeId} {X Y : Operand} (hT : K.T = T) (hx : evo e X = some (.agg (K.cells x).toArray)) (hy : evo e Y = some (.agg (K.cells y).toArray)) : Quiet P n ops S ⟨dst, .binOp .neq T X Y T2, ty, pos, af, none⟩ e (.bool (!decide (x = y))) := by
  subst hT
  replace hx := ev_of hx
  replace hy := ev_of hy
  refine q_of rfl fun w _ => ?_
  simp only [execOp, hx, hy, Sem.run_bind, run_eqGuard_agg w .neq K.T X Y _ _ K.gd, Result.andThen_ok, run_neq_struct, K.eq, Sem.run_pure]
end
/-! a resource at the front -/
theorem front_perm : ∀ {L : List Res} {i : Nat} {r : Res}, L[i]? = some r → (r :: L.eraseIdx i).Perm L
  | [], i, r, h => by simp at h
  | x :: L, 0, r, h => by simp at h; subst h; exact .refl _
  | x :: L, i + 1, r, h => by
    simp at h
    exact (List.Perm.swap x r _).trans ((front_perm h).cons x)
theorem set_perm : ∀ {L : List Res} {i : Nat} {r : Res} (r' : Res), L[i]? = some r → (r' :: L.eraseIdx i).Perm (L.set i r')
  | [], i, r, r', h => by simp at h
  | x :: L, 0, r, r', h => by simp
  | x :: L, i + 1, r, r', h => by
    simp at h
    exact (List.Perm.swap x r' _).trans ((set_perm r' h).cons x)
theorem Mem.perm {w0 w : World} {I0 I : Heap} {L L' : List Res} (M : Mem w0 I0 I L w) (h : L.Perm L') : Mem w0 I0 I L' w :=
  ⟨M.below, M.old, M.imm, (h.flatMap_right Res.blks).nodup_iff.1 M.nodup, fun b hb => M.mine b ((h.flatMap_right Res.blks).mem_iff.2 hb), fun r hr => M.holds r (h.mem_iff.2 hr), M.dr⟩
/-- A contract on a resource at the front, at whatever place. -/
theorem at_place {P : Program} {f : FuncId} {args : Array Value} {w0 w : World} {I0 I : Heap} {L : List Res} {r : Res} {α : Type} {Q : Ending → α → Prop} {r' : α → Res} (c : ∀ Lt, Mem w0 I0 I (r :: Lt) w → Calls P f args w fun e w' => ∃ x, Q e x ∧ Mem w0 I0 I (r' x :: Lt) w') (M : Mem w0 I0 I L w) (i : Nat) (hL : L[i]? = some r) :
    Calls P f args w fun e w' => ∃ x, Q e x ∧ Mem w0 I0 I (L.set i (r' x)) w' :=
  (c (L.eraseIdx i) (M.perm (front_perm hL).symm)).mono fun e w' h => by
    obtain ⟨x, hq, M'⟩ := h
    exact ⟨x, hq, M'.perm (set_perm (r' x) hL)⟩
end Go.Proofs.YtmjieefhjmiagaaDoor.G
