/- Walk library, part 4 (slices of one's own: append, make, store, cut; calls). Plain theorems over any program. -/
import Derived.Test.YtmjieefhjmiagaaDoorGOps
set_option linter.all false
namespace Go.Proofs.YtmjieefhjmiagaaDoor.G
open Go Go.RowKit

section
variable {P : Program} {α : Type} {E : ET P α}

theorem take_of_seg {l : List Value} {o k : Nat} {xs : List Value} (h : (l.drop o).take k = xs) (hk : o + k ≤ l.length) : ∃ pre post, l = pre ++ xs ++ post ∧ pre.length = o ∧ xs.length = k := by
  refine ⟨l.take o, l.drop (o + k), ?_, by simp; omega, by rw [← h]; simp; omega⟩
  rw [← h, List.append_assoc]
  conv => lhs; rw [← List.take_append_drop o l]
  congr 1
  rw [← List.drop_drop]
  exact (List.take_append_drop k _).symm

/-- append, whatever the capacity. -/
theorem run_append {w : World} {t ty : TypeId} {s0 : Value} {xs ys : List α} {av : Value} {I : Heap} (hI : hle I (hp w)) (ht : P.underlying t = some (.slice E.T)) (hr : rowHolds E s0 xs (hp w)) (ha : rdSl E I av ys) (hbd : (xs.length + ys.length) * E.by' ≤ 140737488355328) :
    ∃ v' w', (Builtin.append_ #[t, t] ty #[s0, av]).run P w = .ok v' w' ∧ rowHolds E v' (xs ++ ys) (hp w') ∧ Chg w w' s0.ownBlock.toList ∧ (∀ b ∈ v'.ownBlock.toList, (b ∈ s0.ownBlock.toList ∨ w.heap.size ≤ b) ∧ b < w'.heap.size) := by
  obtain ⟨i, z, hi, hsz, hby, hz, hzs⟩ := E.info
  have hpos := E.pos
  have hby0 := E.byb
  obtain ⟨A, c, rfl, hc1, hc2, hA⟩ := ha
  have hlen : xs.length + ys.length ≤ 140737488355328 := Nat.le_trans (Nat.le_mul_of_pos_right _ hby0) hbd
  have hmax : maxLen = 9223372036854775807 := by decide
  by_cases hys : ys = []
  · -- nothing is appended
    subst hys
    have hzero : (Builtin.firstCells i.size 0 (.slice A 0 c)).run P w = .ok #[] w := by cases A <;> simp [Builtin.firstCells, loadCells, loadCellsFrom]
    refine ⟨s0, w, ?_, by simpa using hr, ⟨rfl, rfl, rfl, Nat.le_refl _, fun _ _ _ => rfl, Nat.le_refl _⟩, fun x hx => ?_⟩
    · rcases hr with ⟨rfl, rfl⟩ | ⟨b, o, cc, cur, rfl, _, hle, _⟩
      · simp [Builtin.append_, run_underlying ht, sizeOf, typeInfo, hi, Builtin.lenOf, hzero]
      · simp [Builtin.append_, run_underlying ht, sizeOf, typeInfo, hi, Builtin.lenOf, hle, hzero, storeCells]
    · refine ⟨.inl hx, ?_⟩
      rcases hr with ⟨rfl, rfl⟩ | ⟨b', o, cc, cur, rfl, hh, _⟩
      · simp [Value.ownBlock] at hx
      · simp [Value.ownBlock] at hx
        subst hx
        exact hp_lt hh
  · obtain ⟨ab, ao, rfl, pa⟩ := hA hys
    have pa' : ptr (hp w) ab ao (E.all ys) := pa.mono hI
    have hnl : (E.all ys).length = ys.length * i.size := by rw [E.all_length, hsz]
    have hnews : ∀ j v, (E.all ys)[j]? = some v → w.cell? ((⟨ab, ao, none⟩ : Addr).add j) = some v := fun j v hj => pa'.cell j v hj
    have h0 : 0 < ys.length := List.length_pos_iff.2 hys
    rcases hr with ⟨rfl, rfl⟩ | ⟨b, o, cc, cur, rfl, hb', hle, hcm, hcur, hseg⟩
    · -- onto nil
      have hrun := run_append_nil (P := P) w t ty E.T i z ht hi hz ⟨ab, ao, none⟩ ys.length c (E.all ys) hnl hnews h0 (by simp at hlen; omega) (by rw [hby]; simp at hbd; omega)
      have hge := grownCap_ge w ys.length 0 E.T
      refine ⟨_, _, hrun, ?_, ⟨rfl, rfl, rfl, by simp, fun k hk _ => heap_alloc_old w.drew _ hk, Nat.le_succ _⟩, fun x hx => ?_⟩
      · refine .inr ⟨w.heap.size, 0, grownCap w ys.length 0 E.T, _, by simp, hp_alloc_new w.drew _, by simpa using hge, grownCap_le_maxLen w _ _ _ (by simp at hlen; omega), ?_, ?_⟩
        · rw [Nat.zero_add]
          simp only [Array.size_append, List.size_toArray, hnl, hsz, size_zeroCells, hzs]
          rw [← Nat.add_mul, Nat.add_sub_cancel' hge]
          exact Nat.le_refl _
        · simp only [Array.toList_append, List.nil_append, List.drop_zero]
          have : (E.all ys).length = ys.length * E.sz := E.all_length ys
          rw [← this]
          simp
      · simp [Value.ownBlock] at hx
        subst hx
        exact ⟨.inr (Nat.le_refl _), by simp⟩
    · have hcur' : o + xs.length * E.sz ≤ cur.size := by
        have := Nat.mul_le_mul_right E.sz hle
        omega
      have holds : ∀ j v, (E.all xs)[j]? = some v → w.cell? ((⟨b, o, none⟩ : Addr).add j) = some v := fun j v hj =>
        ptr.cell (w := w) ⟨cur, E.T, (0, 0), hb', by rw [E.all_length]; exact hseg⟩ j v hj
      by_cases hroom : xs.length + ys.length ≤ cc
      · -- in place
        have hfit : o + xs.length * E.sz + (E.all ys).length ≤ cur.size := by
          rw [E.all_length, Nat.add_assoc, ← Nat.add_mul]
          have := Nat.mul_le_mul_right E.sz hroom
          omega
        have hst := run_storeCells_at P b (o + xs.length * E.sz) E.T (E.all ys) 0 cur w hb' (by simpa using hfit) (E.all_one' ys)
        simp only [Nat.add_zero] at hst
        have hf := run_firstCells_some (P := P) w i.size ys.length ⟨ab, ao, none⟩ ys.length c (E.all ys) hnl hnews
        refine ⟨.slice (some ⟨b, o, none⟩) (xs.length + ys.length) cc, w.setRow b (cur.toList.take (o + xs.length * E.sz) ++ E.all ys ++ cur.toList.drop (o + xs.length * E.sz + (E.all ys).length)).toArray, ?_, .inr ⟨b, o, cc, (cur.toList.take (o + xs.length * E.sz) ++ E.all ys ++ cur.toList.drop (o + xs.length * E.sz + (E.all ys).length)).toArray, by rw [List.length_append], setRow_heap w b cur _ E.T _ hb', by rw [List.length_append]; exact hroom, hcm, ?_, ?_⟩, chg_setRow w b _, fun x hx => ?_⟩
        · rw [hsz] at hf
          simp only [List.append_assoc] at hst ⊢
          simp [Builtin.append_, run_underlying ht, sizeOf, typeInfo, hi, Builtin.lenOf, hroom, hf, add_off, hsz, hst]
        · simp only [List.size_toArray, List.length_append, List.length_take, List.length_drop, Array.length_toList]
          omega
        · obtain ⟨pre, post, hl, hpre, hx⟩ := take_of_seg hseg (by simpa using hcur')
          rw [hl, ← hpre, ← hx, E.all_append]
          simp only [List.append_assoc]
          rw [show pre.length + (E.all xs).length = (pre ++ E.all xs).length by simp, ← List.append_assoc pre, List.take_left]
          simp only [List.append_assoc, List.drop_left]
          rw [show (xs ++ ys).length * E.sz = (E.all xs ++ E.all ys).length by rw [← E.all_append, E.all_length], ← List.append_assoc, List.take_left]
        · refine ⟨.inl (by simpa [Value.ownBlock] using hx), ?_⟩
          simp [Value.ownBlock] at hx
          subst hx
          simp only [size_setRow]
          exact hp_lt hb'
      · -- a new row
        have hrun := run_append_grow (P := P) w t ty E.T i z ht hi hz ⟨b, o, none⟩ xs.length cc (E.all xs) (by rw [E.all_length, hsz]) holds ⟨ab, ao, none⟩ ys.length c (E.all ys) hnl hnews (by omega) (by omega) (growslice_fits (by omega) (by rw [hby]; exact hbd))
        have hge := grownCap_ge w (xs.length + ys.length) cc E.T
        refine ⟨_, _, hrun, ?_, ⟨rfl, rfl, rfl, by simp, fun k hk _ => heap_alloc_old w.drew _ hk, Nat.le_succ _⟩, fun x hx => ?_⟩
        · refine .inr ⟨w.heap.size, 0, _, _, by rw [List.length_append], hp_alloc_new w.drew _, by rw [List.length_append]; exact hge, grownCap_le_maxLen w _ _ _ (by omega), ?_, ?_⟩
          · rw [Nat.zero_add]
            simp only [Array.size_append, List.size_toArray, E.all_length, size_zeroCells, hzs]
            rw [← Nat.add_mul, ← Nat.add_mul, Nat.add_sub_cancel' hge]
            exact Nat.le_refl _
          · simp only [Array.toList_append, List.drop_zero, ← E.all_append]
            rw [← E.all_length]
            simp
        · simp [Value.ownBlock] at hx
          subst hx
          exact ⟨.inr (Nat.le_refl _), by simp⟩

end

section
variable {P : Program} {n : Nat} {ops : Array Oper} {e : Env} {dst : Option Tmp} {ty : TypeId} {pos : String} {af : Array Edge} {w0 w : World} {I0 I : Heap} {L : List Res}
section
variable {α : Type} {E : ET P α}
theorem own_nodup (v : Value) : v.ownBlock.toList.Nodup := by cases v.ownBlock <;> simp
/-- append onto a slice of one's own. -/
theorem e_app (i : Nat) {t : TypeId} {x y : Operand} {s0 av : Value} {xs ys : List α} (M : Mem w0 I0 I L w) (hi : L[i]? = some (row E s0 xs)) (ha : rdSl E I av ys) (ht : P.underlying t = some (.slice E.T)) (hx : evo e x = some (s0)) (hy : evo e y = some (av)) (hb : (xs.length + ys.length) * E.by' ≤ 140737488355328) :
    Eff P n ops ⟨dst, .call { callee := .builtin .append, args := #[x, y], argTypes := #[t, t] }, ty, pos, af, none⟩ e w fun v w' => ∃ u : SV, v = sv u ∧ Mem w0 I0 I (L.set i (row E (sv u) (xs ++ ys))) w' := by
  replace hx := ev_of hx
  replace hy := ev_of hy
  obtain ⟨v', w', hrun, h1, h2, h3⟩ := run_append (ty := ty) M.imm ht (M.holds _ (getElem?_mem' hi)) ha hb
  obtain ⟨u, rfl⟩ := rowHolds_slice h1
  refine Eff.run (v := sv u) (w' := w') ?_ rfl ⟨u, rfl, M.upd i hi _ h2 (own_nodup (sv u)) (fun b hb => (h3 b hb).1) (fun b hb => (h3 b hb).2) h1⟩
  simp only [execOp, resolve, invoke, builtin, Sem.run_bind, Sem.run_pure, Result.andThen_ok, List.map_toArray, List.map_cons, List.map_nil, hx, hy, hrun]
/-- append of a slice of one's own onto another. -/
theorem e_app2 (i j : Nat) {t : TypeId} {x y : Operand} {s0 av : Value} {xs ys : List α} (M : Mem w0 I0 I L w) (hi : L[i]? = some (row E s0 xs)) (hj : L[j]? = some (row E av ys)) (ht : P.underlying t = some (.slice E.T)) (hx : evo e x = some (s0)) (hy : evo e y = some (av)) (hb : (xs.length + ys.length) * E.by' ≤ 140737488355328) :
    Eff P n ops ⟨dst, .call { callee := .builtin .append, args := #[x, y], argTypes := #[t, t] }, ty, pos, af, none⟩ e w fun v w' => ∃ u : SV, v = sv u ∧ Mem w0 I0 I (L.set i (row E (sv u) (xs ++ ys))) w' := by
  replace hx := ev_of hx
  replace hy := ev_of hy
  obtain ⟨v', w', hrun, h1, h2, h3⟩ := run_append (ty := ty) (hle.refl _) ht (M.holds _ (getElem?_mem' hi)) (M.rd hj) hb
  obtain ⟨u, rfl⟩ := rowHolds_slice h1
  refine Eff.run (v := sv u) (w' := w') ?_ rfl ⟨u, rfl, M.upd i hi _ h2 (own_nodup (sv u)) (fun b hb => (h3 b hb).1) (fun b hb => (h3 b hb).2) h1⟩
  simp only [execOp, resolve, invoke, builtin, Sem.run_bind, Sem.run_pure, Result.andThen_ok, List.map_toArray, List.map_cons, List.map_nil, hx, hy, hrun]
theorem all_replicate (E : ET P α) (y : α) : ∀ m, E.all (List.replicate m y) = (List.replicate m (E.cells y)).flatten := by
  intro m; induction m with
  | zero => rfl
  | succ m ih =>
    rw [List.replicate_succ, List.replicate_succ, List.flatten_cons, ← ih]
    simp [ET.all]
theorem madeCells_all (z : Array Value) (hz : 0 < z.size) (m : Nat) : (madeCells z (m * z.size)).toList = (List.replicate m z.toList).flatten := by
  induction m with
  | zero => simp [madeCells]
  | succ m ih =>
    rw [List.replicate_succ', List.flatten_append, ← ih]
    apply List.ext_getElem?
    intro j
    simp only [madeCells, Array.toList_map, Array.toList_range, List.getElem?_map, List.getElem?_append, List.length_map, List.length_range, List.flatten_singleton]
    rcases Nat.lt_or_ge j (m * z.size) with h | h
    · have h2 : j < (m + 1) * z.size := by rw [Nat.add_mul]; omega
      simp [h, h2]
    · rcases Nat.lt_or_ge j ((m + 1) * z.size) with h2 | h2
      · have h3 : j - m * z.size < z.size := by rw [Nat.add_mul] at h2; omega
        have h4 : j % z.size = j - m * z.size := by
          conv => lhs; rw [show j = (j - m * z.size) + z.size * m by rw [Nat.mul_comm z.size]; omega]
          rw [Nat.add_mul_mod_self_left, Nat.mod_eq_of_lt h3]
        simp [Nat.not_lt.2 h, h2, h3, h4]
      · have h3 : z.size ≤ j - m * z.size := by rw [Nat.add_mul] at h2; omega
        simp [Nat.not_lt.2 h, Nat.not_lt.2 h2, h3]
/-- make([]T, m). -/
theorem e_make {t : TypeId} {x y : Operand} {k k2 : IntKind} {m : Nat} {zv : α} (M : Mem w0 I0 I L w) (ht : P.underlying t = some (.slice E.T)) (hz : zeroOf P E.T = some (E.cells zv)) (hx : evo e x = some (.int k (m : Int))) (hy : evo e y = some (.int k2 (m : Int))) (hb : m * E.by' ≤ 281474976710656) :
    Eff P n ops ⟨dst, .makeSlice t x y, ty, pos, af, none⟩ e w fun v w' => ∃ u : SV, v = sv u ∧ Mem w0 I0 I (row E (sv u) (List.replicate m zv) :: L) w' := by
  replace hx := ev_of hx
  replace hy := ev_of hy
  obtain ⟨i, z, hi, hsz, hby, hz1, hzs⟩ := E.info
  have hzc : z.cells.toList = E.cells zv := by
    unfold zeroOf at hz
    rw [hi] at hz
    simpa [hz1] using hz
  have hpos := E.pos
  have hby0 := E.byb
  have hm : m ≤ 281474976710656 := Nat.le_trans (Nat.le_mul_of_pos_right _ hby0) hb
  have hbz : (i.bytes : Int) * (m : Int) ≤ 281474976710656 := by
    have : ((i.bytes * m : Nat) : Int) ≤ 281474976710656 := by rw [hby, Nat.mul_comm]; omega
    rwa [Int.natCast_mul] at this
  have hrun := run_make (P := P) w t E.T i z ht hi hz1 k k2 m m (by omega) (by omega) hbz (by omega)
  simp only [Int.toNat_natCast] at hrun
  refine Eff.run (v := .slice (some ⟨w.heap.size, 0, none⟩) m m) (w' := w.alloc (.cells (madeCells z.cells (m * i.size)) E.T)) ?_ rfl ⟨(some ⟨w.heap.size, 0, none⟩, m, m), rfl, M.alloc _ _ (by simp [row, Value.ownBlock, sv]) fun h eh => .inr ⟨w.heap.size, 0, m, madeCells z.cells (m * i.size), by simp [sv], eh, by simp, by simp only [maxLen]; omega, ?_, ?_⟩⟩
  · simp only [execOp, hx, hy, hrun, Sem.run_bind, Result.andThen_ok, Sem.run_pure]
  · rw [size_madeCells, hsz]; omega
  · rw [hsz, ← hzs, madeCells_all _ (by omega), hzc, all_replicate]
    simp only [List.drop_zero, List.length_replicate]
    rw [hzs, List.take_of_length_le]
    simp [E.len]
/-- s[k:] of a slice of one's own: the value turns, the memory does not. -/
theorem run_cut_lo {t : TypeId} {A : Option Addr} {m c k : Nat} {kd : IntKind} (ht : P.underlying t = some (.slice E.T)) (hk : k ≤ m) (w : World) : (Instr.slice t (.slice A m c) (some (.int kd (k : Int))) none none).run P w = .ok (.slice (if c = k then A else A.map (·.add (k * E.sz))) (m - k) (c - k)) w := by
  obtain ⟨i, z, hi, hsz, hby, hz1, hzs⟩ := E.info
  have h1 : (0 : Int) ≤ (k : Int) ∧ (k : Int) ≤ (m : Int) := by omega
  simp [Instr.slice, run_underlying ht, Instr.sliceBounds, Instr.sliceBound, asIntOf, hk, sizeOf, typeInfo, hi, hsz]
theorem rowHolds.cut {h : Heap} {A : Option Addr} {m c k : Nat} {xs : List α} (hk : k ≤ xs.length) (r : rowHolds E (.slice A m c) xs h) : rowHolds E (.slice (if c = k then A else A.map (·.add (k * E.sz))) (m - k) (c - k)) (xs.drop k) h := by
  rcases r with ⟨hv, rfl⟩ | ⟨b, o, cc, cur, hv, hb, h1, h2, h3, h4⟩
  · cases hv
    have : k = 0 := by simpa using hk
    subst this
    exact .inl ⟨by simp, by simp⟩
  · cases hv
    refine .inr ⟨b, if c = k then o else o + k * E.sz, c - k, cur, ?_, hb, by simp; omega, by omega, ?_, ?_⟩
    · split <;> simp [add_off]
    · split
      · rename_i he; subst he; simp; omega
      · have : k * E.sz + (c - k) * E.sz = c * E.sz := by rw [← Nat.add_mul]; congr 1; omega
        omega
    · have hall : E.all xs = E.all (xs.take k) ++ E.all (xs.drop k) := by rw [← E.all_append, List.take_append_drop]
      have hl := E.all_length (xs.take k)
      rw [List.length_take, Nat.min_eq_left hk] at hl
      split
      · rename_i he
        have : xs.drop k = [] := List.drop_eq_nil_of_le (by omega)
        rw [this]; simp [ET.all]
      · rw [← List.drop_drop]
        have h5 : ((cur.toList.drop o).take (xs.length * E.sz)).drop (k * E.sz) = E.all (xs.drop k) := by
          rw [h4, hall, ← hl, List.drop_left]
        rw [List.drop_take] at h5
        rw [← h5]
        congr 1
        rw [List.length_drop, ← Nat.sub_mul]
theorem Mem.reval (M : Mem w0 I0 I L w) (i : Nat) {r : Res} (hi : L[i]? = some r) (r' : Res) (hb : ∀ b ∈ r'.blks, b ∈ r.blks) (hn : r'.blks.Nodup) (hr : r'.holds (hp w)) : Mem w0 I0 I (L.set i r') w :=
  M.upd i hi r' ⟨rfl, rfl, rfl, Nat.le_refl _, fun _ _ _ => rfl, Nat.le_refl _⟩ hn (fun b h => .inl (hb b h)) (fun b h => (M.own (getElem?_mem' hi) (hb b h)).2.1) hr
/-- s = s[k:] of a slice of one's own. -/
theorem e_cut (i : Nat) {t : TypeId} {x y : Operand} {kd : IntKind} {s0 : Value} {k : Nat} {xs : List α} (M : Mem w0 I0 I L w) (hi : L[i]? = some (row E s0 xs)) (ht : P.underlying t = some (.slice E.T)) (hx : evo e x = some (s0)) (hy : evo e y = some (.int kd (k : Int))) (hk : k ≤ xs.length) :
    Eff P n ops ⟨dst, .slice t x (some y) none none, ty, pos, af, none⟩ e w fun v w' => ∃ u : SV, v = sv u ∧ Mem w0 I0 I (L.set i (row E (sv u) (xs.drop k))) w' := by
  replace hx := ev_of hx
  replace hy := ev_of hy
  have hr : rowHolds E s0 xs (hp w) := M.holds _ (getElem?_mem' hi)
  obtain ⟨A, c, rfl, _⟩ := hr.rd
  have hcut := hr.cut hk
  refine Eff.run (v := .slice (if c = k then A else A.map (·.add (k * E.sz))) (xs.length - k) (c - k)) (w' := w) ?_ rfl ⟨(if c = k then A else A.map (·.add (k * E.sz)), xs.length - k, c - k), rfl, M.reval i hi _ ?_ (own_nodup _) hcut⟩
  · have := run_cut_lo (E := E) (A := A) (m := xs.length) (c := c) (kd := kd) ht hk w
    simp only [execOp, Sem.run_bind, Instr.sliceAt, run_underlying ht, Result.andThen_ok, Option.map_some, Option.map_none, hx, hy, this, Sem.run_pure]
  · intro b hb
    simp only [row, sv] at hb ⊢
    cases A with
    | none => simp [Value.ownBlock] at hb
    | some a =>
      have : ∀ m : Nat, (a.add m).block = a.block := fun m => by unfold Addr.add; split <;> rfl
      split at hb <;> simpa [Value.ownBlock, this] using hb
/-- s[k:] of a slice that is read. -/
theorem rdSl.cut {h : Heap} {A : Option Addr} {m c k : Nat} {xs : List α} (hk : k ≤ xs.length) (r : rdSl E h (.slice A m c) xs) : rdSl E h (.slice (if c = k then A else A.map (·.add (k * E.sz))) (m - k) (c - k)) (xs.drop k) := by
  obtain ⟨A', c', hv, h1, h2, h3⟩ := r
  cases hv
  refine ⟨_, c - k, by rw [List.length_drop], by simp; omega, by omega, fun hne => ?_⟩
  have hlt : k < xs.length := by
    rcases Nat.lt_or_ge k xs.length with h | h
    · exact h
    · exact absurd (List.drop_eq_nil_of_le h) hne
  obtain ⟨b, o, rfl, p⟩ := h3 (by intro e; subst e; simp at hlt)
  rw [if_neg (by omega)]
  refine ⟨b, o + k * E.sz, by simp [add_off], ?_⟩
  have hall : E.all xs = E.all (xs.take k) ++ E.all (xs.drop k) := by rw [← E.all_append, List.take_append_drop]
  have hl := E.all_length (xs.take k)
  rw [List.length_take, Nat.min_eq_left hk] at hl
  rw [hall, ← List.append_nil (_ ++ _)] at p
  rw [← hl]
  exact p.part
theorem q_cut {t : TypeId} {x y : Operand} {kd : IntKind} {s0 : Value} {k : Nat} {xs : List α} {S : World → Prop} (R : rdSl E I s0 xs) (ht : P.underlying t = some (.slice E.T)) (hx : evo e x = some (s0)) (hy : evo e y = some (.int kd (k : Int))) (hk : k ≤ xs.length) :
    ∃ u : SV, rdSl E I (sv u) (xs.drop k) ∧ Quiet P n ops S ⟨dst, .slice t x (some y) none none, ty, pos, af, none⟩ e (sv u) := by
  replace hx := ev_of hx
  replace hy := ev_of hy
  obtain ⟨A, c, rfl, _⟩ := id R
  have hcut := R.cut hk
  refine ⟨(if c = k then A else A.map (·.add (k * E.sz)), xs.length - k, c - k), hcut, q_of rfl fun w _ => ?_⟩
  have := run_cut_lo (E := E) (A := A) (m := xs.length) (c := c) (kd := kd) ht hk w
  simp only [execOp, Sem.run_bind, Instr.sliceAt, run_underlying ht, Result.andThen_ok, Option.map_some, Option.map_none, hx, hy, this, Sem.run_pure, sv]
/-! a store into an element of a slice of one's own -/
/-- In every world of Mem the element's place is (b, o). -/
def eptr (E : ET P α) (s0 : Value) (j : Nat) (b o : Nat) : Prop := ∃ o' m c, s0 = .slice (some ⟨b, o', none⟩) m c ∧ o = o' + j * E.sz
theorem q_ixw {S : World → Prop} {t : TypeId} {x ix : Operand} {s0 : Value} {k : IntKind} {xs : List α} {j : Nat} (i : Nat) (M : Mem w0 I0 I L w) (hL : L[i]? = some (row E s0 xs)) (ht : P.underlying t = some (.slice E.T)) (hx : evo e x = some (s0)) (hi : evo e ix = some (.int k (j : Int))) (hj : j < xs.length) :
    ∃ b o, eptr E s0 j b o ∧ Quiet P n ops S ⟨dst, .indexAddr t x ix, ty, pos, af, none⟩ e (.pointer (some ⟨b, o, none⟩)) := by
  replace hx := ev_of hx
  replace hi := ev_of hi
  rcases (M.holds _ (getElem?_mem' hL) : rowHolds E s0 xs (hp w)) with ⟨_, rfl⟩ | ⟨b, o, c, cur, rfl, _⟩
  · simp at hj
  · exact ⟨b, _, ⟨o, _, c, rfl, rfl⟩, q_of rfl fun w _ => run_ix (s0 := .slice (some ⟨b, o, none⟩) xs.length c) ht hx hi hj⟩
theorem wl_ixw {K : Env → World → Prop} {rest : List Oper} {l : List (Nat × Value)} {b : Env} {d : Nat} {t : TypeId} {x ix : Operand} {v : Value} {k : IntKind} {xs : List α} {j : Nat} (i : Nat) (M : Mem w0 I0 I L w) (hL : L[i]? = some (row E v xs)) (ht : P.underlying t = some (.slice E.T)) (hx : evo (look l b) x = some v) (hi : evo (look l b) ix = some (.int k (j : Int))) (hj : j < xs.length) (hn : Nat.blt d n = true)
    (h : ∀ b' o', eptr E v j b' o' → WL P n ops K rest (look ((d, .pointer (some ⟨b', o', none⟩)) :: l) b) w) : WL P n ops K (⟨some d, .indexAddr t x ix, ty, pos, af, none⟩ :: rest) (look l b) w := by
  obtain ⟨b', o', p, q⟩ := q_ixw (P := P) (n := n) (ops := ops) (S := Mem w0 I0 I L) (dst := some d) (ty := ty) (pos := pos) (af := af) i M hL ht hx hi hj
  exact wl_q q M rfl hn (h b' o' p)
theorem wa_ixw {F : List Nat} (i r : Nat) {S : World → Prop} {K : Env → World → Prop} {l : List (Nat × Value)} {b : Env} {d fuel : Nat} {listed : Array Bool} {t : TypeId} {x ix : Operand} {v : Value} {k : IntKind} {xs : List α} {j : Nat} (M : Mem w0 I0 I L w) (hS : S w) (hL : L[r]? = some (row E v xs)) (hi0 : ops[i]? = some ⟨some d, .indexAddr t x ix, ty, pos, af, none⟩) (hs : may ops F listed i = true) (ht : P.underlying t = some (.slice E.T)) (hx : evo (look l b) x = some v) (hi : evo (look l b) ix = some (.int k (j : Int))) (hj : j < xs.length) (hn : Nat.blt d n = true)
    (h : ∀ b' o', eptr E v j b' o' → WA P n ops S F K fuel (listed.setIfInBounds i true) (look ((d, .pointer (some ⟨b', o', none⟩)) :: l) b) w) : WA P n ops S F K (fuel + 1) listed (look l b) w := by
  obtain ⟨b', o', p, q⟩ := q_ixw (P := P) (n := n) (ops := ops) (S := S) (dst := some d) (ty := ty) (pos := pos) (af := af) r M hL ht hx hi hj
  exact wa_q i hi0 hs q hS rfl hn (h b' o' p)
theorem set_seg {l : List Value} {o k : Nat} {a c d : List Value} {cs : List Value} (h : (l.drop o).take k = a ++ c ++ d) (hk : o + k ≤ l.length) (hc : cs.length = c.length) : ((l.take (o + a.length) ++ cs ++ l.drop (o + a.length + cs.length)).drop o).take k = a ++ cs ++ d := by
  obtain ⟨pre, post, hl, hpre, hx⟩ := take_of_seg h hk
  subst hl
  have e1 : o + a.length = (pre ++ a).length := by simp [hpre]
  have e2 : (pre ++ a).length + cs.length = (pre ++ a ++ c).length := by simp [hc]; omega
  have e3 : pre ++ (a ++ c ++ d) ++ post = (pre ++ a) ++ (c ++ d ++ post) := by simp
  have e4 : pre ++ (a ++ c ++ d) ++ post = (pre ++ a ++ c) ++ (d ++ post) := by simp
  rw [e1, e2]
  conv => lhs; rw [e3, List.take_left]
  rw [← e3, e4, List.drop_left]
  have e5 : pre ++ a ++ cs ++ (d ++ post) = pre ++ ((a ++ cs ++ d) ++ post) := by simp
  rw [e5, ← hpre, List.drop_left]
  have : k = (a ++ cs ++ d).length := by rw [← hx]; simp [hc]
  rw [this, List.take_left]
theorem e_str (i : Nat) {x y : Operand} {s0 : Value} {xs : List α} {j b o : Nat} {u : α} {T : TypeId} (M : Mem w0 I0 I L w) (hL : L[i]? = some (row E s0 xs)) (hT : E.T = T) (hx : evo e x = some (.pointer (some ⟨b, o, none⟩))) (hp1 : eptr E s0 j b o) (hj : j < xs.length) (hy : evo e y = some (E.val u)) :
    Eff P n ops ⟨dst, .store T x y, ty, pos, af, none⟩ e w fun v w' => Mem w0 I0 I (L.set i (row E s0 (xs.set j u))) w' := by
  subst hT
  replace hx := ev_of hx
  replace hy := ev_of hy
  obtain ⟨inf, z, hi, hsz, _⟩ := E.info
  obtain ⟨o', m, c', rfl, rfl⟩ := hp1
  rcases (M.holds _ (getElem?_mem' hL) : rowHolds E _ xs (hp w)) with ⟨hv, _⟩ | ⟨b', o2, c, cur, hv, hb, h1, h2, h3, h4⟩
  · cases hv
  · cases hv
    have hsp := E.all_split xs (List.getElem?_eq_getElem hj)
    have hl1 : (E.all (xs.take j)).length = j * E.sz := by rw [E.all_length, List.length_take, Nat.min_eq_left (by omega)]
    have hfit : o' + j * E.sz + E.sz ≤ cur.size := by
      have : (j + 1) * E.sz ≤ c' * E.sz := Nat.mul_le_mul_right _ (by omega)
      rw [Nat.add_mul] at this
      omega
    have hst := run_storeCells_at P b (o' + j * E.sz) E.T (E.cells u) 0 cur w hb (by rw [E.len]; simpa using hfit) (E.one u)
    simp only [Nat.add_zero, E.len] at hst
    refine Eff.run0 (w' := _) ?_ rfl (M.upd i hL _ (w' := w.setRow b (cur.toList.take (o' + j * E.sz) ++ E.cells u ++ cur.toList.drop (o' + j * E.sz + E.sz)).toArray) (chg_setRow w b _) (by simp [row, Value.ownBlock]) (fun x h => .inl h) (fun x h => ?_) (.inr ⟨b, o', c', (cur.toList.take (o' + j * E.sz) ++ E.cells u ++ cur.toList.drop (o' + j * E.sz + E.sz)).toArray, by rw [List.length_set], setRow_heap w b cur _ E.T _ hb, by rw [List.length_set]; exact h1, h2, ?_, ?_⟩))
    · simp [execOp, Instr.storeAt, Instr.sureAddr, hx, hy, storeVar, E.vcells, E.len, sizeOf, typeInfo, hi, hsz, hst]
    · have := M.own (getElem?_mem' hL) h
      simp only [size_setRow]
      exact this.2.1
    · simp only [List.size_toArray, List.length_append, List.length_take, List.length_drop, Array.length_toList, E.len]
      omega
    · rw [hsp] at h4
      have := set_seg (cs := E.cells u) h4 (by have := Nat.mul_le_mul_right E.sz h1; simp only [Array.length_toList]; omega) (by rw [E.len, E.len])
      rw [hl1, E.len] at this
      rw [List.length_set]
      rw [this, E.all_split (xs.set j u) (j := j) (x := u) (by simp [hj])]
      congr 2
      · congr 1; rw [List.take_set_of_le (Nat.le_refl _)]
      · rw [List.drop_set_of_lt (by omega)]
end

/-! ### calls -/
theorem evs_of {e : Env} : ∀ {xs : List Operand} {vs : List Value}, xs.map (evo e) = vs.map some → xs.map (evl e) = vs
  | [], [], _ => rfl
  | [], _ :: _, h => by simp at h
  | _ :: _, [], h => by simp at h
  | x :: xs, v :: vs, h => by
    simp only [List.map_cons, List.cons.injEq] at h
    rw [List.map_cons, ev_of h.1, evs_of h.2]
theorem run_call {f : FuncId} {fn : Func} {args : List Operand} {vs : List Value} {tys : Array TypeId} (hf : P.funcs[f]? = some fn) (hb : fn.body.isNone = false) (hn : (fn.name == "runtime.NumGoroutine") = false) (ha : args.map (evo e) = vs.map some) (w : World) :
    (execOp (evl e) ⟨dst, .call { callee := .value (.func f), args := args.toArray, argTypes := tys }, ty, pos, af, none⟩).run P w = .ok (.enter f vs.toArray) w := by
  replace ha := evs_of ha
  have h2 : (args.toArray.map (evl e)) = vs.toArray := by rw [← ha]; simp
  have h3 : evl e (.func f) = .func (.func f) #[] #[] := rfl
  simp only [execOp, resolve, h3, Deferred.ofValue, Sem.run_bind, Sem.run_pure, Result.andThen_ok, invoke, callFunc, run_program, hf, hn, hb, h2]
  simp
/-- A call, by its contract. -/
theorem e_call {f : FuncId} {fn : Func} {args : List Operand} {vs : List Value} {tys : Array TypeId} {post : Value → Heap → Prop} (M : Mem w0 I0 I L w) (hf : P.funcs[f]? = some fn) (hb : (fn.body.isNone || fn.name == "runtime.NumGoroutine") = false) (ha : args.map (evo e) = vs.map some)
    (c : Calls P f vs.toArray w (Ret w I post)) : Eff P n ops ⟨dst, .call { callee := .value (.func f), args := args.toArray, argTypes := tys }, ty, pos, af, none⟩ e w fun v w' => ∃ I', hle I I' ∧ post v I' ∧ Mem w0 I0 I' L w' := by
  simp only [Bool.or_eq_false_iff] at hb
  refine Eff.call (run_call hf hb.1 hb.2 ha w) rfl (c.mono ?_)
  rintro en w' ⟨v, I', rfl, g, hp1⟩
  exact ⟨v, rfl, I', g.hle M.imm, hp1, M.call g⟩
/-- The same, the contract ahead. -/
theorem e_callC {f : FuncId} {fn : Func} {args : List Operand} {vs : List Value} {tys : Array TypeId} {post : Value → Heap → Prop} (M : Mem w0 I0 I L w) (c : Calls P f vs.toArray w (Ret w I post)) (hf : P.funcs[f]? = some fn) (hb : (fn.body.isNone || fn.name == "runtime.NumGoroutine") = false) (ha : args.map (evo e) = vs.map some) :
    Eff P n ops ⟨dst, .call { callee := .value (.func f), args := args.toArray, argTypes := tys }, ty, pos, af, none⟩ e w fun v w' => ∃ I', hle I I' ∧ post v I' ∧ Mem w0 I0 I' L w' := e_call M hf hb ha c
theorem e_callVC {f : FuncId} {fn : Func} {g : Operand} {args : List Operand} {vs caps : List Value} {tys : Array TypeId} {post : Value → Heap → Prop} (M : Mem w0 I0 I L w) (c : Calls P f (vs ++ caps).toArray w (Ret w I post)) (hf : P.funcs[f]? = some fn) (hb : (fn.body.isNone || fn.name == "runtime.NumGoroutine") = false) (hg : evo e g = some (.func (.func f) #[] caps.toArray)) (ha : args.map (evo e) = vs.map some) :
    Eff P n ops ⟨dst, .call { callee := .value g, args := args.toArray, argTypes := tys }, ty, pos, af, none⟩ e w fun v w' => ∃ I', hle I I' ∧ post v I' ∧ Mem w0 I0 I' L w' := by
  replace hg := ev_of hg
  simp only [Bool.or_eq_false_iff] at hb
  refine Eff.call (f := f) (args := (vs ++ caps).toArray) ?_ rfl (c.mono ?_)
  · replace ha := evs_of ha
    have h2 : (args.toArray.map (evl e)) = vs.toArray := by rw [← ha]; simp
    simp only [execOp, resolve, hg, Deferred.ofValue, Sem.run_bind, Sem.run_pure, Result.andThen_ok, invoke, callFunc, run_program, hf, hb.1, hb.2, h2]
    simp
  · rintro en w' ⟨v, I', rfl, g, hp1⟩
    exact ⟨v, rfl, I', g.hle M.imm, hp1, M.call g⟩
/-- A call, whatever its contract says. -/
theorem e_callR {f : FuncId} {fn : Func} {args : List Operand} {vs : List Value} {tys : Array TypeId} {Post : Value → World → Prop} (hf : P.funcs[f]? = some fn) (hb : (fn.body.isNone || fn.name == "runtime.NumGoroutine") = false) (ha : args.map (evo e) = vs.map some)
    (c : Calls P f vs.toArray w fun en w' => ∃ v, en = .returned v ∧ Post v w') : Eff P n ops ⟨dst, .call { callee := .value (.func f), args := args.toArray, argTypes := tys }, ty, pos, af, none⟩ e w Post := by
  simp only [Bool.or_eq_false_iff] at hb
  exact Eff.call (run_call hf hb.1 hb.2 ha w) rfl c
/-- A call that gives one of a kind. -/
theorem e_callO {α : Type} {val : α → Value} {N : α → World → Prop} {f : FuncId} {fn : Func} {args : List Operand} {vs : List Value} {tys : Array TypeId} (hf : P.funcs[f]? = some fn) (hb : (fn.body.isNone || fn.name == "runtime.NumGoroutine") = false) (ha : args.map (evo e) = vs.map some)
    (c : Calls P f vs.toArray w fun en w' => ∃ x, en = .returned (val x) ∧ N x w') : Eff P n ops ⟨dst, .call { callee := .value (.func f), args := args.toArray, argTypes := tys }, ty, pos, af, none⟩ e w fun v w' => ∃ x, v = val x ∧ N x w' :=
  e_callR hf hb ha (c.mono fun en w' h => by obtain ⟨x, rfl, h⟩ := h; exact ⟨_, rfl, x, rfl, h⟩)
/-- A function value is called. -/
theorem e_callV {f : FuncId} {fn : Func} {g : Operand} {args : List Operand} {vs caps : List Value} {tys : Array TypeId} {Post : Value → World → Prop} (hf : P.funcs[f]? = some fn) (hb : (fn.body.isNone || fn.name == "runtime.NumGoroutine") = false) (hg : evo e g = some (.func (.func f) #[] caps.toArray)) (ha : args.map (evo e) = vs.map some)
    (c : Calls P f (vs ++ caps).toArray w fun en w' => ∃ v, en = .returned v ∧ Post v w') : Eff P n ops ⟨dst, .call { callee := .value g, args := args.toArray, argTypes := tys }, ty, pos, af, none⟩ e w Post := by
  replace hg := ev_of hg
  simp only [Bool.or_eq_false_iff] at hb
  refine Eff.call (f := f) (args := (vs ++ caps).toArray) ?_ rfl c
  replace ha := evs_of ha
  have h2 : (args.toArray.map (evl e)) = vs.toArray := by rw [← ha]; simp
  simp only [execOp, resolve, hg, Deferred.ofValue, Sem.run_bind, Sem.run_pure, Result.andThen_ok, invoke, callFunc, run_program, hf, hb.1, hb.2, h2]
  simp
theorem q_makeFunc {S : World → Prop} {f : FuncId} {caps : List Operand} {vs : List Value} (hc : caps.map (evo e) = vs.map some) : Quiet P n ops S ⟨dst, .makeFunc (.func f) #[] caps.toArray, ty, pos, af, none⟩ e (.func (.func f) #[] vs.toArray) := by
  refine q_of rfl fun w _ => ?_
  replace hc := evs_of hc
  simp [execOp, Instr.makeFunc, ← hc]
end
end Go.Proofs.YtmjieefhjmiagaaDoor.G
