/- Walk library, part 7 (maps in a walk): resources and operations. Plain theorems over any program. -/
import Derived.Test.YtmjieefhjmiagaaDoorGMap
set_option linter.all false
namespace Go.Proofs.YtmjieefhjmiagaaDoor.G
open Go Go.RowKit
open Go.ChangeMaps (setBlock)

section
variable {P : Program} {κ β α : Type} [DecidableEq κ] (Q : KT P κ) (V : β → Value)
def mobj (l : List (κ × β)) : Obj := mapObj Q (l.map fun p => (p.1, V p.2))
/-- A map of one's own. -/
def mpr (b : Nat) (l : List (κ × β)) : Res where
  blks := [b]
  holds h := h b = some (mobj Q V l)
  loc h h' e k := by rw [← e b (by simp)]; exact k
/-- A map that is read. -/
def rdMp (h : Heap) (v : Value) (l : List (κ × β)) : Prop := ∃ b, v = .map (some b) ∧ h b = some (mobj Q V l)
variable {Q V} in
theorem rdMp.mono {h h' : Heap} {v : Value} {l : List (κ × β)} (k : hle h h') (r : rdMp Q V h v l) : rdMp Q V h' v l := by
  obtain ⟨b, e, h1⟩ := r
  exact ⟨b, e, k _ _ h1⟩
variable {Q V} in
theorem rdMp.at_ {h : Heap} {b : Nat} {l : List (κ × β)} (r : rdMp Q V h (.map (some b)) l) : h b = some (mobj Q V l) := by
  obtain ⟨b', e, h1⟩ := r
  cases e
  exact h1
/-- A round over a map's entries: these have come. -/
def itr (r b : Nat) (l done : List (κ × β)) : Res where
  blks := [r]
  holds h := ∃ idx : List Nat, h r = some (.mapIter (some b) l.length idx.toArray l.length) ∧ idx.Nodup ∧ idx.map (fun i => l[i]?) = done.map some
  loc h h' e k := by
    obtain ⟨idx, h1, h2⟩ := k
    exact ⟨idx, by rw [← e r (by simp)]; exact h1, h2⟩
end

section
variable {P : Program} {n : Nat} {ops : Array Oper} {e : Env} {dst : Option Tmp} {ty : TypeId} {pos : String} {af : Array Edge} {w0 w : World} {I0 I : Heap} {L : List Res} {κ β α : Type} [DecidableEq κ] {Q : KT P κ} {V : β → Value} {S : World → Prop}

theorem chg_setBlock (w : World) (b : Nat) (o : Obj) : Chg w (setBlock w b o) [b] :=
  ⟨rfl, rfl, rfl, by simp [setBlock], fun k _ h => by
    have : ¬ b = k := fun e => h (by simp [e])
    simp [setBlock, Array.getElem?_setIfInBounds, this], Nat.le_refl _⟩
theorem setBlock_heap {w : World} {b : Nat} {o o' : Obj} (h : hp w b = some o') : hp (setBlock w b o) b = some o := by
  have := hp_lt h
  simp [hp, setBlock, this]
theorem Mem.mpAt (M : Mem w0 I0 I L w) (i : Nat) {b : Nat} {l : List (κ × β)} (hi : L[i]? = some (mpr Q V b l)) : hp w b = some (mobj Q V l) := M.holds _ (getElem?_mem' hi)
theorem Mem.frzMp (M : Mem w0 I0 I L w) (i : Nat) {b : Nat} {l : List (κ × β)} (hi : L[i]? = some (mpr Q V b l)) : ∃ I', Mem w0 I0 I' (L.eraseIdx i) w ∧ hle I I' ∧ rdMp Q V I' (.map (some b)) l := by
  obtain ⟨h1, h2, h3⟩ := M.freeze i hi
  exact ⟨_, h1, h2, b, rfl, h3⟩
theorem e_mkm {t : TypeId} (Q : KT P κ) (V : β → Value) (M : Mem w0 I0 I L w) :
    Eff P n ops ⟨dst, .makeMap t none, ty, pos, af, none⟩ e w fun v w' => ∃ b, v = .map (some b) ∧ Mem w0 I0 I (mpr Q V b [] :: L) w' := by
  refine Eff.run (v := .map (some w.heap.size)) (w' := w.alloc (.map #[] 0)) ?_ rfl ⟨_, rfl, M.alloc _ _ rfl (fun h eh => eh)⟩
  simp [execOp, Instr.makeMap]
theorem e_mpu (i : Nat) {t el : TypeId} {m x y : Operand} {b : Nat} {l : List (κ × β)} {k : κ} {v : β} (M : Mem w0 I0 I L w) (hi : L[i]? = some (mpr Q V b l)) (ht : P.underlying t = some (.map Q.T el)) (hm : evo e m = some (.map (some b))) (hx : evo e x = some (Q.val k)) (hy : evo e y = some (V v)) :
    Eff P n ops ⟨dst, .mapUpdate t m x y, ty, pos, af, none⟩ e w fun _ w' => Mem w0 I0 I (L.set i (mpr Q V b (aput l k v))) w' := by
  replace hm := ev_of hm
  replace hx := ev_of hx
  replace hy := ev_of hy
  have hb := M.mpAt i hi
  have := run_mapUpdate (Q := Q) ht hb k (V v)
  refine Eff.run0 (w' := setBlock w b (mobj Q V (aput l k v))) ?_ rfl (M.upd i hi _ (chg_setBlock w b _) (by simp [mpr]) (fun c hc => .inl hc) (fun c hc => ?_) (setBlock_heap hb))
  · rw [← aput_map] at this
    simp [execOp, hm, hx, hy, this, mobj]
  · exact Nat.lt_of_lt_of_le (M.own (getElem?_mem' hi) hc).2.1 (chg_setBlock w b _).size
theorem e_mpi (i : Nat) {t el : TypeId} {m x y : Operand} {b : Nat} {l : List (κ × β)} {k : κ} {v : β} (M : Mem w0 I0 I L w) (hi : L[i]? = some (mpr Q V b l)) (ht : P.underlying t = some (.map Q.T el)) (hm : evo e m = some (.map (some b))) (hx : evo e x = some (Q.val k)) (hy : evo e y = some (V v)) :
    Eff P n ops ⟨dst, .insert t m x y, ty, pos, af, none⟩ e w fun _ w' => Mem w0 I0 I (L.set i (mpr Q V b (aput l k v))) w' := by
  replace hm := ev_of hm
  replace hx := ev_of hx
  replace hy := ev_of hy
  have hb := M.mpAt i hi
  have := run_mapUpdate (Q := Q) ht hb k (V v)
  refine Eff.run0 (w' := setBlock w b (mobj Q V (aput l k v))) ?_ rfl (M.upd i hi _ (chg_setBlock w b _) (by simp [mpr]) (fun c hc => .inl hc) (fun c hc => ?_) (setBlock_heap hb))
  · rw [← aput_map] at this
    simp [execOp, hm, hx, hy, this, mobj]
  · exact Nat.lt_of_lt_of_le (M.own (getElem?_mem' hi) hc).2.1 (chg_setBlock w b _).size
theorem aget_map {γ : Type} (f : β → γ) (l : List (κ × β)) (k : κ) : aget (l.map fun p => (p.1, f p.2)) k = (aget l k).map f := by
  induction l with
  | nil => rfl
  | cons p l ih =>
    obtain ⟨k', v⟩ := p
    simp only [List.map_cons, aget]
    split
    · rfl
    · exact ih
def zeroV (P : Program) (el : TypeId) : Option Value := (P.info? el).bind (·.zero)
/-- A lookup, the map's place known in all worlds of S. -/
theorem q_lkS {t el : TypeId} {m x : Operand} {b : Nat} {l : List (κ × β)} {k : κ} {z : β} (R : ∀ w, S w → hp w b = some (mobj Q V l)) (ht : P.underlying t = some (.map Q.T el)) (hz : zeroV P el = some (V z)) (hm : evo e m = some (.map (some b))) (hx : evo e x = some (Q.val k)) :
    Quiet P n ops S ⟨dst, .lookup t m x false, ty, pos, af, none⟩ e (V ((aget l k).getD z)) := by
  replace hm := ev_of hm
  replace hx := ev_of hx
  refine q_of rfl fun w hw => ?_
  have := run_lookup (Q := Q) ht hz (R w hw) k false
  rw [aget_map] at this
  have e1 : ((aget l k).map V).getD (V z) = V ((aget l k).getD z) := by cases aget l k <;> rfl
  simp only [execOp, hm, hx, Sem.run_bind, this, Bool.false_eq_true, if_false, Result.andThen_ok, Sem.run_pure, e1]
theorem q_lkS2 {t el : TypeId} {m x : Operand} {b : Nat} {l : List (κ × β)} {k : κ} {z : β} (R : ∀ w, S w → hp w b = some (mobj Q V l)) (ht : P.underlying t = some (.map Q.T el)) (hz : zeroV P el = some (V z)) (hm : evo e m = some (.map (some b))) (hx : evo e x = some (Q.val k)) :
    Quiet P n ops S ⟨dst, .lookup t m x true, ty, pos, af, none⟩ e (.tuple #[V ((aget l k).getD z), .bool (aget l k).isSome]) := by
  replace hm := ev_of hm
  replace hx := ev_of hx
  refine q_of rfl fun w hw => ?_
  have := run_lookup (Q := Q) ht hz (R w hw) k true
  rw [aget_map] at this
  have e1 : ((aget l k).map V).getD (V z) = V ((aget l k).getD z) := by cases aget l k <;> rfl
  simp only [execOp, hm, hx, Sem.run_bind, this, if_true, Result.andThen_ok, Sem.run_pure, e1, Option.isSome_map]
/-- A lookup in a map of one's own. -/
theorem q_lk (i : Nat) {t el : TypeId} {m x : Operand} {b : Nat} {l : List (κ × β)} {k : κ} {z : β} (hi : L[i]? = some (mpr Q V b l)) (ht : P.underlying t = some (.map Q.T el)) (hz : zeroV P el = some (V z)) (hm : evo e m = some (.map (some b))) (hx : evo e x = some (Q.val k)) :
    Quiet P n ops (Mem w0 I0 I L) ⟨dst, .lookup t m x false, ty, pos, af, none⟩ e (V ((aget l k).getD z)) := by
  exact q_lkS (fun w M => M.mpAt i hi) ht hz hm hx
theorem q_lk2 (i : Nat) {t el : TypeId} {m x : Operand} {b : Nat} {l : List (κ × β)} {k : κ} {z : β} (hi : L[i]? = some (mpr Q V b l)) (ht : P.underlying t = some (.map Q.T el)) (hz : zeroV P el = some (V z)) (hm : evo e m = some (.map (some b))) (hx : evo e x = some (Q.val k)) :
    Quiet P n ops (Mem w0 I0 I L) ⟨dst, .lookup t m x true, ty, pos, af, none⟩ e (.tuple #[V ((aget l k).getD z), .bool (aget l k).isSome]) := by
  exact q_lkS2 (fun w M => M.mpAt i hi) ht hz hm hx
/-- A lookup in a map that is read. -/
theorem q_lkI {t el : TypeId} {m x : Operand} {v : Value} {l : List (κ × β)} {k : κ} {z : β} (R : rdMp Q V I v l) (ht : P.underlying t = some (.map Q.T el)) (hz : zeroV P el = some (V z)) (hm : evo e m = some v) (hx : evo e x = some (Q.val k)) :
    Quiet P n ops (Mem w0 I0 I L) ⟨dst, .lookup t m x false, ty, pos, af, none⟩ e (V ((aget l k).getD z)) := by
  obtain ⟨b, rfl, h⟩ := R
  exact q_lkS (fun w M => M.imm _ _ h) ht hz hm hx
theorem q_lkI2 {t el : TypeId} {m x : Operand} {v : Value} {l : List (κ × β)} {k : κ} {z : β} (R : rdMp Q V I v l) (ht : P.underlying t = some (.map Q.T el)) (hz : zeroV P el = some (V z)) (hm : evo e m = some v) (hx : evo e x = some (Q.val k)) :
    Quiet P n ops (Mem w0 I0 I L) ⟨dst, .lookup t m x true, ty, pos, af, none⟩ e (.tuple #[V ((aget l k).getD z), .bool (aget l k).isSome]) := by
  obtain ⟨b, rfl, h⟩ := R
  exact q_lkS2 (fun w M => M.imm _ _ h) ht hz hm hx
theorem mobj_len (l : List (κ × β)) : ∃ es c, mobj Q V l = .map es c ∧ es.size = l.length := ⟨_, _, rfl, by simp [ents_len]⟩
theorem q_lenS' {t kt el : TypeId} {m : Operand} {b : Nat} {l : List (κ × β)} (R : ∀ w, S w → hp w b = some (mobj Q V l)) (ht : P.underlying t = some (.map kt el)) (hm : evo e m = some (.map (some b))) :
    Quiet P n ops S ⟨dst, .call { callee := .builtin .len, args := #[m], argTypes := #[t] }, ty, pos, af, none⟩ e (.int .i64 (l.length : Int)) := by
  replace hm := ev_of hm
  refine q_of rfl fun w hw => ?_
  have hb := R w hw
  have hg : (getObj b).run P w = .ok (mobj Q V l) w := run_getObj_map' (Q := Q) hb
  obtain ⟨es, c, h1, h2⟩ := mobj_len (Q := Q) (V := V) l
  rw [h1] at hg
  simp [execOp, resolve, invoke, builtin, Builtin.len_, hm, run_underlying ht, hg, goInt, h2]
theorem q_lenM (i : Nat) {t kt el : TypeId} {m : Operand} {b : Nat} {l : List (κ × β)} (hi : L[i]? = some (mpr Q V b l)) (ht : P.underlying t = some (.map kt el)) (hm : evo e m = some (.map (some b))) :
    Quiet P n ops (Mem w0 I0 I L) ⟨dst, .call { callee := .builtin .len, args := #[m], argTypes := #[t] }, ty, pos, af, none⟩ e (.int .i64 (l.length : Int)) := by
  exact q_lenS' (fun w M => M.mpAt i hi) ht hm
theorem q_lenMI {t kt el : TypeId} {m : Operand} {v : Value} {l : List (κ × β)} (R : rdMp Q V I v l) (ht : P.underlying t = some (.map kt el)) (hm : evo e m = some v) :
    Quiet P n ops (Mem w0 I0 I L) ⟨dst, .call { callee := .builtin .len, args := #[m], argTypes := #[t] }, ty, pos, af, none⟩ e (.int .i64 (l.length : Int)) := by
  obtain ⟨b, rfl, h⟩ := R
  exact q_lenS' (fun w M => M.imm _ _ h) ht hm

/-! rounds over the entries -/
theorem e_rng {t kt el : TypeId} {m : Operand} {b : Nat} {l : List (κ × β)} (M : Mem w0 I0 I L w) (hb : hp w b = some (mobj Q V l)) (ht : P.underlying t = some (.map kt el)) (hm : evo e m = some (.map (some b))) :
    Eff P n ops ⟨dst, .range t m, ty, pos, af, none⟩ e w fun v w' => ∃ r, v = .pointer (some ⟨r, 0, none⟩) ∧ Mem w0 I0 I (itr r b l [] :: L) w' := by
  replace hm := ev_of hm
  have := run_range_map (P := P) w t kt el b _ _ ht hb
  simp only [List.length_map] at this
  refine Eff.run (v := .pointer (some ⟨w.heap.size, 0, none⟩)) (w' := w.alloc (.mapIter (some b) l.length #[] l.length)) ?_ rfl ⟨_, rfl, M.alloc _ _ rfl (fun h eh => ?_)⟩
  · simp only [execOp, hm, Sem.run_bind, this, Result.andThen_ok, Sem.run_pure]
  · exact ⟨[], eh, by simp, rfl⟩
theorem e_rngI {t kt el : TypeId} {m : Operand} {v : Value} {l : List (κ × β)} (M : Mem w0 I0 I L w) (R : rdMp Q V I v l) (ht : P.underlying t = some (.map kt el)) (hm : evo e m = some v) :
    Eff P n ops ⟨dst, .range t m, ty, pos, af, none⟩ e w fun v' w' => ∃ r b, v' = .pointer (some ⟨r, 0, none⟩) ∧ v = .map (some b) ∧ Mem w0 I0 I (itr r b l [] :: L) w' := by
  obtain ⟨b, rfl, h⟩ := R
  have hE := e_rng (n := n) (ops := ops) (dst := dst) (ty := ty) (pos := pos) (af := af) (V := V) M (M.imm _ _ h) ht hm
  intro a ha
  have := hE a ha
  refine ⟨this.1, fun K Qx hk => this.2 K Qx fun v w' hp1 => hk v w' ?_⟩
  obtain ⟨r, rfl, M'⟩ := hp1
  exact ⟨r, b, rfl, rfl, M'⟩
theorem filterMap_map_id {γ : Type} (l : List (Option γ)) (d : List γ) (h : l = d.map some) : l.filterMap id = d := by
  subst h; induction d with
  | nil => rfl
  | cons x d ih => simp
theorem idx_perm {l done : List (κ × β)} {idx : List Nat} (hn : idx.Nodup) (hd : idx.map (fun i => l[i]?) = done.map some) (hall : ∀ i, i < l.length → i ∈ idx) : done.Perm l := by
  have hlt : ∀ i ∈ idx, i < l.length := fun i hi => by
    have : l[i]? ∈ done.map some := hd ▸ List.mem_map.2 ⟨i, hi, rfl⟩
    obtain ⟨p, _, hp⟩ := List.mem_map.1 this
    exact (List.getElem?_eq_some_iff.1 hp.symm).1
  have hp : idx.Perm (List.range l.length) := (List.perm_ext_iff_of_nodup hn List.nodup_range).2 fun i => ⟨fun h => List.mem_range.2 (hlt i h), fun h => hall i (List.mem_range.1 h)⟩
  have h1 := filterMap_map_id _ _ hd
  rw [List.filterMap_map] at h1
  have h2 : (List.range l.length).filterMap (id ∘ fun i => l[i]?) = l := by
    have : (List.range l.length).map (fun i => l[i]?) = l.map some := by
      apply List.ext_getElem?
      intro j
      by_cases hj : j < l.length
      · simp [hj]
      · simp [hj]
    have := filterMap_map_id _ _ this
    rwa [List.filterMap_map] at this
  rw [← h1]
  exact (hp.filterMap _).trans (by rw [h2])
theorem idx_len {l done : List (κ × β)} {idx : List Nat} (hn : idx.Nodup) (hd : idx.map (fun i => l[i]?) = done.map some) {j : Nat} (hj : j < l.length) (hji : j ∉ idx) : done.length < l.length := by
  have hlt : ∀ i ∈ idx, i < l.length := fun i hi => by
    have : l[i]? ∈ done.map some := hd ▸ List.mem_map.2 ⟨i, hi, rfl⟩
    obtain ⟨p, _, hp⟩ := List.mem_map.1 this
    exact (List.getElem?_eq_some_iff.1 hp.symm).1
  have e1 : done.length = idx.length := by have := congrArg List.length hd; simpa using this.symm
  have h2 : (j :: idx).Nodup := List.nodup_cons.2 ⟨hji, hn⟩
  have h3 : (j :: idx) ⊆ (List.range l.length) := fun i hi => List.mem_range.2 (by rcases List.mem_cons.1 hi with rfl | h; exact hj; exact hlt i h)
  have := h2.length_le_of_subset h3
  simp at this
  omega
theorem mem_ents {l : List (κ × Value)} {x : MapEntry} : ∀ {n : Nat}, x ∈ ents Q n l → ∃ j p, l[j]? = some p ∧ x = ⟨Q.val p.1, p.2, n + j⟩ := by
  intro n hx
  obtain ⟨j, hj⟩ := List.getElem?_of_mem hx
  rw [ents_get] at hj
  obtain ⟨p, hp1, rfl⟩ := Option.map_eq_some_iff.1 hj
  exact ⟨j, p, hp1, rfl⟩
theorem ents_born (l : List (κ × Value)) : ∀ n, ((ents Q n l).map (·.born)).Nodup := by
  induction l with
  | nil => intro n; simp [ents]
  | cons p l ih =>
    intro n
    obtain ⟨k, v⟩ := p
    simp only [ents, List.map_cons, List.nodup_cons]
    refine ⟨fun h => ?_, ih (n + 1)⟩
    obtain ⟨x, hx, hb⟩ := List.mem_map.1 h
    obtain ⟨j, p, _, rfl⟩ := mem_ents hx
    simp at hb
    omega
/-- The next entry, or none. -/
theorem e_nx (i : Nat) {it : Operand} {r b : Nat} {l done : List (κ × β)} (M : Mem w0 I0 I L w) (hb : hp w b = some (mobj Q V l)) (hi : L[i]? = some (itr r b l done)) (hit : evo e it = some (.pointer (some ⟨r, 0, none⟩))) :
    Eff P n ops ⟨dst, .next it false, ty, pos, af, none⟩ e w fun v w' => (v = .tuple #[.bool false] ∧ done.Perm l ∧ Mem w0 I0 I L w') ∨ ∃ p, p ∈ l ∧ done.length < l.length ∧ v = .tuple #[.bool true, Q.val p.1, V p.2] ∧ Mem w0 I0 I (L.set i (itr r b l (done ++ [p]))) w' := by
  replace hit := ev_of hit
  obtain ⟨idx, h1, h2, h3⟩ : ∃ idx : List Nat, hp w r = some (.mapIter (some b) l.length idx.toArray l.length) ∧ idx.Nodup ∧ idx.map (fun i => l[i]?) = done.map some := M.holds _ (getElem?_mem' hi)
  have hle : ∀ x ∈ (ents Q 0 (l.map fun p => (p.1, V p.2))).toArray.toList, x.born < l.length := fun x hx => by
    obtain ⟨j, p, hj, rfl⟩ := mem_ents (by simpa using hx)
    have := (List.getElem?_eq_some_iff.1 hj).1
    simpa using this
  rcases run_next_at (P := P) w ty r b l.length l.length idx.toArray _ _ h1 (show w.heap[b]? = some (.map (ents Q 0 (l.map fun p => (p.1, V p.2))).toArray (l.map fun p => (p.1, V p.2)).length) from hb) hle (Nat.le_refl _) with ⟨hz, hrun⟩ | ⟨x, hx, w1, hw1, hrun⟩
  · refine Eff.run (v := .tuple #[.bool false]) (w' := w) ?_ rfl (.inl ⟨rfl, idx_perm h2 h3 fun j hj => ?_, M⟩)
    · simp [execOp, hit, hrun]
    · have hmem : (⟨Q.val l[j].1, V l[j].2, 0 + j⟩ : MapEntry) ∈ (ents Q 0 (l.map fun p => (p.1, V p.2))).toArray.toList := by
        have := ents_get (Q := Q) 0 (l.map fun p => (p.1, V p.2)) j
        simp only [List.getElem?_map, List.getElem?_eq_getElem hj, Option.map_some] at this
        simpa using List.mem_of_getElem? this
      have := all_seen _ _ hz _ hmem
      simpa using this
  · obtain ⟨hm, hs⟩ := mem_left hx
    obtain ⟨j, p, hj, rfl⟩ := mem_ents (by simpa using hm)
    simp only [List.getElem?_map] at hj
    obtain ⟨q, hq, rfl⟩ := Option.map_eq_some_iff.1 hj
    have hji : j ∉ idx := by simpa using hs
    have hjl := (List.getElem?_eq_some_iff.1 hq).1
    have M1 : Mem w0 I0 I L w1 := by rcases hw1 with rfl | rfl; exact M; exact M.drew
    have hr1 : hp w1 r = some (.mapIter (some b) l.length idx.toArray l.length) := by rcases hw1 with rfl | rfl <;> exact h1
    refine Eff.run (v := .tuple #[.bool true, Q.val q.1, V q.2]) (w' := setBlock w1 r (.mapIter (some b) l.length (idx ++ [j]).toArray l.length)) ?_ rfl (.inr ⟨q, List.mem_of_getElem? hq, idx_len h2 h3 hjl hji, rfl, M1.upd i hi _ (chg_setBlock w1 r _) (by simp [itr]) (fun c hc => .inl hc) (fun c hc => ?_) ⟨idx ++ [j], ?_, ?_, ?_⟩⟩)
    · simp only [List.length_map, Nat.zero_add, List.push_toArray] at hrun
      simp only [execOp, hit, Sem.run_bind, hrun, Result.andThen_ok, Sem.run_pure]
    · exact Nat.lt_of_lt_of_le (M1.own (getElem?_mem' hi) hc).2.1 (chg_setBlock w1 r _).size
    · exact setBlock_heap hr1
    · exact List.nodup_append.2 ⟨h2, by simp, fun a ha c hc e => hji (by rw [List.mem_singleton.1 hc] at e; exact e ▸ ha)⟩
    · simp [h3, hq]
/-- The entry that the round stands at. -/
theorem q_ent (i : Nat) {it : Operand} {r b : Nat} {l done : List (κ × β)} {p : κ × β} (hb : ∀ w, Mem w0 I0 I L w → hp w b = some (mobj Q V l)) (hi : L[i]? = some (itr r b l (done ++ [p]))) (hit : evo e it = some (.pointer (some ⟨r, 0, none⟩))) :
    Quiet P n ops (Mem w0 I0 I L) ⟨dst, .entry it, ty, pos, af, none⟩ e (.tuple #[Q.val p.1, V p.2]) := by
  replace hit := ev_of hit
  refine q_of rfl fun w M => ?_
  obtain ⟨idx, h1, h2, h3⟩ : ∃ idx : List Nat, hp w r = some (.mapIter (some b) l.length idx.toArray l.length) ∧ idx.Nodup ∧ idx.map (fun i => l[i]?) = (done ++ [p]).map some := M.holds _ (getElem?_mem' hi)
  have hne : idx ≠ [] := fun h => by rw [h] at h3; simp at h3
  obtain ⟨idx', j, rfl⟩ : ∃ a j, idx = a ++ [j] := ⟨_, _, (List.dropLast_concat_getLast hne).symm⟩
  simp only [List.map_append, List.map_cons, List.map_nil] at h3
  have h4 := (List.append_inj' h3 rfl).2
  simp only [List.cons.injEq, and_true] at h4
  have hg := ents_get (Q := Q) 0 (l.map fun p => (p.1, V p.2)) j
  simp only [List.getElem?_map, h4, Option.map_some] at hg
  have := run_entry_at (P := P) w r b l.length idx'.toArray _ _ ⟨Q.val p.1, V p.2, 0 + j⟩ (by rw [show w.heap[r]? = _ from h1]; simp) (show w.heap[b]? = some (.map (ents Q 0 (l.map fun p => (p.1, V p.2))).toArray (l.map fun p => (p.1, V p.2)).length) from hb w M) (by simpa using List.mem_of_getElem? hg) (by simpa using ents_born (Q := Q) (l.map fun p => (p.1, V p.2)) 0)
  simp [execOp, hit, this]
end
end Go.Proofs.YtmjieefhjmiagaaDoor.G
