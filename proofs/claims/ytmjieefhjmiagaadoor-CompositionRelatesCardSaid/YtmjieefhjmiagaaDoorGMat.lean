/- Walk library, part 5 (slices of slices of one's own). Plain theorems over any program. -/
import Derived.Test.YtmjieefhjmiagaaDoorGOpsB
set_option linter.all false
namespace Go.Proofs.YtmjieefhjmiagaaDoor.G
open Go Go.RowKit

section
variable {P : Program} {α : Type} {E : ET P α} {V : ET P SV}
/-- Rows of rows: the outer row holds os, the inner rows are those of vs. -/
def inner (E : ET P α) (vs : List SV) (xss : List (List α)) (h : Heap) : Prop := vs.length = xss.length ∧ ∀ (j : Nat) (u : SV) (xs : List α), vs[j]? = some u → xss[j]? = some xs → rowHolds E (sv u) xs h
def oblks (vs : List SV) : List Nat := vs.flatMap fun u => (sv u).ownBlock.toList
theorem mem_oblks {vs : List SV} {j : Nat} {u : SV} (h : vs[j]? = some u) {b : Nat} (hb : b ∈ (sv u).ownBlock.toList) : b ∈ oblks vs := List.mem_flatMap.2 ⟨u, List.mem_of_getElem? h, hb⟩
theorem inner.loc {vs : List SV} {xss : List (List α)} {h h' : Heap} (e : ∀ b ∈ oblks vs, h b = h' b) (i : inner E vs xss h) : inner E vs xss h' :=
  ⟨i.1, fun j u xs hu hx => (row E (sv u) xs).loc h h' (fun b hb => e b (mem_oblks hu hb)) (i.2 j u xs hu hx)⟩
def mat (E : ET P α) (V : ET P SV) (v : Value) (os vs : List SV) (xss : List (List α)) : Res where
  blks := v.ownBlock.toList ++ oblks vs
  holds h := rowHolds V v os h ∧ inner E vs xss h
  loc h h' e k := ⟨(row V v os).loc h h' (fun b hb => e b (List.mem_append.2 (.inl hb))) k.1, k.2.loc fun b hb => e b (List.mem_append.2 (.inr hb))⟩
/-- What reads so. -/
def rdMat (E : ET P α) (V : ET P SV) (h : Heap) (v : Value) (xss : List (List α)) : Prop := ∃ vs : List SV, rdSl V h v vs ∧ vs.length = xss.length ∧ ∀ (j : Nat) (u : SV) (xs : List α), vs[j]? = some u → xss[j]? = some xs → rdSl E h (sv u) xs
theorem rdMat.mono {h h' : Heap} {v : Value} {xss : List (List α)} (k : hle h h') (r : rdMat E V h v xss) : rdMat E V h' v xss := by
  obtain ⟨vs, h1, h2, h3⟩ := r
  exact ⟨vs, h1.mono k, h2, fun j u xs hu hx => (h3 j u xs hu hx).mono k⟩
theorem rdMat.at_ {h : Heap} {v : Value} {xss : List (List α)} (r : rdMat E V h v xss) {j : Nat} {xs : List α} (hj : xss[j]? = some xs) : ∃ vs : List SV, ∃ u : SV, rdSl V h v vs ∧ vs[j]? = some u ∧ rdSl E h (sv u) xs := by
  obtain ⟨vs, h1, h2, h3⟩ := r
  have hlt : j < vs.length := by rw [h2]; exact (List.getElem?_eq_some_iff.1 hj).1
  exact ⟨vs, vs[j], h1, List.getElem?_eq_getElem hlt, h3 j _ xs (List.getElem?_eq_getElem hlt) hj⟩
theorem rdMat_slice {h : Heap} {v : Value} {xss : List (List α)} (r : rdMat E V h v xss) : ∃ u : SV, v = sv u := by
  obtain ⟨vs, h1, _⟩ := r
  exact rdSl_slice h1
end

section
variable {P : Program} {n : Nat} {ops : Array Oper} {e : Env} {dst : Option Tmp} {ty : TypeId} {pos : String} {af : Array Edge} {w0 w : World} {I0 I : Heap} {L : List Res} {α : Type} {E : ET P α} {V : ET P SV}

theorem Mem.resNodup (M : Mem w0 I0 I L w) {r : Res} (hr : r ∈ L) : r.blks.Nodup := by
  have h := M.nodup
  clear M
  induction L with
  | nil => cases hr
  | cons x L ih =>
    rw [List.flatMap_cons, List.nodup_append] at h
    rcases List.mem_cons.1 hr with rfl | hr
    · exact h.1
    · exact ih hr h.2.1
theorem oblks_nil (m : Nat) : oblks (List.replicate m nilV) = [] := by
  induction m with
  | zero => rfl
  | succ m ih => rw [List.replicate_succ]; simpa [oblks, sv, nilV, Value.ownBlock] using ih
/-- make([][]T, m). -/
theorem Mem.toMat (M : Mem w0 I0 I L w) (i : Nat) (E : ET P α) {v : Value} {m : Nat} (hi : L[i]? = some (row V v (List.replicate m nilV))) : Mem w0 I0 I (L.set i (mat E V v (List.replicate m nilV) (List.replicate m nilV) (List.replicate m []))) w := by
  have hr : rowHolds V v (List.replicate m nilV) (hp w) := M.holds _ (getElem?_mem' hi)
  refine M.reval i hi _ (fun b hb => ?_) ?_ ⟨hr, by simp, fun j u xs hu hx => ?_⟩
  · simp only [mat, oblks_nil, List.append_nil] at hb; exact hb
  · simp only [mat, oblks_nil, List.append_nil]; exact own_nodup v
  · have h1 : u = nilV := by rw [List.getElem?_replicate] at hu; split at hu <;> simp_all
    have h2 : xs = [] := by rw [List.getElem?_replicate] at hx; split at hx <;> simp_all
    subst h1 h2
    exact rowHolds_nil _
theorem Mem.matOut (M : Mem w0 I0 I L w) {i : Nat} {v : Value} {os vs : List SV} {xss : List (List α)} (hi : L[i]? = some (mat E V v os vs xss)) : rdSl V (hp w) v os := ((M.holds _ (getElem?_mem' hi) : rowHolds V v os (hp w) ∧ _).1).rd
/-- The place of an element of the outer row, for a load. -/
theorem q_ixm (i : Nat) {t : TypeId} {x ix : Operand} {v : Value} {k : IntKind} {os vs : List SV} {xss : List (List α)} {j : Nat} {u : SV} (M : Mem w0 I0 I L w) (hL : L[i]? = some (mat E V v os vs xss)) (ht : P.underlying t = some (.slice V.T)) (hx : evo e x = some (v)) (hi : evo e ix = some (.int k (j : Int))) (hj : os[j]? = some u) :
    ∃ b o, sptr (Mem w0 I0 I L) b o (V.cells u) ∧ Quiet P n ops (Mem w0 I0 I L) ⟨dst, .indexAddr t x ix, ty, pos, af, none⟩ e (.pointer (some ⟨b, o, none⟩)) := by
  exact q_ixS ht hx hi hj w M fun w' M' => M'.matOut hL
/-- The place of an element of the outer row, for a store. -/
theorem q_ixmw {S : World → Prop} (i : Nat) {t : TypeId} {x ix : Operand} {v : Value} {k : IntKind} {os vs : List SV} {xss : List (List α)} {j : Nat} (M : Mem w0 I0 I L w) (hL : L[i]? = some (mat E V v os vs xss)) (ht : P.underlying t = some (.slice V.T)) (hx : evo e x = some (v)) (hi : evo e ix = some (.int k (j : Int))) (hj : j < os.length) :
    ∃ b o, eptr V v j b o ∧ Quiet P n ops S ⟨dst, .indexAddr t x ix, ty, pos, af, none⟩ e (.pointer (some ⟨b, o, none⟩)) := by
  replace hx := ev_of hx
  replace hi := ev_of hi
  rcases (M.holds _ (getElem?_mem' hL) : rowHolds V v os (hp w) ∧ _).1 with ⟨_, rfl⟩ | ⟨b, o, c, cur, rfl, _⟩
  · simp at hj
  · exact ⟨b, _, ⟨o, _, c, rfl, rfl⟩, q_of rfl fun w _ => run_ix (s0 := .slice (some ⟨b, o, none⟩) os.length c) ht hx hi hj⟩
theorem wl_ixm {K : Env → World → Prop} {rest : List Oper} {l : List (Nat × Value)} {b : Env} {d : Nat} (i : Nat) {t : TypeId} {x ix : Operand} {v : Value} {k : IntKind} {os vs : List SV} {xss : List (List α)} {j : Nat} {u : SV} (M : Mem w0 I0 I L w) (hL : L[i]? = some (mat E V v os vs xss)) (ht : P.underlying t = some (.slice V.T)) (hx : evo (look l b) x = some v) (hi : evo (look l b) ix = some (.int k (j : Int))) (hj : os[j]? = some u) (hn : Nat.blt d n = true)
    (h : ∀ b' o', sptr (Mem w0 I0 I L) b' o' (V.cells u) → WL P n ops K rest (look ((d, .pointer (some ⟨b', o', none⟩)) :: l) b) w) : WL P n ops K (⟨some d, .indexAddr t x ix, ty, pos, af, none⟩ :: rest) (look l b) w := by
  obtain ⟨b', o', p, q⟩ := q_ixm (P := P) (n := n) (ops := ops) (dst := some d) (ty := ty) (pos := pos) (af := af) i M hL ht hx hi hj
  exact wl_q q M rfl hn (h b' o' p)
/-- The place of an element of the outer row, in whatever order, S knowing the outer row. -/
theorem wa_ixm {F : List Nat} (i : Nat) {S : World → Prop} {K : Env → World → Prop} {l : List (Nat × Value)} {b : Env} {d fuel : Nat} {listed : Array Bool} {t : TypeId} {x ix : Operand} {v : Value} {k : IntKind} {os : List SV} {j : Nat} {u : SV} (hS : S w) (R : ∀ w, S w → rdSl V (hp w) v os) (hi0 : ops[i]? = some ⟨some d, .indexAddr t x ix, ty, pos, af, none⟩) (hs : may ops F listed i = true) (ht : P.underlying t = some (.slice V.T)) (hx : evo (look l b) x = some v) (hi : evo (look l b) ix = some (.int k (j : Int))) (hj : os[j]? = some u) (hn : Nat.blt d n = true)
    (h : ∀ b' o', sptr S b' o' (V.cells u) → WA P n ops S F K fuel (listed.setIfInBounds i true) (look ((d, .pointer (some ⟨b', o', none⟩)) :: l) b) w) : WA P n ops S F K (fuel + 1) listed (look l b) w := by
  obtain ⟨b', o', p, q⟩ := q_ixS (P := P) (n := n) (ops := ops) (S := S) (dst := some d) (ty := ty) (pos := pos) (af := af) ht hx hi hj w hS R
  exact wa_q i hi0 hs q hS rfl hn (h b' o' p)
theorem wa_ixmw {F : List Nat} (i r : Nat) {S : World → Prop} {K : Env → World → Prop} {l : List (Nat × Value)} {b : Env} {d fuel : Nat} {listed : Array Bool} {t : TypeId} {x ix : Operand} {v : Value} {k : IntKind} {os vs : List SV} {xss : List (List α)} {j : Nat} (M : Mem w0 I0 I L w) (hS : S w) (hL : L[r]? = some (mat E V v os vs xss)) (hi0 : ops[i]? = some ⟨some d, .indexAddr t x ix, ty, pos, af, none⟩) (hs : may ops F listed i = true) (ht : P.underlying t = some (.slice V.T)) (hx : evo (look l b) x = some v) (hi : evo (look l b) ix = some (.int k (j : Int))) (hj : j < os.length) (hn : Nat.blt d n = true)
    (h : ∀ b' o', eptr V v j b' o' → WA P n ops S F K fuel (listed.setIfInBounds i true) (look ((d, .pointer (some ⟨b', o', none⟩)) :: l) b) w) : WA P n ops S F K (fuel + 1) listed (look l b) w := by
  obtain ⟨b', o', p, q⟩ := q_ixmw (P := P) (n := n) (ops := ops) (S := S) (dst := some d) (ty := ty) (pos := pos) (af := af) r M hL ht hx hi hj
  exact wa_q i hi0 hs q hS rfl hn (h b' o' p)
theorem flat_set_nodup : ∀ {vs : List SV} {j : Nat} {u u' : SV} {m : Nat}, (oblks vs).Nodup → (∀ b ∈ oblks vs, b < m) → vs[j]? = some u → (∀ b ∈ (sv u').ownBlock.toList, b ∈ (sv u).ownBlock.toList ∨ m ≤ b) → (oblks (vs.set j u')).Nodup := by
  intro vs
  induction vs with
  | nil => intro j u u' m _ _ h; simp at h
  | cons x vs ih =>
    intro j u u' m hn hm hj h2
    simp only [oblks, List.flatMap_cons, List.nodup_append] at hn
    obtain ⟨n1, n2, n3⟩ := hn
    have hm2 : ∀ b ∈ oblks vs, b < m := fun b hb => hm b (by simp only [oblks, List.flatMap_cons, List.mem_append]; exact .inr hb)
    cases j with
    | zero =>
      simp at hj
      subst hj
      simp only [List.set_cons_zero, oblks, List.flatMap_cons, List.nodup_append]
      refine ⟨own_nodup _, n2, fun a ha b hb => ?_⟩
      rcases h2 a ha with h | h
      · exact n3 a h b hb
      · have := hm2 b hb; omega
    | succ j =>
      simp at hj
      simp only [List.set_cons_succ, oblks, List.flatMap_cons, List.nodup_append]
      refine ⟨n1, ih n2 hm2 hj h2, fun a ha b hb => ?_⟩
      obtain ⟨y, hy, hby⟩ := List.mem_flatMap.1 hb
      obtain ⟨k, hk⟩ := List.getElem?_of_mem hy
      rw [List.getElem?_set] at hk
      split at hk
      · split at hk
        · cases hk
          rcases h2 b hby with h | h
          · exact n3 a ha b (mem_oblks hj h)
          · have := hm a (by simp only [oblks, List.flatMap_cons, List.mem_append]; exact .inl ha); omega
        · cases hk
      · exact n3 a ha b (mem_oblks hk hby)
theorem oblks_set_sub {vs : List SV} {j : Nat} {u' : SV} {b : Nat} (hb : b ∈ oblks (vs.set j u')) : b ∈ (sv u').ownBlock.toList ∨ ∃ k, k ≠ j ∧ ∃ y, vs[k]? = some y ∧ b ∈ (sv y).ownBlock.toList := by
  obtain ⟨y, hy, hby⟩ := List.mem_flatMap.1 hb
  obtain ⟨k, hk⟩ := List.getElem?_of_mem hy
  rw [List.getElem?_set] at hk
  split at hk
  · split at hk
    · cases hk; exact .inl hby
    · cases hk
  · rename_i hne; exact .inr ⟨k, fun e => hne e.symm, y, hk, hby⟩
theorem oblks_apart : ∀ {vs : List SV} (hn : (oblks vs).Nodup) {j k : Nat} {u y : SV}, vs[j]? = some u → vs[k]? = some y → k ≠ j → ∀ b, b ∈ (sv y).ownBlock.toList → b ∉ (sv u).ownBlock.toList := by
  intro vs
  induction vs with
  | nil => intro _ j k u y h; simp at h
  | cons x vs ih =>
    intro hn j k u y hj hk hne b hb hb'
    simp only [oblks, List.flatMap_cons, List.nodup_append] at hn
    obtain ⟨n1, n2, n3⟩ := hn
    cases j with
    | zero =>
      simp at hj; subst hj
      cases k with
      | zero => exact hne rfl
      | succ k => simp at hk; exact n3 b hb' b (mem_oblks hk hb) rfl
    | succ j =>
      simp at hj
      cases k with
      | zero => simp at hk; subst hk; exact n3 b hb b (mem_oblks hj hb') rfl
      | succ k => simp at hk; exact ih n2 hj hk (by omega) b hb hb'
/-- append onto an inner row. -/
theorem e_appm (i j : Nat) {t : TypeId} {x y : Operand} {v av : Value} {os vs : List SV} {xss : List (List α)} {u : SV} {xs ys : List α} (M : Mem w0 I0 I L w) (hi : L[i]? = some (mat E V v os vs xss)) (ht : P.underlying t = some (.slice E.T)) (hu : vs[j]? = some u) (hxs : xss[j]? = some xs) (hx : evo e x = some (sv u)) (hy : evo e y = some (av)) (ha : rdSl E I av ys) (hb : (xs.length + ys.length) * E.by' ≤ 140737488355328) :
    Eff P n ops ⟨dst, .call { callee := .builtin .append, args := #[x, y], argTypes := #[t, t] }, ty, pos, af, none⟩ e w fun v1 w' => ∃ u', v1 = sv u' ∧ Mem w0 I0 I (L.set i (mat E V v os (vs.set j u') (xss.set j (xs ++ ys)))) w' := by
  replace hx := ev_of hx
  replace hy := ev_of hy
  have hri := getElem?_mem' hi
  obtain ⟨h0, hin⟩ : rowHolds V v os (hp w) ∧ inner E vs xss (hp w) := M.holds _ hri
  obtain ⟨v', w', hrun, h1, h2, h3⟩ := run_append (s0 := sv u) (ty := ty) M.imm ht (hin.2 j u xs hu hxs) ha hb
  obtain ⟨u', rfl⟩ := rowHolds_slice h1
  have hnd : (v.ownBlock.toList ++ oblks vs).Nodup := by
    exact M.resNodup hri
  obtain ⟨n1, n2, n3⟩ := List.nodup_append.1 hnd
  have hlt : ∀ b ∈ v.ownBlock.toList ++ oblks vs, b < w.heap.size := fun b hb => (M.own hri hb).2.1
  have hjl : j < vs.length := (List.getElem?_eq_some_iff.1 hu).1
  refine Eff.run (v := sv u') (w' := w') ?_ rfl ⟨u', rfl, M.upd i hi _ ?_ ?_ ?_ ?_ ?_⟩
  · simp only [execOp, resolve, invoke, builtin, Sem.run_bind, Sem.run_pure, Result.andThen_ok, List.map_toArray, List.map_cons, List.map_nil, hx, hy, hrun]
  · exact ⟨h2.os, h2.tape, h2.output, h2.size, fun k hk hkn => h2.block k hk fun hku => hkn (List.mem_append.2 (.inr (mem_oblks hu hku))), h2.dr⟩
  · show (v.ownBlock.toList ++ oblks (vs.set j u')).Nodup
    refine List.nodup_append.2 ⟨n1, flat_set_nodup n2 (fun b hb => hlt b (List.mem_append.2 (.inr hb))) hu (fun b hb => (h3 b hb).1), fun a ha b hb hab => ?_⟩
    subst hab
    rcases oblks_set_sub hb with h | ⟨k, _, y, hk, hy⟩
    · rcases (h3 a h).1 with h' | h'
      · exact n3 a ha a (mem_oblks hu h') rfl
      · have := hlt a (List.mem_append.2 (.inl ha)); omega
    · exact n3 a ha a (mem_oblks hk hy) rfl
  · intro b hb
    rcases List.mem_append.1 hb with hb | hb
    · exact .inl (List.mem_append.2 (.inl hb))
    · rcases oblks_set_sub hb with h | ⟨k, _, y, hk, hy⟩
      · rcases (h3 b h).1 with h' | h'
        · exact .inl (List.mem_append.2 (.inr (mem_oblks hu h')))
        · exact .inr h'
      · exact .inl (List.mem_append.2 (.inr (mem_oblks hk hy)))
  · intro b hb
    rcases List.mem_append.1 hb with hb | hb
    · exact Nat.lt_of_lt_of_le (hlt b (List.mem_append.2 (.inl hb))) h2.size
    · rcases oblks_set_sub hb with h | ⟨k, _, y, hk, hy⟩
      · exact (h3 b h).2
      · exact Nat.lt_of_lt_of_le (hlt b (List.mem_append.2 (.inr (mem_oblks hk hy)))) h2.size
  · have hkeep : ∀ b, b < w.heap.size → b ∉ (sv u).ownBlock.toList → hp w b = hp w' b := fun b hb hn => (h2.block b hb hn).symm
    refine ⟨(row V v os).loc _ _ (fun b hb => hkeep b (hlt b (List.mem_append.2 (.inl hb))) fun h => n3 b hb b (mem_oblks hu h) rfl) h0, by simp [hin.1], fun k y zs hk hz => ?_⟩
    rw [List.getElem?_set] at hk hz
    by_cases hkj : j = k
    · subst hkj
      have hjx : j < xss.length := by rw [← hin.1]; exact hjl
      simp only [if_true, hjl, hjx] at hk hz
      cases hk; cases hz
      exact h1
    · rw [if_neg hkj] at hk hz
      exact (row E (sv y) zs).loc _ _ (fun b hb => hkeep b (hlt b (List.mem_append.2 (.inr (mem_oblks hk hb)))) (oblks_apart n2 hu hk (fun e => hkj e.symm) b hb)) (hin.2 k y zs hk hz)
/-- A store into the outer row. -/
theorem e_stm (i : Nat) {x y : Operand} {v : Value} {os vs : List SV} {xss : List (List α)} {j b o : Nat} {u : SV} {T : TypeId} (M : Mem w0 I0 I L w) (hL : L[i]? = some (mat E V v os vs xss)) (hT : V.T = T) (hx : evo e x = some (.pointer (some ⟨b, o, none⟩))) (hp1 : eptr V v j b o) (hj : j < os.length) (hy : evo e y = some (V.val u)) :
    Eff P n ops ⟨dst, .store T x y, ty, pos, af, none⟩ e w fun v1 w' => Mem w0 I0 I (L.set i (mat E V v (os.set j u) vs xss)) w' := by
  subst hT
  have hri := getElem?_mem' hL
  obtain ⟨h0, hin⟩ : rowHolds V v os (hp w) ∧ inner E vs xss (hp w) := M.holds _ hri
  have hnd : (v.ownBlock.toList ++ oblks vs).Nodup := by
    exact M.resNodup hri
  -- the outer row alone, as a world of its own
  have M1 : Mem w0 I0 I [row V v os] w := ⟨M.below, M.old, M.imm, by simpa [row] using own_nodup v, fun c hc => M.own hri (List.mem_append.2 (.inl (by simpa [row] using hc))), fun r hr => by rw [List.mem_singleton.1 hr]; exact h0, M.dr⟩
  intro a ha
  have hE := (e_str (ops := ops) (n := n) (dst := dst) (ty := ty) (pos := pos) (af := af) 0 M1 rfl rfl hx hp1 hj hy) a ha
  refine ⟨hE.1, fun K Q hk => ?_⟩
  replace hx := ev_of hx
  replace hy := ev_of hy
  obtain ⟨inf, z, hi, hsz, _⟩ := V.info
  obtain ⟨o', m, c', rfl, rfl⟩ := hp1
  -- the run itself
  obtain ⟨w', hrun, hM', hch⟩ : ∃ w', (execOp (evl e) (⟨dst, .store V.T x y, ty, pos, af, none⟩ : Oper)).run P w = .ok .skip w' ∧ rowHolds V (.slice (some ⟨b, o', none⟩) m c') (os.set j u) (hp w') ∧ Chg w w' [b] := by
    rcases h0 with ⟨hv, _⟩ | ⟨b', o2, c, cur, hv, hb, h1, h2, h3, h4⟩
    · cases hv
    · cases hv
      have hsp := V.all_split os (List.getElem?_eq_getElem hj)
      have hl1 : (V.all (os.take j)).length = j * V.sz := by rw [V.all_length, List.length_take, Nat.min_eq_left (by omega)]
      have hfit : o' + j * V.sz + V.sz ≤ cur.size := by
        have : (j + 1) * V.sz ≤ c' * V.sz := Nat.mul_le_mul_right _ (by omega)
        rw [Nat.add_mul] at this
        omega
      have hst := run_storeCells_at P b (o' + j * V.sz) V.T (V.cells u) 0 cur w hb (by rw [V.len]; simpa using hfit) (V.one u)
      simp only [Nat.add_zero, V.len] at hst
      refine ⟨w.setRow b (cur.toList.take (o' + j * V.sz) ++ V.cells u ++ cur.toList.drop (o' + j * V.sz + V.sz)).toArray, ?_, .inr ⟨b, o', c', (cur.toList.take (o' + j * V.sz) ++ V.cells u ++ cur.toList.drop (o' + j * V.sz + V.sz)).toArray, by rw [List.length_set], setRow_heap w b cur _ V.T _ hb, by rw [List.length_set]; exact h1, h2, ?_, ?_⟩, chg_setRow w b _⟩
      · simp [execOp, Instr.storeAt, Instr.sureAddr, hx, hy, storeVar, V.vcells, V.len, sizeOf, typeInfo, hi, hsz, hst]
      · simp only [List.size_toArray, List.length_append, List.length_take, List.length_drop, Array.length_toList, V.len]
        omega
      · rw [hsp] at h4
        have := set_seg (cs := V.cells u) h4 (by have := Nat.mul_le_mul_right V.sz h1; simp only [Array.length_toList]; omega) (by rw [V.len, V.len])
        rw [hl1, V.len] at this
        rw [List.length_set]
        rw [this, V.all_split (os.set j u) (j := j) (x := u) (by simp [hj])]
        congr 2
        · congr 1; rw [List.take_set_of_le (Nat.le_refl _)]
        · rw [List.drop_set_of_lt (by omega)]
  unfold Oper.wp
  rw [ha.evalf, hrun]
  obtain ⟨n1, n2, n3⟩ := List.nodup_append.1 hnd
  have hb1 : b ∈ (Value.slice (some ⟨b, o', none⟩) m c').ownBlock.toList := by simp [Value.ownBlock]
  refine hk _ _ (M.upd i hL _ ⟨hch.os, hch.tape, hch.output, hch.size, fun k hk hkn => hch.block k hk fun h => hkn (List.mem_append.2 (.inl (by rw [List.mem_singleton.1 h]; exact hb1))), hch.dr⟩ hnd (fun c hc => .inl hc) (fun c hc => Nat.lt_of_lt_of_le (M.own hri hc).2.1 hch.size) ⟨hM', hin.loc fun c hc => (hch.block c (M.own hri (List.mem_append.2 (.inr hc))).2.1 fun h => n3 b hb1 c hc (List.mem_singleton.1 h).symm).symm⟩)
theorem q_lenMat {S : World → Prop} {t el : TypeId} {x : Operand} {v : Value} {xss : List (List α)} (R : rdMat E V I v xss) (ht : P.underlying t = some (.slice el)) (hx : evo e x = some v) : Quiet P n ops S ⟨dst, .call { callee := .builtin .len, args := #[x], argTypes := #[t] }, ty, pos, af, none⟩ e (.int .i64 (xss.length : Int)) := by
  obtain ⟨vs, h1, h2, _⟩ := R
  rw [← h2]
  exact q_lenR h1 ht hx
/-- Rows of rows become immutable. -/
theorem Mem.frzMat (M : Mem w0 I0 I L w) (i : Nat) {v : Value} {vs : List SV} {xss : List (List α)} (hi : L[i]? = some (mat E V v vs vs xss)) : ∃ I', Mem w0 I0 I' (L.eraseIdx i) w ∧ hle I I' ∧ rdMat E V I' v xss := by
  obtain ⟨h1, h2, h3⟩ := M.freeze i hi
  obtain ⟨h0, hin⟩ : rowHolds V v vs _ ∧ inner E vs xss _ := h3
  exact ⟨_, h1, h2, vs, h0.rd, hin.1, fun j u xs hu hx => (hin.2 j u xs hu hx).rd⟩
end
end Go.Proofs.YtmjieefhjmiagaaDoor.G
