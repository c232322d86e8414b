/- Walk library, part 8 (maps of slices of one's own: m[k] = append(m[k], x)). Plain theorems over any program. -/
import Derived.Test.YtmjieefhjmiagaaDoorGMapB
set_option linter.all false
namespace Go.Proofs.YtmjieefhjmiagaaDoor.G
open Go Go.RowKit
open Go.ChangeMaps (setBlock)

section
variable {κ β γ : Type} [DecidableEq κ]
theorem flg_get : ∀ {l : List (κ × β)} {k : κ} {i : Nat} {v : β}, fl l k = some (i, v) → l[i]? = some (k, v)
  | [], k, i, v, h => by simp [fl] at h
  | (k', v0) :: l, k, i, v, h => by
    simp only [fl] at h
    split at h
    · rename_i he; cases h; simp [he]
    · obtain ⟨⟨j, x⟩, hj, he⟩ := Option.map_eq_some_iff.1 h
      cases he
      simpa using flg_get hj
theorem aput_at : ∀ {l : List (κ × β)} {k : κ} {i : Nat} {v : β}, fl l k = some (i, v) → ∀ x, aput l k x = l.set i (k, x)
  | [], k, i, v, h, x => by simp [fl] at h
  | (k', v0) :: l, k, i, v, h, x => by
    simp only [fl] at h
    split at h
    · rename_i he; cases h; simp [aput, he]
    · rename_i hne
      obtain ⟨⟨j, y⟩, hj, he⟩ := Option.map_eq_some_iff.1 h
      cases he
      simp [aput, hne, aput_at hj x]
theorem aput_same : ∀ {l : List (κ × β)} {k : κ} {i : Nat} {v : β}, fl l k = some (i, v) → aput l k v = l
  | [], k, i, v, h => by simp [fl] at h
  | (k', v0) :: l, k, i, v, h => by
    simp only [fl] at h
    split at h
    · rename_i he; cases h; simp [aput, he]
    · rename_i hne
      obtain ⟨⟨j, y⟩, hj, he⟩ := Option.map_eq_some_iff.1 h
      cases he
      simp [aput, hne, aput_same hj]
theorem zip_set {κ γ : Type} {k : κ} {u : γ} : ∀ {ks : List κ} {os : List γ} {j : Nat}, ks[j]? = some k → ks.zip (os.set j u) = (ks.zip os).set j (k, u)
  | [], _, _, h => by simp at h
  | _ :: _, [], j, h => by simp
  | k' :: ks, o :: os, 0, h => by simp at h; simp [h]
  | k' :: ks, o :: os, j + 1, h => by simp at h; simp [zip_set h]
theorem fl_zip : ∀ (g : List (κ × β)) (us : List γ) (k : κ), us.length = g.length → fl ((g.map (·.1)).zip us) k = (fl g k).bind fun p => (us[p.1]?).map fun u => (p.1, u)
  | [], us, k, h => by
    have : us = [] := by simpa using h
    subst this; rfl
  | (k', v) :: g, [], k, h => by simp at h
  | (k', v) :: g, u :: us, k, h => by
    simp only [List.map_cons, List.zip_cons_cons, fl]
    split
    · simp
    · rw [fl_zip g us k (by simpa using h)]
      cases fl g k with
      | none => rfl
      | some p => simp [Option.map_map]; rfl
end

section
def gk {κ α : Type} (g : List (κ × List α)) : List κ := g.map (·.1)
def gv {κ α : Type} (g : List (κ × List α)) : List (List α) := g.map (·.2)
variable {P : Program} {κ α : Type} [DecidableEq κ] (Q : KT P κ) (E : ET P α)
def gmap (b : Nat) (os us : List SV) (g : List (κ × List α)) : Res where
  blks := b :: oblks us
  holds h := h b = some (mobj Q sv ((gk g).zip os)) ∧ os.length ≤ g.length ∧ inner E us (gv g) h
  loc h h' e k := ⟨by rw [← e b (by simp)]; exact k.1, k.2.1, k.2.2.loc fun c hc => e c (by simp [hc])⟩
/-- A map of slices that is read. -/
def rdGm (h : Heap) (v : Value) (g : List (κ × List α)) : Prop := ∃ us : List SV, us.length = g.length ∧ rdMp Q sv h v ((gk g).zip us) ∧ ∀ (j : Nat) (u : SV) (p : κ × List α), us[j]? = some u → g[j]? = some p → rdSl E h (sv u) p.2
variable {Q E} in
theorem rdGm.mono {h h' : Heap} {v : Value} {g : List (κ × List α)} (k : hle h h') (r : rdGm Q E h v g) : rdGm Q E h' v g := by
  obtain ⟨us, h1, h2, h3⟩ := r
  exact ⟨us, h1, h2.mono k, fun j u p hu hx => (h3 j u p hu hx).mono k⟩
end

section
variable {P : Program} {n : Nat} {ops : Array Oper} {e : Env} {dst : Option Tmp} {ty : TypeId} {pos : String} {af : Array Edge} {w0 w : World} {I0 I : Heap} {L : List Res} {κ α : Type} [DecidableEq κ] {Q : KT P κ} {E : ET P α} {S : World → Prop}

theorem Mem.toGm (M : Mem w0 I0 I L w) (i : Nat) (E : ET P α) {b : Nat} (hi : L[i]? = some (mpr Q sv b [])) : Mem w0 I0 I (L.set i (gmap Q E b [] [] [])) w := by
  have h := M.mpAt i hi
  exact M.reval i hi _ (fun c hc => by simpa [gmap, oblks, mpr] using hc) (by simp [gmap, oblks]) ⟨h, Nat.le_refl _, rfl, fun j u xs hu => by simp at hu⟩
theorem Mem.gmAt (M : Mem w0 I0 I L w) {i : Nat} {b : Nat} {os us : List SV} {g : List (κ × List α)} (hi : L[i]? = some (gmap Q E b os us g)) : hp w b = some (mobj Q sv ((gk g).zip os)) := (M.holds _ (getElem?_mem' hi) : hp w b = _ ∧ _).1
theorem Mem.gmRow (M : Mem w0 I0 I L w) {i : Nat} {b : Nat} {os us : List SV} {g : List (κ × List α)} (hi : L[i]? = some (gmap Q E b os us g)) {j : Nat} {u : SV} {p : κ × List α} (hu : us[j]? = some u) (hg : g[j]? = some p) : rdSl E (hp w) (sv u) p.2 := by
  have h : hp w b = _ ∧ os.length ≤ g.length ∧ inner E us (gv g) (hp w) := M.holds _ (getElem?_mem' hi)
  exact (h.2.2.2 j u p.2 hu (by simp [gv, hg])).rd
theorem Mem.frzGm (M : Mem w0 I0 I L w) (i : Nat) {b : Nat} {us : List SV} {g : List (κ × List α)} (hi : L[i]? = some (gmap Q E b us us g)) : ∃ I', Mem w0 I0 I' (L.eraseIdx i) w ∧ hle I I' ∧ rdGm Q E I' (.map (some b)) g := by
  obtain ⟨h1, h2, h3⟩ := M.freeze i hi
  obtain ⟨h4, h5', h6⟩ : _ ∧ us.length ≤ g.length ∧ inner E us (gv g) _ := h3
  have h5 : us.length = g.length := by have := h6.1; simpa [gv] using this
  exact ⟨_, h1, h2, us, h5, ⟨b, rfl, h4⟩, fun j u p hu hx => (h6.2 j u p.2 hu (by simp [gv, hx])).rd⟩
/-- The entry for an append. -/
theorem e_gent (i : Nat) {t el : TypeId} {m x : Operand} {b : Nat} {us : List SV} {g : List (κ × List α)} {k : κ} (M : Mem w0 I0 I L w) (hi : L[i]? = some (gmap Q E b us us g)) (ht : P.underlying t = some (.map Q.T el)) (hz : zeroV P el = some (.slice none 0 0)) (hm : evo e m = some (.map (some b))) (hx : evo e x = some (Q.val k)) :
    Eff P n ops ⟨dst, .mapEntry t m x, ty, pos, af, none⟩ e w fun v w' => ∃ (us1 : List SV) (j : Nat) (u : SV), v = .tuple #[sv u, .int .i64 (j : Int)] ∧ us1[j]? = some u ∧ (aput g k ((aget g k).getD []))[j]? = some (k, (aget g k).getD []) ∧ (∀ ys, (aput g k ((aget g k).getD [])).set j (k, ys) = aput g k ys) ∧
      Mem w0 I0 I (L.set i (gmap Q E b us1 us1 (aput g k ((aget g k).getD [])))) w' := by
  replace hm := ev_of hm
  replace hx := ev_of hx
  have hri := getElem?_mem' hi
  obtain ⟨h0, h1', hin⟩ : hp w b = some (mobj Q sv ((gk g).zip us)) ∧ us.length ≤ g.length ∧ inner E us (gv g) (hp w) := M.holds _ hri
  have h1 : us.length = g.length := by have := hin.1; simpa [gv] using this
  have hrun := run_mapEntry (Q := Q) ht hz (show w.heap[b]? = some (mapObj Q _) from h0) k
  have hflz : fl ((gk g).zip us) k = _ := fl_zip g us k h1
  have hflm := fl_map sv ((gk g).zip us) k
  have hch := fun o => chg_setBlock w b o
  have hnd : (b :: oblks us).Nodup := M.resNodup hri
  cases hf : fl g k with
  | none =>
    have hg : aget g k = none := by rw [← fl_aget, hf]; rfl
    rw [hf] at hflz
    simp only [Option.bind_none] at hflz
    rw [hflz] at hflm
    simp only [Option.map_none] at hflm
    have ha : aget (((gk g).zip us).map fun p => (p.1, sv p.2)) k = none := by rw [← fl_aget, hflm]; rfl
    have hst : stampOf (((gk g).zip us).map fun p => (p.1, sv p.2)) k = g.length := by
      unfold stampOf
      rw [hflm]
      simp [gk, h1]
    rw [ha, hst, aput_new ha] at hrun
    simp only [Option.getD_none] at hrun
    have hg1 : aput g k ((aget g k).getD []) = g ++ [(k, [])] := by rw [hg]; exact aput_new hg
    rw [hg1, hg]
    have hobj : mapObj Q ((((gk g).zip us).map fun p => (p.1, sv p.2)) ++ [(k, .slice none 0 0)]) = mobj Q sv ((gk (g ++ [(k, ([] : List α))])).zip (us ++ [nilV])) := by
      rw [mobj, gk, gk, List.map_append, List.zip_append (by simp [h1])]; simp [sv, nilV]
    rw [hobj] at hrun
    refine Eff.run (v := .tuple #[sv nilV, .int .i64 (g.length : Int)]) (w' := _) (by simp only [execOp, hm, hx, Sem.run_bind, hrun, Result.andThen_ok, Sem.run_pure]; rfl) rfl ⟨us ++ [nilV], g.length, nilV, rfl, by simp [← h1], by simp, fun ys => by simp [aput_new hg], M.upd i hi _ ⟨(hch _).os, (hch _).tape, (hch _).output, (hch _).size, fun c hc hn => (hch _).block c hc fun h => hn (by simp [gmap, List.mem_singleton.1 h]), (hch _).dr⟩ ?_ (fun c hc => .inl ?_) (fun c hc => ?_) ⟨setBlock_heap h0, by simp [h1], ?_⟩⟩
    · simpa [gmap, oblks, sv, nilV, Value.ownBlock] using hnd
    · simpa [gmap, oblks, sv, nilV, Value.ownBlock] using hc
    · exact Nat.lt_of_lt_of_le (M.own hri (by simpa [gmap, oblks, sv, nilV, Value.ownBlock] using hc)).2.1 (hch _).size
    · refine ⟨by simp [gv, h1], fun j u xs hu hxs => ?_⟩
      rw [List.getElem?_append] at hu
      rw [gv, List.map_append, List.getElem?_append] at hxs
      simp only [List.length_map, ← h1] at hxs
      split at hu
      · rename_i hlt
        simp only [hlt, if_true] at hxs
        refine (row E (sv u) xs).loc _ _ (fun c hc => ((hch _).block c (M.own hri (by simp [gmap, mem_oblks hu hc])).2.1 fun h => ?_).symm) (hin.2 j u xs hu hxs)
        rw [List.mem_singleton.1 h] at hc
        exact (List.nodup_cons.1 hnd).1 (mem_oblks hu hc)
      · rename_i hlt
        simp only [hlt, if_false] at hxs
        have h2 : u = nilV := by cases hh : (j - us.length) with | zero => simpa [hh, eq_comm] using hu | succ x => simp [hh] at hu
        have h3 : xs = [] := by cases hh : (j - us.length) with | zero => simpa [hh, eq_comm] using hxs | succ x => simp [hh] at hxs
        subst h2 h3
        exact rowHolds_nil _
  | some q =>
    obtain ⟨j, xs⟩ := q
    have hg : aget g k = some xs := by rw [← fl_aget, hf]; rfl
    have hgj := flg_get hf
    have hjl := (List.getElem?_eq_some_iff.1 hgj).1
    have hu : us[j]? = some us[j] := List.getElem?_eq_getElem (by omega)
    rw [hf] at hflz
    simp only [Option.bind_some, hu, Option.map_some] at hflz
    rw [hflz] at hflm
    simp only [Option.map_some] at hflm
    have ha : aget (((gk g).zip us).map fun p => (p.1, sv p.2)) k = some (sv us[j]) := by rw [← fl_aget, hflm]; rfl
    have hst : stampOf (((gk g).zip us).map fun p => (p.1, sv p.2)) k = j := by simp [stampOf, hflm]
    rw [ha, hst] at hrun
    simp only [Option.getD_some] at hrun
    rw [aput_same hflm] at hrun
    have hg1 : aput g k ((aget g k).getD []) = g := by rw [hg]; exact aput_same hf
    rw [hg1, hg]
    simp only [Option.getD_some]
    refine Eff.run (v := .tuple #[sv us[j], .int .i64 (j : Int)]) (w' := setBlock w b (mobj Q sv ((gk g).zip us))) (by simp only [execOp, hm, hx, Sem.run_bind, hrun, Result.andThen_ok, Sem.run_pure]; rfl) rfl ⟨us, j, us[j], rfl, hu, hgj, fun ys => (aput_at hf ys).symm, M.upd i hi _ ⟨(hch _).os, (hch _).tape, (hch _).output, (hch _).size, fun c hc hn => (hch _).block c hc fun h => hn (by simp [gmap, List.mem_singleton.1 h]), (hch _).dr⟩ hnd (fun c hc => .inl hc) (fun c hc => Nat.lt_of_lt_of_le (M.own hri hc).2.1 (hch _).size) ⟨setBlock_heap h0, Nat.le_of_eq h1, hin.loc fun c hc => ((hch _).block c (M.own hri (by simp [gmap, hc])).2.1 fun h => ?_).symm⟩⟩
    rw [List.mem_singleton.1 h] at hc
    exact (List.nodup_cons.1 hnd).1 hc
/-- append onto an entry's row. -/
theorem e_gapp (i j : Nat) {t : TypeId} {x y : Operand} {b : Nat} {av : Value} {os vs : List SV} {g : List (κ × List α)} {u : SV} {k : κ} {xs ys : List α} (M : Mem w0 I0 I L w) (hi : L[i]? = some (gmap Q E b os vs g)) (ht : P.underlying t = some (.slice E.T)) (hu : vs[j]? = some u) (hg : g[j]? = some (k, xs)) (hx : evo e x = some (sv u)) (hy : evo e y = some (av)) (ha : rdSl E I av ys) (hb : (xs.length + ys.length) * E.by' ≤ 140737488355328) :
    Eff P n ops ⟨dst, .call { callee := .builtin .append, args := #[x, y], argTypes := #[t, t] }, ty, pos, af, none⟩ e w fun v1 w' => ∃ u', v1 = sv u' ∧ Mem w0 I0 I (L.set i (gmap Q E b os (vs.set j u') (g.set j (k, xs ++ ys)))) w' := by
  replace hx := ev_of hx
  replace hy := ev_of hy
  have hri := getElem?_mem' hi
  obtain ⟨h0, h01, hin⟩ : hp w b = some (mobj Q sv ((gk g).zip os)) ∧ os.length ≤ g.length ∧ inner E vs (gv g) (hp w) := M.holds _ hri
  have hxs : (gv g)[j]? = some xs := by simp [gv, hg]
  obtain ⟨v', w', hrun, h1, h2, h3⟩ := run_append (s0 := sv u) (ty := ty) M.imm ht (hin.2 j u xs hu hxs) ha hb
  obtain ⟨u', rfl⟩ := rowHolds_slice h1
  have hnd : (b :: oblks vs).Nodup := M.resNodup hri
  obtain ⟨n1, n2⟩ := List.nodup_cons.1 hnd
  have hlt : ∀ c ∈ b :: oblks vs, c < w.heap.size := fun c hc => (M.own hri hc).2.1
  have hjl : j < vs.length := (List.getElem?_eq_some_iff.1 hu).1
  have hjg : j < g.length := (List.getElem?_eq_some_iff.1 hg).1
  have hsub : ∀ c ∈ oblks (vs.set j u'), c ∈ oblks vs ∨ w.heap.size ≤ c := fun c hc => by
    rcases oblks_set_sub hc with h | ⟨k', _, y', hk, hy'⟩
    · rcases (h3 c h).1 with h' | h'
      · exact .inl (mem_oblks hu h')
      · exact .inr h'
    · exact .inl (mem_oblks hk hy')
  have hkeys : gk (g.set j (k, xs ++ ys)) = gk g := by
    simp only [gk, List.map_set]
    apply List.ext_getElem?
    intro c
    rw [List.getElem?_set]
    split
    · rename_i he; subst he
      have : g[j].1 = k := by have := List.getElem?_eq_getElem hjg; rw [hg] at this; exact (congrArg Prod.fst (Option.some.inj this)).symm
      simp [hjg, this]
    · rfl
  refine Eff.run (v := sv u') (w' := w') ?_ rfl ⟨u', rfl, M.upd i hi _ ?_ ?_ ?_ ?_ ?_⟩
  · simp only [execOp, resolve, invoke, builtin, Sem.run_bind, Sem.run_pure, Result.andThen_ok, List.map_toArray, List.map_cons, List.map_nil, hx, hy, hrun]
  · exact ⟨h2.os, h2.tape, h2.output, h2.size, fun c hc hcn => h2.block c hc fun hcu => hcn (List.mem_cons.2 (.inr (mem_oblks hu hcu))), h2.dr⟩
  · show (b :: oblks (vs.set j u')).Nodup
    refine List.nodup_cons.2 ⟨fun hc => ?_, flat_set_nodup n2 (fun c hc => hlt c (by simp [hc])) hu (fun c hc => (h3 c hc).1)⟩
    rcases hsub b hc with h | h
    · exact n1 h
    · have := hlt b (by simp); omega
  · intro c hc
    rcases List.mem_cons.1 hc with rfl | hc
    · exact .inl (by simp [gmap])
    · exact (hsub c hc).imp (fun h => List.mem_cons.2 (.inr h)) id
  · intro c hc
    rcases List.mem_cons.1 hc with rfl | hc
    · exact Nat.lt_of_lt_of_le (hlt c (by simp)) h2.size
    · rcases oblks_set_sub hc with h | ⟨k', _, y', hk, hy'⟩
      · exact (h3 c h).2
      · exact Nat.lt_of_lt_of_le (hlt c (List.mem_cons.2 (.inr (mem_oblks hk hy')))) h2.size
  · have hkeep : ∀ c, c < w.heap.size → c ∉ (sv u).ownBlock.toList → hp w c = hp w' c := fun c hc hn => (h2.block c hc hn).symm
    refine ⟨?_, by simp [h01], ⟨by simp [gv, hin.1] , fun k' y zs hk hz => ?_⟩⟩
    · rw [hkeys, ← hkeep b (hlt b (by simp)) fun h => n1 (mem_oblks hu h)]
      exact h0
    · rw [gv, List.map_set] at hz
      rw [List.getElem?_set] at hk hz
      by_cases hkj : j = k'
      · subst hkj
        simp only [if_true, hjl, List.length_map, hjg] at hk hz
        cases hk; cases hz
        exact h1
      · rw [if_neg hkj] at hk hz
        exact (row E (sv y) zs).loc _ _ (fun c hc => hkeep c (hlt c (List.mem_cons.2 (.inr (mem_oblks hk hc)))) (oblks_apart n2 hu hk (fun e => hkj e.symm) c hc)) (hin.2 k' y zs hk hz)
theorem ents_set (n : Nat) : ∀ (l : List (κ × Value)) (j : Nat) (k : κ) (v : Value), (∃ v0, l[j]? = some (k, v0)) → (ents Q n l).modify j (fun e => { e with val := v }) = ents Q n (l.set j (k, v)) := by
  intro l j k v h
  apply List.ext_getElem?
  intro c
  rw [ents_get, List.getElem?_modify, ents_get, List.getElem?_set]
  obtain ⟨v0, hv⟩ := h
  have hl := (List.getElem?_eq_some_iff.1 hv).1
  by_cases e : j = c
  · subst e
    have : l[j] = (k, v0) := by have := List.getElem?_eq_getElem hl; rw [hv] at this; exact (Option.some.inj this).symm
    simp [hl, this]
  · simp [e]
theorem run_entryStoreAt {t : TypeId} {w : World} {b : Nat} {l : List (κ × Value)} {j : Nat} {k : κ} {v0 : Value} (v : Value) (hb : w.heap[b]? = some (mapObj Q l)) (hj : l[j]? = some (k, v0)) :
    (Instr.entryStore t (.map (some b)) (.int .i64 (j : Int)) v).run P w = .ok () (setBlock w b (mapObj Q (l.set j (k, v)))) := by
  have hi := (List.getElem?_eq_some_iff.1 hj).1
  have hfi := findIdx_born (Q := Q) 0 l j hi
  simp only [Nat.zero_add] at hfi
  have hfi' : (ents Q 0 l).toArray.findIdx? (fun e => (e.born : Int) == (j : Int)) = some j := by simpa using hfi
  have hai : (asInt (.int .i64 (j : Int))).run P w = .ok (j : Int) w := by simp [asInt, asIntOf]
  have hgb : (getObj b).run P w = .ok (.map (ents Q 0 l).toArray l.length) w := run_getObj_map' hb
  simp only [Instr.entryStore, Sem.run_bind, hgb, Result.andThen_ok, hai, hfi', run_setObj_map hb, mapObj, ← ents_set 0 l j k v ⟨v0, hj⟩, List.length_set]
  simp
/-- The entry's write. -/
theorem e_gst (i j : Nat) {t : TypeId} {m x y : Operand} {b : Nat} {os vs : List SV} {g : List (κ × List α)} {u : SV} (M : Mem w0 I0 I L w) (hi : L[i]? = some (gmap Q E b os vs g)) (hj : j < g.length) (hjo : j < os.length) (hm : evo e m = some (.map (some b))) (hx : evo e x = some (.int .i64 (j : Int))) (hy : evo e y = some (sv u)) :
    Eff P n ops ⟨dst, .entryStore t m x y, ty, pos, af, none⟩ e w fun _ w' => Mem w0 I0 I (L.set i (gmap Q E b (os.set j u) vs g)) w' := by
  replace hm := ev_of hm
  replace hx := ev_of hx
  replace hy := ev_of hy
  have hri := getElem?_mem' hi
  obtain ⟨h0, h01, hin⟩ : hp w b = some (mobj Q sv ((gk g).zip os)) ∧ os.length ≤ g.length ∧ inner E vs (gv g) (hp w) := M.holds _ hri
  have hnd : (b :: oblks vs).Nodup := M.resNodup hri
  have hko : (gk g)[j]? = some g[j].1 := by simp [gk, hj]
  have hoo : os[j]? = some os[j] := List.getElem?_eq_getElem (by omega)
  have hz : (((gk g).zip os).map fun p => (p.1, sv p.2))[j]? = some (g[j].1, sv os[j]) := by
    rw [List.getElem?_map, (List.getElem?_zip_eq_some (z := (g[j].1, os[j]))).2 ⟨hko, hoo⟩]; rfl
  have hrun := run_entryStoreAt (Q := Q) (t := t) (sv u) (show w.heap[b]? = some (mapObj Q _) from h0) hz
  have hl : ((((gk g).zip os).map fun p => (p.1, sv p.2)).set j (g[j].1, sv u)) = ((gk g).zip (os.set j u)).map fun p => (p.1, sv p.2) := by
    rw [zip_set hko, List.map_set]
  rw [hl] at hrun
  have hch := fun o => chg_setBlock w b o
  refine Eff.run0 (w' := setBlock w b (mobj Q sv ((gk g).zip (os.set j u)))) (by simp only [execOp, hm, hx, hy, Sem.run_bind, hrun, Result.andThen_ok, Sem.run_pure]; rfl) rfl (M.upd i hi _ ⟨(hch _).os, (hch _).tape, (hch _).output, (hch _).size, fun c hc hn => (hch _).block c hc fun h => hn (by simp [gmap, List.mem_singleton.1 h]), (hch _).dr⟩ hnd (fun c hc => .inl hc) (fun c hc => Nat.lt_of_lt_of_le (M.own hri hc).2.1 (hch _).size) ⟨setBlock_heap h0, by simp [h01], hin.loc fun c hc => ((hch _).block c (M.own hri (by simp [gmap, hc])).2.1 fun h => ?_).symm⟩)
  rw [List.mem_singleton.1 h] at hc
  exact (List.nodup_cons.1 hnd).1 hc
theorem aget_zip {β γ : Type} (g : List (κ × β)) (us : List γ) (k : κ) (h : us.length = g.length) : (aget g k = none ∧ aget ((g.map (·.1)).zip us) k = none) ∨ ∃ (j : Nat) (u : γ) (x : β), us[j]? = some u ∧ g[j]? = some (k, x) ∧ aget g k = some x ∧ aget ((g.map (·.1)).zip us) k = some u := by
  have h1 := fl_zip g us k h
  rw [← fl_aget, ← fl_aget]
  cases hf : fl g k with
  | none => rw [hf] at h1; exact .inl ⟨rfl, by rw [h1]; rfl⟩
  | some p =>
    obtain ⟨j, x⟩ := p
    have hg := flg_get hf
    have hu : us[j]? = some (us[j]'(by have := (List.getElem?_eq_some_iff.1 hg).1; omega)) := List.getElem?_eq_getElem _
    rw [hf] at h1
    simp only [Option.bind_some, hu, Option.map_some] at h1
    exact .inr ⟨j, _, x, hu, hg, rfl, by rw [h1]; rfl⟩
/-- What a key's row reads as, in a map that is read. -/
theorem rdGm.look {h : Heap} {v : Value} {g : List (κ × List α)} (r : rdGm Q E h v g) (k : κ) : ∃ (l : List (κ × SV)), rdMp Q sv h v l ∧ rdSl E h (sv ((aget l k).getD nilV)) ((aget g k).getD []) := by
  obtain ⟨us, h1, h2, h3⟩ := r
  refine ⟨_, h2, ?_⟩
  rcases aget_zip g us k h1 with ⟨e1, e2⟩ | ⟨j, u, x, hu, hg, e1, e2⟩
  · rw [gk, e1, e2]; exact rdSl_nil h
  · rw [gk, e1, e2]; exact h3 j u _ hu hg
/-- The lookup itself. -/
theorem wl_lkg {K : Env → World → Prop} {rest : List Oper} {l : List (Nat × Value)} {b : Env} {d : Nat} {t el : TypeId} {m x : Operand} {v : Value} {g : List (κ × List α)} {k : κ} (M : Mem w0 I0 I L w) (R : rdGm Q E I v g) (ht : P.underlying t = some (.map Q.T el)) (hz : zeroV P el = some (.slice none 0 0)) (hm : evo (look l b) m = some v) (hx : evo (look l b) x = some (Q.val k)) (hn : Nat.blt d n = true)
    (h : ∀ u : SV, rdSl E I (sv u) ((aget g k).getD []) → WL P n ops K rest (look ((d, sv u) :: l) b) w) : WL P n ops K (⟨some d, .lookup t m x false, ty, pos, af, none⟩ :: rest) (look l b) w := by
  obtain ⟨l', h1, h2⟩ := R.look k
  exact wl_q (q_lkI (z := nilV) h1 ht hz hm hx) M rfl hn (h _ h2)
end
end Go.Proofs.YtmjieefhjmiagaaDoor.G
