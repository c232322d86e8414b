/- Walk library, part 10 (maps of slices of one's own, written as m[k] = append(m[k], x) by lookup, append and update). Plain theorems over any program. -/
import Derived.Test.YtmjieefhjmiagaaDoorGMapC
set_option linter.all false
namespace Go.Proofs.YtmjieefhjmiagaaDoor.G
open Go Go.RowKit
open Go.ChangeMaps (setBlock)
section
variable {P : Program} {n : Nat} {ops : Array Oper} {e : Env} {dst : Option Tmp} {ty : TypeId} {pos : String} {af : Array Edge} {w0 w : World} {I0 I : Heap} {L : List Res} {κ α : Type} [DecidableEq κ] {Q : KT P κ} {E : ET P α} {S : World → Prop}
theorem mkS {F : World → Prop} (M : Mem w0 I0 I L w) (h : F w) : Mem w0 I0 I L w ∧ F w := ⟨M, h⟩
theorem gk_set {g : List (κ × List α)} {j : Nat} {k : κ} {xs ys : List α} (h : g[j]? = some (k, xs)) : gk (g.set j (k, ys)) = gk g := by
  simp only [gk, List.map_set]
  apply List.ext_getElem?
  intro c
  rw [List.getElem?_set]
  have hjg := (List.getElem?_eq_some_iff.1 h).1
  split
  · rename_i he; subst he
    have : g[j].1 = k := by have := List.getElem?_eq_getElem hjg; rw [h] at this; exact (congrArg Prod.fst (Option.some.inj this)).symm
    simp [hjg, this]
  · rfl
/-- A key's row made ready: it is there, if only as a nil row that nobody has written yet. -/
theorem Mem.gmReady (M : Mem w0 I0 I L w) (i : Nat) {b : Nat} {us : List SV} {g : List (κ × List α)} (hi : L[i]? = some (gmap Q E b us us g)) (k : κ) : ∃ (us1 : List SV) (j : Nat) (u : SV), us1[j]? = some u ∧ (aput g k ((aget g k).getD []))[j]? = some (k, (aget g k).getD []) ∧ (∀ ys, (aput g k ((aget g k).getD [])).set j (k, ys) = aput g k ys) ∧
    (aget ((gk (aput g k ((aget g k).getD []))).zip us) k).getD nilV = u ∧ (∀ u', aput ((gk (aput g k ((aget g k).getD []))).zip us) k u' = (gk (aput g k ((aget g k).getD []))).zip (us1.set j u')) ∧ Mem w0 I0 I (L.set i (gmap Q E b us us1 (aput g k ((aget g k).getD [])))) w := by
  have hri := getElem?_mem' hi
  obtain ⟨h0, h1', hin⟩ : hp w b = some (mobj Q sv ((gk g).zip us)) ∧ us.length ≤ g.length ∧ inner E us (gv g) (hp w) := M.holds _ hri
  have h1 : us.length = g.length := by have := hin.1; simpa [gv] using this
  have hnd : (b :: oblks us).Nodup := M.resNodup hri
  have hflz : fl ((gk g).zip us) k = _ := fl_zip g us k h1
  cases hf : fl g k with
  | none =>
    have hg : aget g k = none := by rw [← fl_aget, hf]; rfl
    rw [hf] at hflz
    simp only [Option.bind_none] at hflz
    have hg1 : aput g k ((aget g k).getD []) = g ++ [(k, [])] := by rw [hg]; exact aput_new hg
    have hz : (gk (g ++ [(k, ([] : List α))])).zip us = (gk g).zip us := by
      rw [gk, List.map_append, ← List.append_nil us, List.zip_append (by simp [h1])]
      simp [gk]
    have ha : aget ((gk g).zip us) k = none := by rw [← fl_aget, hflz]; rfl
    rw [hg1, hg, hz]
    refine ⟨us ++ [nilV], g.length, nilV, by simp [← h1], by simp, fun ys => by simp [aput_new hg], by rw [ha]; rfl, fun u' => ?_, M.reval i hi _ (fun c hc => ?_) ?_ ⟨by rw [hz]; exact h0, by simp [h1], ⟨by simp [gv, h1], fun j u xs hu hxs => ?_⟩⟩⟩
    · rw [aput_new ha, gk, gk, List.map_append, ← h1, List.set_append_right _ _ (Nat.le_refl _), Nat.sub_self, List.zip_append (by simp [h1])]
      simp
    · simpa [gmap, oblks, sv, nilV, Value.ownBlock] using hc
    · simpa [gmap, oblks, sv, nilV, Value.ownBlock] using hnd
    · rw [List.getElem?_append] at hu
      rw [gv, List.map_append, List.getElem?_append] at hxs
      simp only [List.length_map, ← h1] at hxs
      split at hu
      · rename_i hlt
        simp only [hlt, if_true] at hxs
        exact hin.2 j u xs hu hxs
      · rename_i hlt
        simp only [hlt, if_false] at hxs
        have h2 : u = nilV := by cases hh : (j - us.length) with | zero => simpa [hh, eq_comm] using hu | succ x => simp [hh] at hu
        have h3 : xs = [] := by cases hh : (j - us.length) with | zero => simpa [hh, eq_comm] using hxs | succ x => simp [hh] at hxs
        subst h2 h3
        exact rowHolds_nil _
  | some q =>
    obtain ⟨j, xs⟩ := q
    have hg : aget g k = some xs := by rw [← fl_aget, hf]; rfl
    have hgj := flg_get hf
    have hjl := (List.getElem?_eq_some_iff.1 hgj).1
    have hu : us[j]? = some us[j] := List.getElem?_eq_getElem (by omega)
    rw [hf] at hflz
    simp only [Option.bind_some, hu, Option.map_some] at hflz
    have hg1 : aput g k ((aget g k).getD []) = g := by rw [hg]; exact aput_same hf
    rw [hg1, hg]
    simp only [Option.getD_some]
    have hkj : (gk g)[j]? = some k := by simp [gk, hgj]
    refine ⟨us, j, us[j], hu, hgj, fun ys => (aput_at hf ys).symm, by rw [← fl_aget, hflz]; rfl, fun u' => ?_, ?_⟩
    · rw [aput_at hflz, zip_set hkj]
    · have : L.set i (gmap Q E b us us g) = L := by
        apply List.ext_getElem?
        intro c
        rw [List.getElem?_set]
        split
        · rename_i he; subst he
          split
          · exact hi.symm
          · rename_i hh; rw [List.getElem?_eq_none (by omega)]
        · rfl
      rw [this]; exact M
theorem Mem.gmVs (M : Mem w0 I0 I L w) {i : Nat} {b : Nat} {os us : List SV} {g : List (κ × List α)} (hi : L[i]? = some (gmap Q E b os us g)) : us.length = g.length := by
  have h : hp w b = _ ∧ os.length ≤ g.length ∧ inner E us (gv g) (hp w) := M.holds _ (getElem?_mem' hi)
  have := h.2.2.1; simpa [gv] using this
/-- The lookup of a row made ready. -/
theorem q_lkgS {t el : TypeId} {m x : Operand} {b : Nat} {l : List (κ × SV)} {k : κ} {u : SV} (R : ∀ w, S w → hp w b = some (mobj Q sv l)) (hu : (aget l k).getD nilV = u) (ht : P.underlying t = some (.map Q.T el)) (hz : zeroV P el = some (.slice none 0 0)) (hm : evo e m = some (.map (some b))) (hx : evo e x = some (Q.val k)) :
    Quiet P n ops S ⟨dst, .lookup t m x false, ty, pos, af, none⟩ e (sv u) := by
  subst hu
  exact q_lkS (z := nilV) R ht hz hm hx
/-- The update that follows the append. -/
theorem e_gmu (i : Nat) {t el : TypeId} {m x y : Operand} {b : Nat} {os vs os' : List SV} {g : List (κ × List α)} {k : κ} {u : SV} {zs : List (κ × SV)} (M : Mem w0 I0 I L w) (hi : L[i]? = some (gmap Q E b os vs g)) (hz : (gk g).zip os = zs) (hup : aput zs k u = (gk g).zip os') (hol : os'.length ≤ g.length) (ht : P.underlying t = some (.map Q.T el)) (hm : evo e m = some (.map (some b))) (hx : evo e x = some (Q.val k)) (hy : evo e y = some (sv u)) :
    Eff P n ops ⟨dst, .mapUpdate t m x y, ty, pos, af, none⟩ e w fun _ w' => Mem w0 I0 I (L.set i (gmap Q E b os' vs g)) w' := by
  replace hm := ev_of hm
  replace hx := ev_of hx
  replace hy := ev_of hy
  have hri := getElem?_mem' hi
  obtain ⟨h0, h01, hin⟩ : hp w b = some (mobj Q sv ((gk g).zip os)) ∧ os.length ≤ g.length ∧ inner E vs (gv g) (hp w) := M.holds _ hri
  have hnd : (b :: oblks vs).Nodup := M.resNodup hri
  rw [hz] at h0
  have hrun := run_mapUpdate (Q := Q) ht (show w.heap[b]? = some (mapObj Q _) from h0) k (sv u)
  rw [← aput_map sv, hup] at hrun
  have hch := fun o => chg_setBlock w b o
  refine Eff.run0 (w' := setBlock w b (mobj Q sv ((gk g).zip os'))) (by simp only [execOp, hm, hx, hy, Sem.run_bind, hrun, Result.andThen_ok, Sem.run_pure]; rfl) rfl (M.upd i hi _ ⟨(hch _).os, (hch _).tape, (hch _).output, (hch _).size, fun c hc hn => (hch _).block c hc fun h => hn (by simp [gmap, List.mem_singleton.1 h]), (hch _).dr⟩ hnd (fun c hc => .inl hc) (fun c hc => Nat.lt_of_lt_of_le (M.own hri hc).2.1 (hch _).size) ⟨setBlock_heap h0, hol, hin.1, fun j' y zs' hk hz' => ?_⟩)
  refine (row E (sv y) zs').loc _ _ (fun c hc => ((hch _).block c (M.own hri (by simp [gmap, mem_oblks hk hc])).2.1 fun h => ?_).symm) (hin.2 j' y zs' hk hz')
  rw [List.mem_singleton.1 h] at hc
  exact (List.nodup_cons.1 hnd).1 (mem_oblks hk hc)
/-- A map of slices that is read, as a map of slices' words. -/
theorem rdGm.opn {h : Heap} {v : Value} {g : List (κ × List α)} (r : rdGm Q E h v g) (hn : (gk g).Nodup) : ∃ l : List (κ × SV), rdMp Q sv h v l ∧ l.map (·.1) = gk g ∧ ∀ p ∈ l, rdSl E h (sv p.2) ((aget g p.1).getD []) := by
  obtain ⟨us, h1, h2, h3⟩ := r
  refine ⟨_, h2, ?_, fun p hp => ?_⟩
  · rw [List.map_fst_zip]; simp [gk, h1]
  · obtain ⟨j, hj⟩ := List.getElem?_of_mem hp
    obtain ⟨h4, h5⟩ := List.getElem?_zip_eq_some.1 hj
    obtain ⟨q, hq, e⟩ := Option.map_eq_some_iff.1 (by simpa [gk] using h4 : (g[j]?).map (·.1) = some p.1)
    have := h3 j p.2 q h5 hq
    have hm : aget g p.1 = some q.2 := (aget_mem hn).2 (by rw [← e]; exact List.mem_of_getElem? hq)
    rw [hm]; exact this
end
end Go.Proofs.YtmjieefhjmiagaaDoor.G
