/- Middle: rows out of a map; prefixes in memory. -/
import Derived.Test.YtmjieefhjmiagaaGreatDoorGMid
import Derived.Test.YtmjieefhjmiagaaGreatDoorGSqB
import Derived.Test.YtmjieefhjmiagaaGreatDoorGDec
import Derived.Test.YtmjieefhjmiagaaGreatDoorGMiw
set_option linter.all false
namespace Go.Proofs.YtmjieefhjmiagaaGreatDoor.G
open Go Go.RowKit
section
variable {P : Program} {w0 w : World} {I0 I : Heap} {L : List Res} {κ α : Type} [DecidableEq κ] {Q : KT P κ} {E : ET P α}
def rowsU (E : ET P α) (us : List SV) (xss : List (List α)) : List Res := (us.zip xss).map fun p => row E (sv p.1) p.2
theorem rowsU_blks : ∀ {us : List SV} {xss : List (List α)}, us.length = xss.length → (rowsU E us xss).flatMap Res.blks = oblks us
  | [], [], _ => rfl
  | u :: us, xs :: xss, h => by
    have := rowsU_blks (us := us) (xss := xss) (by simpa using h)
    unfold rowsU at this
    simp only [rowsU, List.zip_cons_cons, List.map_cons, List.flatMap_cons, oblks]
    rw [this]; rfl
/-- A map of rows: the map is read from now on, its rows are one's own. -/
theorem Mem.gmSplit {b : Nat} {us : List SV} {g : List (κ × List α)} (M : Mem w0 I0 I (gmap Q E b us us g :: L) w) : ∃ I', Mem w0 I0 I' (L ++ rowsU E us (gv g)) w ∧ hle I I' ∧ rdMp Q sv I' (.map (some b)) ((gk g).zip us) ∧ us.length = (gv g).length := by
  obtain ⟨h4, h5, h6⟩ : hp w b = some (mobj Q sv ((gk g).zip us)) ∧ us.length ≤ g.length ∧ inner E us (gv g) (hp w) := M.holds _ (List.mem_cons_self ..)
  have hnd : (b :: oblks us ++ L.flatMap Res.blks).Nodup := M.nodup
  have hbl : ∀ c, c ∈ (L ++ rowsU E us (gv g)).flatMap Res.blks ↔ c ∈ oblks us ∨ c ∈ L.flatMap Res.blks := fun c => by
    rw [List.flatMap_append, rowsU_blks h6.1, List.mem_append]
    exact Or.comm
  have hne : ∀ c, c ∈ (L ++ rowsU E us (gv g)).flatMap Res.blks → c ≠ b := fun c hc e => by
    subst e
    rw [List.cons_append, List.nodup_cons] at hnd
    exact hnd.1 (List.mem_append.2 ((hbl c).1 hc))
  have hmine : ∀ c, c ∈ (L ++ rowsU E us (gv g)).flatMap Res.blks → c ∈ (gmap Q E b us us g :: L).flatMap Res.blks := fun c hc => by
    show c ∈ (b :: oblks us) ++ L.flatMap Res.blks
    rw [List.cons_append]
    exact List.mem_cons_of_mem _ (List.mem_append.2 ((hbl c).1 hc))
  have hbI : w0.heap.size ≤ b ∧ b < w.heap.size ∧ I b = none := M.mine b (by show b ∈ (b :: oblks us) ++ _; simp)
  refine ⟨frzI I w [b], ⟨M.below, fun c hc => ?_, fun c o e => ?_, ?_, fun c hc => ?_, fun r hr => ?_, M.dr⟩, fun c o e => ?_, ⟨b, rfl, ?_⟩, h6.1⟩
  · unfold frzI
    rw [if_neg (fun h => by rw [List.mem_singleton.1 h] at hc; omega)]
    exact M.old c hc
  · unfold frzI at e
    split at e
    · exact e
    · exact M.imm c o e
  · rw [List.flatMap_append, rowsU_blks h6.1]
    rw [List.cons_append, List.nodup_cons] at hnd
    exact List.perm_append_comm.nodup_iff.1 hnd.2
  · have := M.mine c (hmine c hc)
    refine ⟨this.1, this.2.1, ?_⟩
    unfold frzI
    rw [if_neg (fun h => hne c hc (List.mem_singleton.1 h))]
    exact this.2.2
  · rcases List.mem_append.1 hr with hr | hr
    · exact M.holds r (List.mem_cons_of_mem _ hr)
    · obtain ⟨⟨u, xs⟩, hp, rfl⟩ := List.mem_map.1 hr
      obtain ⟨j, hj⟩ := List.getElem?_of_mem hp
      rw [List.getElem?_zip_eq_some] at hj
      exact h6.2 j u xs hj.1 hj.2
  · unfold frzI
    rw [if_neg (fun h => by rw [List.mem_singleton.1 h, hbI.2.2] at e; cases e)]
    exact e
  · show frzI I w [b] b = _
    unfold frzI
    rw [if_pos (by simp)]
    exact h4
def rowsY (E : ET P α) (U : κ → SV) (X : κ → List α) (l : List κ) : List Res := l.map fun r => row E (sv (U r)) (X r)
theorem rowsU_Y {us : List SV} {g : List (κ × List α)} (hl : us.length = (gv g).length) (hn : (gk g).Nodup) : rowsU E us (gv g) = rowsY E (fun r => (aget ((gk g).zip us) r).getD nilV) (fun r => (aget g r).getD []) (gk g) := by
  have hl' : us.length = g.length := by simpa [gv] using hl
  have hzn : (((gk g).zip us).map (·.1)).Nodup := by
    rw [List.map_fst_zip (by simp [gk]; omega)]; exact hn
  refine List.ext_getElem (by simp [rowsU, rowsY, gk, gv]; omega) fun i h1 h2 => ?_
  have hi : i < g.length := by simp [rowsY, gk] at h2; exact h2
  simp only [rowsU, rowsY, List.getElem_map, List.getElem_zip, gk, gv]
  have e1 : aget g (g[i].1) = some g[i].2 := (aget_mem hn).2 (List.getElem_mem hi)
  have e2 : aget ((gk g).zip us) (g[i].1) = some (us[i]'(by omega)) := (aget_mem hzn).2 (by
    refine List.mem_of_getElem? (i := i) ?_
    rw [List.getElem?_zip_eq_some]
    exact ⟨by rw [gk, List.getElem?_map, List.getElem?_eq_getElem hi]; rfl, List.getElem?_eq_getElem (by omega)⟩)
  simp only [gk] at e2
  rw [e1, e2]; rfl
theorem Mem.gmRows {b : Nat} {us : List SV} {g : List (κ × List α)} (M : Mem w0 I0 I (gmap Q E b us us g :: L) w) (hn : (gk g).Nodup) : ∃ (lm : List (κ × SV)) (I' : Heap), Mem w0 I0 I' (L ++ rowsY E (fun r => (aget lm r).getD nilV) (fun r => (aget g r).getD []) (gk g)) w ∧ hle I I' ∧ rdMp Q sv I' (.map (some b)) lm ∧ lm.map (·.1) = gk g := by
  obtain ⟨I', M', h1, h2, h3⟩ := M.gmSplit
  rw [rowsU_Y h3 hn] at M'
  refine ⟨_, I', M', h1, h2, ?_⟩
  rw [List.map_fst_zip (by simp [gk, gv] at h3 ⊢; omega)]
theorem Mem.rowsPerm {l l' : List κ} {U : κ → SV} {X : κ → List α} (M : Mem w0 I0 I (L ++ rowsY E U X l) w) (h : l'.Perm l) : Mem w0 I0 I (L ++ rowsY E U X l') w := M.perm ((h.symm.map _).append_left L)
theorem Mem.rowsTake {r : κ} {l : List κ} {U : κ → SV} {X : κ → List α} (M : Mem w0 I0 I (L ++ rowsY E U X (r :: l)) w) : Mem w0 I0 I (row E (sv (U r)) (X r) :: (L ++ rowsY E U X l)) w := M.perm List.perm_middle
end
structure CPre where
  text : ByteArray
  set : Nat
def CPre.cells (x : CPre) : List Value := [.string x.text, .map (some x.set)]
noncomputable def ECPre : ET A CPre := ET.agg 66 2 24 CPre.cells _ Tryz.underlying66 rfl (.agg #[.string ⟨#[]⟩, .map none]) rfl (by kernel_rfl) (by decide) (by decide) (fun _ => rfl) (fun x v hv => by simp [CPre.cells] at hv; rcases hv with rfl | rfl <;> rfl)
def CPreOk (h : Heap) (r : CPre) (q : List Int × List Config) : Prop := r.text = strL q.1 ∧ rdMp QConfig Value.bool h (.map (some r.set)) (tr q.2)
theorem CPreOk.mono {h h' : Heap} (k : hle h h') {r : CPre} {q : List Int × List Config} (p : CPreOk h r q) : CPreOk h' r q := ⟨p.1, p.2.mono k⟩
def CPres (h : Heap) : List CPre → List (List Int × List Config) → Prop
  | [], [] => True
  | r :: rs, q :: qs => CPreOk h r q ∧ CPres h rs qs
  | _, _ => False
theorem CPres.mono {h h' : Heap} (k : hle h h') : ∀ {rs : List CPre} {qs : List (List Int × List Config)}, CPres h rs qs → CPres h' rs qs
  | [], [], _ => trivial
  | _ :: _, _ :: _, p => ⟨p.1.mono k, CPres.mono k p.2⟩
theorem CPres.len {h : Heap} : ∀ {rs : List CPre} {qs : List (List Int × List Config)}, CPres h rs qs → rs.length = qs.length
  | [], [], _ => rfl
  | _ :: _, _ :: _, p => by simp [CPres.len p.2]
theorem CPres.snoc {h : Heap} {r : CPre} {q : List Int × List Config} (k : CPreOk h r q) : ∀ {rs : List CPre} {qs : List (List Int × List Config)}, CPres h rs qs → CPres h (rs ++ [r]) (qs ++ [q])
  | [], [], _ => ⟨k, trivial⟩
  | _ :: _, _ :: _, p => ⟨p.1, CPres.snoc k p.2⟩
theorem CPres.at {h : Heap} : ∀ {rs : List CPre} {qs : List (List Int × List Config)}, CPres h rs qs → ∀ {j : Nat} {r : CPre}, rs[j]? = some r → ∃ q, qs[j]? = some q ∧ CPreOk h r q
  | _ :: _, q :: _, p, 0, r, e => by simp at e; subst e; exact ⟨q, rfl, p.1⟩
  | _ :: _, _ :: _, p, j + 1, r, e => by simp at e; simpa using CPres.at p.2 e
theorem CPres.app {h : Heap} {rs' : List CPre} {qs' : List (List Int × List Config)} (k : CPres h rs' qs') : ∀ {rs : List CPre} {qs : List (List Int × List Config)}, CPres h rs qs → CPres h (rs ++ rs') (qs ++ qs')
  | [], [], _ => k
  | _ :: _, _ :: _, p => ⟨p.1, CPres.app k p.2⟩
theorem givesKC {l : List (Int × SV)} {bm : Nat} {mb : Option Nat} {I : Heap} (Rl : rdMp QRune sv I (.map mb) l) (Hb : I bm = some (.cells (#[.map mb] : Array Value) 83 (0, 0))) {w0 : World} {I0 : Heap} :
    Gives A 100 #[.pointer (some ⟨bm, 0, none⟩)] (Value.int .i32) (fun xs => xs.Perm (l.map (·.1))) l.length w0 I0 I :=
  fun γ lp Lt c0 w M hY => keys1C_c Rl Hb lp Lt c0 M hY
theorem sorted_newC {ys : List Int} (h : ys.Pairwise (· < ·)) {k : Nat} {x : Int} (hx : ys[k]? = some x) : x ∉ ys.take k := fun hm => by
  obtain ⟨i, hi⟩ := List.getElem?_of_mem hm
  have hil := (List.getElem?_eq_some_iff.1 hi).1
  rw [List.length_take] at hil
  rw [List.getElem?_take, if_pos (by omega)] at hi
  obtain ⟨h1, e1⟩ := List.getElem?_eq_some_iff.1 hi
  obtain ⟨h2, e2⟩ := List.getElem?_eq_some_iff.1 hx
  have := List.pairwise_iff_getElem.1 h i k h1 h2 (by omega)
  omega
theorem strict_ofC {ys : List Int} (h : ys.Pairwise (· ≤ ·)) (hn : ys.Nodup) : ys.Pairwise (· < ·) := (h.and hn).imp fun h => by omega
end Go.Proofs.YtmjieefhjmiagaaGreatDoor.G
