/- The pair that Shortest answers is the first of all. Plain Lean. -/
import Derived.Test.YtfepjcmjkaolgaaGOuu
import Derived.Test.YtfepjcmjkaolgaaGLea
set_option linter.all false
namespace Go.Proofs.Ytfepjcmjkaolgaa.G
open Go Go.RowKit
section
variable {C : Type} [DecidableEq C] {N : Net C} {s : C} {n : Nat} {txt : List Int} {cs : List C} {qs : List (List Int × List C)}
/-- Some word is short enough, and all words have the same length. -/
def OneLen (N : Net C) (s : C) (n : Nat) : Prop := (∃ w, Acc N s w ∧ w.length ≤ n) ∧ ∀ w w', Acc N s w → Acc N s w' → w.length = w'.length
def FirstO (N : Net C) (s : C) (y : List Int) : Prop := Acc N s y ∧ ∀ w, Acc N s w → w = y ∨ lexL y w
structure ShtIn (N : Net C) (s : C) (n : Nat) (txt : List Int) (cs : List C) : Prop where
  set : ∀ c, c ∈ cs ↔ Live N s n txt c
  ne : ∃ c, c ∈ cs
  min : ∀ w, Acc N s w → w.take txt.length = txt ∨ lexL txt (w.take txt.length)
theorem OneLen.le (h : OneLen N s n) {w : List Int} (hw : Acc N s w) : w.length ≤ n := by
  obtain ⟨w0, h0, h1⟩ := h.1
  rw [h.2 w w0 hw h0]; exact h1
theorem ShtIn.zero (h : Sr N s n 0 [([], cs)] []) (ho : OneLen N s n) : ShtIn N s n [] cs := by
  obtain ⟨w, hw, hl⟩ := ho.1
  rcases h with ⟨h, _⟩ | ⟨h, _⟩
  · exact ⟨h.set ([], cs) (by simp), h.ne ([], cs) (by simp), fun w _ => .inl rfl⟩
  · exact absurd hw (h.2 w hl)
theorem ShtIn.len (h : ShtIn N s n txt cs) : txt.length ≤ n := by
  obtain ⟨c, hc⟩ := h.ne
  obtain ⟨w, _, hl⟩ := ((h.set c).1 hc).acc
  rw [List.length_append] at hl; omega
theorem acc_of_live {c : C} (h : Live N s n txt c) (hd : N.dn c = true) : Acc N s txt := ⟨c, h.1, hd⟩
theorem acc_here (h : ShtIn N s n txt cs) (hl : txt.length ≤ n) (ha : Acc N s txt) : accP N (txt, cs) = true := by
  obtain ⟨d, h1, h2⟩ := ha
  rw [accP, List.any_eq_true]
  exact ⟨d, (h.set d).2 ⟨h1, [], ⟨d, .nil d, h2⟩, by simpa using hl⟩, h2⟩
theorem ShtIn.fin (h : ShtIn N s n txt cs) (ho : OneLen N s n) (ha : accP N (txt, cs) = true) : FirstO N s txt := by
  rw [accP, List.any_eq_true] at ha
  obtain ⟨c, hc, hd⟩ := ha
  have h0 : Acc N s txt := acc_of_live ((h.set c).1 hc) hd
  refine ⟨h0, fun w hw => ?_⟩
  have e : w.take txt.length = w := by rw [ho.2 txt w h0 hw, List.take_length]
  have := h.min w hw
  rwa [e] at this
theorem ShtIn.step (h : ShtIn N s n txt cs) (ho : OneLen N s n) (ha : accP N (txt, cs) = false) (hq : Nxt N s n txt qs) : ∃ q rest, qs = q :: rest ∧ ShtIn N s n q.1 q.2 ∧ ∃ r, q.1 = txt ++ [r] := by
  have hlen := h.len
  have hne : ∀ w, Acc N s w → w.take txt.length = txt → ∃ r, w.take (txt.length + 1) = txt ++ [r] ∧ ∃ q ∈ qs, q.1 = txt ++ [r] := fun w hw e => by
    cases hd : w.drop txt.length with
    | nil =>
      have e2 : w = txt := by
        have := List.take_append_drop txt.length w
        rw [e, hd, List.append_nil] at this; exact this.symm
      subst e2
      rw [acc_here h hlen hw] at ha; cases ha
    | cons r v =>
      have e2 : w = txt ++ r :: v := by
        have := List.take_append_drop txt.length w
        rw [e, hd] at this; exact this.symm
      have e3 : w = (txt ++ [r]) ++ v := by rw [e2]; simp
      have hl : w.length ≤ n := ho.le hw
      obtain ⟨c, hc⟩ := live_of (u := txt ++ [r]) (w := v) (by rw [← e3]; exact hw) (by rw [← e3]; exact hl)
      refine ⟨r, ?_, hq.mem r c hc⟩
      rw [e3, List.take_left' (by simp)]
  obtain ⟨c, hc⟩ := h.ne
  obtain ⟨w0, ha0, hl0⟩ := ((h.set c).1 hc).acc
  obtain ⟨r0, _, q0, hq0, _⟩ := hne _ ha0 (by simp)
  cases qs with
  | nil => simp at hq0
  | cons q rest =>
    obtain ⟨r, er⟩ := hq.pre q (by simp)
    have hs := hq.sorted
    rw [List.map_cons, List.pairwise_cons] at hs
    refine ⟨q, rest, rfl, ⟨hq.set q (by simp), hq.ne q (by simp), fun w hw => ?_⟩, r, er⟩
    have e1 : q.1.length = txt.length + 1 := by rw [er]; simp
    rw [e1]
    rcases h.min w hw with k | k
    · obtain ⟨r', e2, q', hq', e3⟩ := hne w hw k
      rw [e2, ← e3]
      rcases List.mem_cons.1 hq' with rfl | hq'
      · exact .inl rfl
      · exact .inr (hs.1 _ (List.mem_map.2 ⟨q', hq', rfl⟩))
    · right
      have hwl : w.length = (txt ++ w0).length := ho.2 _ _ hw ha0
      have hw0 : 0 < w0.length := by
        cases w0 with
        | nil => rw [List.append_nil] at ha0; rw [acc_here h hlen ha0] at ha; cases ha
        | cons => simp
      rw [List.length_append] at hwl
      have hlt : txt.length < w.length := by omega
      have e4 : w.take (txt.length + 1) = w.take txt.length ++ [w[txt.length]] := by rw [List.take_add_one, List.getElem?_eq_getElem hlt]; rfl
      rw [e4, er]
      exact lexL_snoc _ _ (by rw [List.length_take]; omega) k
end
end Go.Proofs.Ytfepjcmjkaolgaa.G

set_option linter.all false
namespace Go.Proofs.Ytfepjcmjkaolgaa.G
open Go Go.RowKit
section
variable {w0 w : World} {I0 I I' : Heap} {L : List Res}
/-- A box becomes immutable for a while, and is one's own again. -/
theorem Mem.frzBoxT (M : Mem w0 I0 I L w) (i : Nat) {b : Nat} {T : TypeId} {cs : List Value} (hi : L[i]? = some (box b T cs)) : ∃ I', Mem w0 I0 I' (L.eraseIdx i) w ∧ hle I I' ∧ I' b = some (.cells cs.toArray T (0, 0)) ∧ (w0.heap.size ≤ b ∧ I b = none) := by
  obtain ⟨h1, h2, h3⟩ := M.freeze i hi
  have hri := List.mem_of_getElem? hi
  have := M.own hri (List.mem_singleton.2 rfl)
  exact ⟨_, h1, h2, h3, this.1, this.2.2⟩
theorem Mem.thaw (M : Mem w0 I0 I' L w) (h : hle I I') (ho : ∀ b, b < w0.heap.size → I b = I0 b) {b : Nat} {T : TypeId} {cs : List Value} (hb : I' b = some (.cells cs.toArray T (0, 0))) (h0 : w0.heap.size ≤ b ∧ I b = none) : Mem w0 I0 I (box b T cs :: L) w := by
  have M2 := M.less h ho
  have hn : b ∉ L.flatMap Res.blks := fun hm => by
    have := (M.mine b hm).2.2
    rw [this] at hb; cases hb
  refine ⟨M2.below, M2.old, M2.imm, ?_, fun c hc => ?_, fun r hr => ?_, M2.dr⟩
  · rw [List.flatMap_cons]
    exact List.nodup_cons.2 ⟨hn, M2.nodup⟩
  · rw [List.flatMap_cons] at hc
    rcases List.mem_cons.1 hc with rfl | hc
    · exact ⟨h0.1, hle_lt M.imm hb, h0.2⟩
    · exact M2.mine c hc
  · rcases List.mem_cons.1 hr with rfl | hr
    · exact M.imm _ _ hb
    · exact M2.holds r hr
end
def usF (t : Tra) (bs : List Bool) : Tra := ⟨t.states, t.start, t.finals, t.arcs.filter fun x => bs.getD x.src.toNat false⟩
def IsU (t u : Tra) : Prop := ∃ (m : Nat) (bs : List Bool) (l1 l2 : List Int), t.Ok m ∧ bs.length = m ∧ (∀ s, bt bs s ↔ Reach (stp t true) (· ∈ [t.start]) s) ∧ LeaOk (usF t bs) costA m l1 ∧ LeaOk (tgt (usF t bs) costA l1) readA m l2 ∧ u = tgt (tgt (usF t bs) costA l1) readA l2
/-- The answer of Shortest. -/
def ShtP (t : Tra) (x y : ByteArray) (b : Bool) : Prop :=
  (emptyS t = true → x = ⟨#[]⟩ ∧ y = ⟨#[]⟩ ∧ b = false) ∧ (emptyS t = false → b = true ∧ ∃ u xs ys, IsU t u ∧ Greedy u xs ∧ FirstO (tnet u xs) ⟨u.start, 0⟩ ys ∧ x = strL xs ∧ y = strL ys)
/-- All outputs of the first input have the same length. -/
def ShtH (t : Tra) : Prop := emptyS t = false → ∀ u xs, IsU t u → Greedy u xs → OneLen (tnet u xs) ⟨u.start, 0⟩ 1024
theorem Tra.Ok.sub {t u : Tra} {m : Nat} (h : t.Ok m) (h1 : u.states = t.states) (h2 : u.start = t.start) {p : Arc → Bool} (h3 : u.arcs = t.arcs.filter p) : u.Ok m :=
  ⟨by rw [h1]; exact h.st, h.pos, h.le, by rw [h2]; exact h.start, fun x hx => h.arcs x (by rw [h3] at hx; exact (List.mem_filter.1 hx).1), by rw [h3]; exact Nat.le_trans (List.length_filter_le _ _) h.alen⟩
theorem usF_ok {t : Tra} {m : Nat} (h : t.Ok m) {bs : List Bool} : (usF t bs).Ok m := h.sub rfl rfl rfl
theorem tgt_ok {t : Tra} {m : Nat} (h : t.Ok m) {w : Arc → Int} {l : List Int} : (tgt t w l).Ok m := h.sub rfl rfl rfl
theorem tgt_pot {t : Tra} {l : List Int} : PotR (tgt t readA l) (lat l) := fun x hx => by
  have := mem_tgt.1 hx
  exact ⟨this.2.2, this.2.1⟩
theorem bs_of {bs : List Bool} {m : Nat} {K : List Int} (hl : bs.length = m) (h : ∀ s, bt bs s ↔ s ∈ K) : bs = (List.range m).map fun (i : Nat) => decide ((i : Int) ∈ K) := by
  refine List.ext_getElem (by simp [hl]) fun i h1 h2 => ?_
  rw [List.getElem_map, List.getElem_range, Bool.eq_iff_iff, decide_eq_true_eq, ← h]
  unfold bt
  rw [Int.toNat_natCast, List.getElem?_eq_getElem h1]
  simp
/-! nets of a few places -/
section
variable {C : Type} {N : Net C} {c d e : C} {w : List Int} {r : Int}
theorem wlk_cs (h : Wlk N c w e) : (w = [] ∧ e = c) ∨ (∃ d ∈ N.sil c, Wlk N d w e) ∨ ∃ r d v, (r, d) ∈ N.spk c ∧ w = r :: v ∧ Wlk N d v e := by
  cases h with
  | nil => exact .inl ⟨rfl, rfl⟩
  | sil h1 h2 => exact .inr (.inl ⟨_, h1, h2⟩)
  | spk h1 h2 => exact .inr (.inr ⟨_, _, _, h1, rfl, h2⟩)
theorem acc_end (hs : N.sil c = []) (hp : N.spk c = []) (hd : N.dn c = true) : Acc N c w ↔ w = [] := by
  constructor
  · rintro ⟨e, h, _⟩
    rcases wlk_cs h with ⟨h, _⟩ | ⟨d, h1, _⟩ | ⟨_, _, _, h1, _⟩
    · exact h
    · rw [hs] at h1; simp at h1
    · rw [hp] at h1; simp at h1
  · rintro rfl; exact ⟨c, .nil c, hd⟩
theorem acc_sil (hs : N.sil c = [d]) (hp : N.spk c = []) (hd : N.dn c = false) : Acc N c w ↔ Acc N d w := by
  constructor
  · rintro ⟨e, h, he⟩
    rcases wlk_cs h with ⟨_, rfl⟩ | ⟨d', h1, h2⟩ | ⟨_, _, _, h1, _⟩
    · rw [hd] at he; cases he
    · rw [hs] at h1; rw [List.mem_singleton.1 h1] at h2; exact ⟨e, h2, he⟩
    · rw [hp] at h1; simp at h1
  · rintro ⟨e, h, he⟩; exact ⟨e, .sil (by rw [hs]; simp) h, he⟩
theorem acc_spk (hs : N.sil c = []) (hp : N.spk c = [(r, d)]) (hd : N.dn c = false) : Acc N c w ↔ ∃ v, w = r :: v ∧ Acc N d v := by
  constructor
  · rintro ⟨e, h, he⟩
    rcases wlk_cs h with ⟨_, rfl⟩ | ⟨d', h1, h2⟩ | ⟨r', d', v, h1, h2, h3⟩
    · rw [hd] at he; cases he
    · rw [hs] at h1; simp at h1
    · rw [hp, List.mem_singleton, Prod.mk.injEq] at h1
      rw [h1.1] at h2; rw [h1.2] at h3; exact ⟨v, h2, e, h3, he⟩
  · rintro ⟨v, rfl, e, h, he⟩; exact ⟨e, .spk (by rw [hp]; simp) h, he⟩
end
end Go.Proofs.Ytfepjcmjkaolgaa.G

set_option linter.all false
namespace Go.Proofs.Ytfepjcmjkaolgaa.G
open Go Go.RowKit
section
variable {t : Tra} {w : Arc → Int} {W : List Int → List Int → Int} {m : Nat} {l : List Int} {p q : Int} {xs ys : List Int}
/-! reading greedily -/
end
end Go.Proofs.Ytfepjcmjkaolgaa.G
