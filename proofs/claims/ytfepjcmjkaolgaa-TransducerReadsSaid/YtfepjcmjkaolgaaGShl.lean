/- The pair that Shortest answers is the first of all. Plain Lean. -/
import Derived.Test.YtfepjcmjkaolgaaGShu
set_option linter.all false
namespace Go.Proofs.Ytfepjcmjkaolgaa.G
open Go Go.RowKit
structure IsW (w : Arc → Int) (W : List Int → List Int → Int) : Prop where
  nil : W [] [] = 0
  cons : ∀ (x : Arc) (us vs : List Int), W (lab x.inp ++ us) (lab x.out ++ vs) = w x + W us vs
def costW (xs ys : List Int) : Int := (xs.length : Int) + ys.length
def readW (xs _ys : List Int) : Int := (xs.length : Int)
theorem lab_len (r : Int) : ((lab r).length : Int) = if r = 0 then 0 else 1 := by unfold lab; split <;> rfl
theorem isW_cost : IsW costA costW := ⟨rfl, fun x us vs => by
  simp only [costW, costA, List.length_append, Int.natCast_add, lab_len]; omega⟩
theorem isW_read : IsW readA readW := ⟨rfl, fun x us vs => by
  simp only [readW, readA, List.length_append, Int.natCast_add, lab_len]⟩
section
variable {t : Tra} {w : Arc → Int} {W : List Int → List Int → Int} {m : Nat} {l : List Int} {p q : Int} {xs ys : List Int}
theorem run_pth (hW : IsW w W) (h : Run t p xs ys q) (hq : q ∈ t.finals) : Pth t w p (W xs ys) := by
  induction h with
  | nil => rw [hW.nil]; exact .base hq
  | @cons x us vs q hx _ ih =>
    rw [hW.cons, Int.add_comm]; exact .step hx (ih hq)
theorem pth_run (hW : IsW w W) {c : Int} (h : Pth t w p c) : ∃ xs ys f, f ∈ t.finals ∧ Run t p xs ys f ∧ c = W xs ys := by
  induction h with
  | @base f hf => exact ⟨[], [], f, hf, .nil f, hW.nil.symm⟩
  | @step x c hx _ ih =>
    obtain ⟨xs, ys, f, hf, hr, rfl⟩ := ih
    exact ⟨_, _, f, hf, .cons hx hr, by rw [hW.cons, Int.add_comm]⟩
theorem tgt_to (hW : IsW w W) (h : Run (tgt t w l) p xs ys q) : lat l p = W xs ys + lat l q ∧ Run t p xs ys q := by
  induction h with
  | nil p => exact ⟨by rw [hW.nil, Int.zero_add], .nil p⟩
  | @cons x us vs q hx _ ih =>
    have hx' := mem_tgt.1 hx
    refine ⟨?_, .cons hx'.1 ih.2⟩
    rw [hW.cons, hx'.2.2, ih.1]; omega
theorem tgt_of (hW : IsW w W) (hx0 : ∀ x ∈ t.arcs, 0 ≤ x.src ∧ 0 ≤ x.dst) (ho : LeaOk t w m l) (h : Run t p xs ys q) (hq : q ∈ t.finals) : W xs ys = lat l p → Run (tgt t w l) p xs ys q := by
  induction h with
  | nil p => intro _; exact .nil p
  | @cons x us vs q hx hr ih =>
    intro e
    rw [hW.cons] at e
    have hd := ho.cmp _ _ (run_pth hW hr hq)
    have hs := ho.cmp _ _ (Pth.step hx (ho.snd _ (hx0 x hx).2 hd.1))
    exact .cons (mem_tgt.2 ⟨hx, hd.1, by omega⟩) (ih hq (by omega))
theorem rel_tgt (hW : IsW w W) (hx0 : ∀ x ∈ t.arcs, 0 ≤ x.src ∧ 0 ≤ x.dst) (ho : LeaOk t w m l) : Rel (tgt t w l) xs ys ↔ Rel t xs ys ∧ W xs ys = lat l t.start := by
  constructor
  · rintro ⟨f, hf, hr⟩
    obtain ⟨h1, h2⟩ := tgt_to hW hr
    have h3 := ho.fin f hf
    exact ⟨⟨f, hf, h2⟩, by have h4 : lat l t.start = W xs ys + lat l f := h1; omega⟩
  · rintro ⟨⟨f, hf, hr⟩, e⟩
    exact ⟨f, hf, tgt_of hW hx0 ho hr hf e⟩
theorem tgt_co (hW : IsW w W) (hx0 : ∀ x ∈ t.arcs, 0 ≤ x.src ∧ 0 ≤ x.dst) (ho : LeaOk t w m l) (hp : 0 ≤ p) (h : 0 ≤ lat l p) : ∃ us vs f, f ∈ t.finals ∧ Run (tgt t w l) p us vs f := by
  obtain ⟨us, vs, f, hf, hr, e⟩ := pth_run hW (ho.snd p hp h)
  exact ⟨us, vs, f, hf, tgt_of hW hx0 ho hr hf e.symm⟩
theorem usF_to {bs : List Bool} (h : Run (usF t bs) p xs ys q) : Run t p xs ys q := by
  induction h with
  | nil p => exact .nil p
  | cons hx _ ih => exact .cons (List.mem_filter.1 hx).1 ih
theorem usF_of {bs : List Bool} (hx0 : ∀ x ∈ t.arcs, 0 ≤ x.src ∧ 0 ≤ x.dst) (hb : ∀ s, bt bs s ↔ Reach (stp t true) (· ∈ [t.start]) s) (h : Run t p xs ys q) : Reach (stp t true) (· ∈ [t.start]) p → Run (usF t bs) p xs ys q := by
  induction h with
  | nil p => intro _; exact .nil p
  | @cons x us vs q hx _ ih =>
    intro hp
    refine .cons (List.mem_filter.2 ⟨hx, getD_bt.2 ?_⟩) (ih (up_arc hx hp))
    rw [Int.toNat_of_nonneg (hx0 x hx).1]; exact (hb _).2 hp
theorem rel_usF {bs : List Bool} (hx0 : ∀ x ∈ t.arcs, 0 ≤ x.src ∧ 0 ≤ x.dst) (hb : ∀ s, bt bs s ↔ Reach (stp t true) (· ∈ [t.start]) s) : Rel (usF t bs) xs ys ↔ Rel t xs ys :=
  ⟨fun ⟨f, hf, hr⟩ => ⟨f, hf, usF_to hr⟩, fun ⟨f, hf, hr⟩ => ⟨f, hf, usF_of hx0 hb hr (up_start t)⟩⟩
/-! reading greedily -/
theorem rd_run {u : Tra} {a : List Int} {s : Int} (h : Rd u a s) : ∃ b, Run u u.start a b s := by
  induction h with
  | start => exact ⟨[], .nil _⟩
  | eps _ hx h0 ih =>
    obtain ⟨b, hr⟩ := ih
    have := hr.snoc hx rfl
    rw [h0, lab_zero, List.append_nil] at this
    exact ⟨_, this⟩
  | read _ hx h0 ih =>
    obtain ⟨b, hr⟩ := ih
    have := hr.snoc hx rfl
    rw [lab_ne h0] at this
    exact ⟨_, this⟩
theorem run_silent {u : Tra} {a us vs : List Int} {s f : Int} (h : Run u s us vs f) (hg : ∀ r, GoesR u a r → r = 0) : Rd u a s → us = [] := by
  induction h with
  | nil => intro _; rfl
  | @cons x us vs q hx _ ih =>
    intro hd
    have h0 := hg x.inp ⟨x, hx, hd, rfl⟩
    rw [h0, lab_zero, List.nil_append]
    exact ih (.eps hd hx h0)
theorem run_goes {u : Tra} {s f : Int} {a b : List Int} (h : Run u s a b f) : ∀ {w0 w v : List Int} {r : Int}, Rd u w0 s → a = w ++ r :: v → GoesR u (w0 ++ w) r ∧ r ≠ 0 := by
  induction h with
  | nil => intro w0 w v r _ e; simp at e
  | @cons x us vs q hx _ ih =>
    intro w0 w v r hd e
    by_cases h0 : x.inp = 0
    · rw [h0, lab_zero, List.nil_append] at e
      exact ih (.eps hd hx h0) e
    · rw [lab_ne h0] at e
      cases w with
      | nil =>
        obtain ⟨e1, e2⟩ := List.cons.inj (show x.inp :: us = r :: v from e)
        rw [List.append_nil]
        exact ⟨⟨x, hx, hd, e1⟩, e1 ▸ h0⟩
      | cons c w =>
        obtain ⟨e1, e2⟩ := List.cons.inj (show x.inp :: us = c :: (w ++ r :: v) from e)
        have := ih (.read hd hx h0) e2
        rw [← e1, show w0 ++ x.inp :: w = w0 ++ [x.inp] ++ w by simp]
        exact this
theorem greedy_min {u : Tra} {a b xs : List Int} (hg : Greedy u xs) (h : Rel u a b) (hl : a.length = xs.length) : a = xs ∨ lexL xs a := by
  obtain ⟨f, _, hr⟩ := h
  have key : ∀ k, k ≤ xs.length → a.take k = xs.take k ∨ lexL (xs.take k) (a.take k) := fun k => by
    induction k with
    | zero => intro _; exact .inl rfl
    | succ k ih =>
      intro hk
      have hx : xs[k]? = some (xs[k]'(by omega)) := List.getElem?_eq_getElem (by omega)
      have ha : a[k]? = some (a[k]'(by omega)) := List.getElem?_eq_getElem (by omega)
      rw [take_snoc hx, take_snoc ha]
      rcases ih (by omega) with e | e
      · obtain ⟨h1, h2⟩ := hg.1 k _ hx
        have e2 : a = xs.take k ++ (a[k]'(by omega)) :: a.drop (k + 1) := by
          rw [← e]
          have := (List.take_append_drop k a).symm
          rw [drop_cons ha] at this; exact this
        obtain ⟨h3, h4⟩ := run_goes hr .start e2
        rw [List.nil_append] at h3
        have h5 := (h2.2 _ h3 h4).2
        rw [e]
        by_cases e3 : xs[k]'(by omega) = a[k]'(by omega)
        · left; rw [e3]
        · right; exact lexL_last _ (by omega)
      · right
        exact lexL_snoc _ _ (by rw [List.length_take, List.length_take]; omega) e
  have := key xs.length (Nat.le_refl _)
  rw [List.take_length, ← hl, List.take_length] at this
  exact this
end
/-- Before, or the same. -/
def PairLe (xs ys a b : List Int) : Prop := xs.length + ys.length < a.length + b.length ∨ (xs.length + ys.length = a.length + b.length ∧ (xs.length < a.length ∨ (xs.length = a.length ∧ (lexL xs a ∨ (xs = a ∧ (ys = b ∨ lexL ys b))))))
theorem isU_rel {t u : Tra} (h : IsU t u) : ∃ D1 D2 : Int, D1 ≤ 2 * t.states ∧ (∀ xs ys, Rel u xs ys ↔ Rel t xs ys ∧ costW xs ys = D1 ∧ readW xs ys = D2) ∧ (∀ a b, Rel t a b → D1 ≤ costW a b) ∧ (∀ a b, Rel t a b → costW a b = D1 → D2 ≤ readW a b) ∧ ((∃ a b, Rel t a b) → ∀ s a, Rd u a s → ∃ us vs f, f ∈ u.finals ∧ Run u s us vs f) := by
  obtain ⟨m, bs, l1, l2, ha, hl, hb, h1, h2, rfl⟩ := h
  have hx0 : ∀ x ∈ t.arcs, 0 ≤ x.src ∧ 0 ≤ x.dst := fun x hx => ⟨(ha.arcs x hx).1.1, (ha.arcs x hx).2.1⟩
  have hx1 : ∀ x ∈ (usF t bs).arcs, 0 ≤ x.src ∧ 0 ≤ x.dst := fun x hx => hx0 x (List.mem_filter.1 hx).1
  have hx2 : ∀ x ∈ (tgt (usF t bs) costA l1).arcs, 0 ≤ x.src ∧ 0 ≤ x.dst := fun x hx => hx1 x (List.mem_filter.1 hx).1
  have r1 : ∀ xs ys, Rel (tgt (usF t bs) costA l1) xs ys ↔ Rel t xs ys ∧ costW xs ys = lat l1 t.start := fun xs ys => by rw [rel_tgt isW_cost hx1 h1, rel_usF hx0 hb]; rfl
  have r2 : ∀ xs ys, Rel (tgt (tgt (usF t bs) costA l1) readA l2) xs ys ↔ Rel t xs ys ∧ costW xs ys = lat l1 t.start ∧ readW xs ys = lat l2 t.start := fun xs ys => by rw [rel_tgt isW_read hx2 h2, r1, and_assoc]; rfl
  have c1 : ∀ a b, Rel t a b → 0 ≤ lat l1 t.start ∧ lat l1 t.start ≤ costW a b := fun a b hr => by
    obtain ⟨f, hf, hr⟩ := (rel_usF hx0 hb).2 hr
    exact h1.cmp _ _ (run_pth isW_cost hr hf)
  have c2 : ∀ a b, Rel t a b → costW a b = lat l1 t.start → 0 ≤ lat l2 t.start ∧ lat l2 t.start ≤ readW a b := fun a b hr e => by
    obtain ⟨f, hf, hr⟩ := (r1 a b).2 ⟨hr, e⟩
    exact h2.cmp _ _ (run_pth isW_read hr hf)
  refine ⟨lat l1 t.start, lat l2 t.start, by rw [ha.st]; exact h1.bnd _, r2, fun a b hr => (c1 a b hr).2, fun a b hr e => (c2 a b hr e).2, fun ⟨a, b, hr⟩ s w hd => ?_⟩
  obtain ⟨us, vs, f, hf, hru⟩ := tgt_co isW_cost hx1 h1 ha.start.1 (c1 a b hr).1
  have hr1 := (r1 us vs).1 ⟨f, hf, hru⟩
  have h0 := (c2 us vs hr1.1 hr1.2).1
  have hs : 0 ≤ s ∧ 0 ≤ lat l2 s := by
    cases hd with
    | start => exact ⟨ha.start.1, h0⟩
    | eps _ hx _ => exact ⟨(hx2 _ (mem_tgt.1 hx).1).2, (mem_tgt.1 hx).2.1⟩
    | read _ hx _ => exact ⟨(hx2 _ (mem_tgt.1 hx).1).2, (mem_tgt.1 hx).2.1⟩
  exact tgt_co isW_read hx2 h2 hs.1 hs.2
theorem dn_rel3 {t : Tra} : dnB t = true ↔ ∃ xs ys, Rel t xs ys := by
  simp only [dnB, decide_eq_true_eq]
  constructor
  · intro h
    suffices H : ∀ s, Reach (stp t false) (· ∈ t.finals) s → ∃ f ∈ t.finals, ∃ xs ys, Run t s xs ys f by
      obtain ⟨f, hf, xs, ys, hr⟩ := H _ h
      exact ⟨xs, ys, f, hf, hr⟩
    intro s h
    induction h with
    | base h => exact ⟨_, h, [], [], .nil _⟩
    | tail _ hy ih =>
      obtain ⟨f, hf, xs, ys, hr⟩ := ih
      obtain ⟨x, hx, h1, rfl⟩ := mem_stp.1 hy
      exact ⟨f, hf, _, _, .cons' hx rfl (by rw [show x.dst = _ from h1]; exact hr) rfl rfl⟩
  · rintro ⟨xs, ys, f, hf, h⟩
    exact coreach_run h (.base hf)
theorem ne_rel {t : Tra} (h : emptyS t = false) : ∃ a b, Rel t a b := by
  have : dnB t = true := by
    cases hd : dnB t with
    | true => rfl
    | false => rw [emptyS, hd] at h; simp at h
  exact dn_rel3.1 this
theorem greedy_rel {t u : Tra} (hn : ∃ a b, Rel t a b) (hu : IsU t u) {xs : List Int} (hg : Greedy u xs) : ∃ s, Rd u xs s := by
  suffices ∀ k, k ≤ xs.length → ∃ s, Rd u (xs.take k) s by
    have := this xs.length (Nat.le_refl _)
    rwa [List.take_length] at this
  intro k
  induction k with
  | zero => intro _; exact ⟨_, .start⟩
  | succ k ih =>
    intro hk
    have hx : xs[k]? = some (xs[k]'(by omega)) := List.getElem?_eq_getElem (by omega)
    obtain ⟨h1, h2⟩ := hg.1 k _ hx
    obtain ⟨x, hxa, hd, e⟩ := h2.1 h1
    rw [take_snoc hx]
    exact ⟨x.dst, by rw [← e]; exact .read hd hxa (by rw [e]; exact h1)⟩
theorem sht_rel {t u : Tra} (he : emptyS t = false) (hu : IsU t u) {xs : List Int} (hg : Greedy u xs) : ∃ ys, Rel u xs ys := by
  have hn := ne_rel he
  obtain ⟨D1, D2, _, hR, _, _, hco⟩ := isU_rel hu
  obtain ⟨s, hd⟩ := greedy_rel hn hu hg
  obtain ⟨us, vs, f, hf, hr⟩ := hco hn s xs hd
  obtain ⟨b, hr0⟩ := rd_run hd
  have e := run_silent hr hg.2 hd
  subst e
  refine ⟨b ++ vs, f, hf, ?_⟩
  have := hr0.trans hr
  rwa [List.append_nil] at this
/-- All outputs of the first input have the same length. -/
theorem sht_h {t : Tra} : ShtH t := fun he u xs hu hg => by
  obtain ⟨ys, hy⟩ := sht_rel he hu hg
  obtain ⟨D1, D2, hb, hR, _, _, _⟩ := isU_rel hu
  have hst : t.states ≤ 512 := by
    obtain ⟨m, _, _, _, ha, _⟩ := hu
    have := ha.le; have := ha.st; omega
  have hlen : ∀ w, Acc (tnet u xs) ⟨u.start, 0⟩ w → (xs.length : Int) + w.length = D1 := fun w hw => ((hR xs w).1 (acc_rel.1 hw)).2.1
  refine ⟨⟨ys, acc_rel.2 hy, ?_⟩, fun w w' h h' => ?_⟩
  · have := hlen ys (acc_rel.2 hy); omega
  · have h1 := hlen w h; have h2 := hlen w' h'; omega
/-- The pair is the first. -/
theorem sht_first {t u : Tra} {xs ys : List Int} (he : emptyS t = false) (hu : IsU t u) (hg : Greedy u xs) (hf : FirstO (tnet u xs) ⟨u.start, 0⟩ ys) : Rel t xs ys ∧ ((xs.length : Int) + ys.length ≤ 2 * t.states) ∧ ∀ a b, Rel t a b → PairLe xs ys a b := by
  obtain ⟨D1, D2, hb, hR, h1, h2, _⟩ := isU_rel hu
  obtain ⟨k1, k2, k3⟩ := (hR xs ys).1 (acc_rel.1 hf.1)
  have k2' : (xs.length : Int) + ys.length = D1 := k2
  have k3' : (xs.length : Int) = D2 := k3
  refine ⟨k1, by omega, fun a b hr => ?_⟩
  have c1 := h1 a b hr
  have c1' : D1 ≤ (a.length : Int) + b.length := c1
  by_cases e : costW a b = D1
  · have e' : (a.length : Int) + b.length = D1 := e
    refine .inr ⟨by omega, ?_⟩
    have c2' : D2 ≤ (a.length : Int) := h2 a b hr e
    by_cases e2 : (a.length : Int) = D2
    · refine .inr ⟨by omega, ?_⟩
      have hra : Rel u a b := (hR a b).2 ⟨hr, e, e2⟩
      rcases greedy_min hg hra (by omega) with e3 | e3
      · right
        subst e3
        refine ⟨rfl, ?_⟩
        rcases hf.2 b (acc_rel.2 hra) with e4 | e4
        · exact .inl e4.symm
        · exact .inr e4
      · exact .inl e3
    · exact .inl (by omega)
  · have e' : ¬ (a.length : Int) + b.length = D1 := e
    exact .inl (by omega)
end Go.Proofs.Ytfepjcmjkaolgaa.G
