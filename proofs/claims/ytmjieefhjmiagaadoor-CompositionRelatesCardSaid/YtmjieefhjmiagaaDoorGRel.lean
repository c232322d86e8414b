/- What a transducer relates: paths. Composition, trimming. Plain Lean. -/
import Derived.Test.YtmjieefhjmiagaaDoorGPl
set_option linter.all false
namespace Go.Proofs.YtmjieefhjmiagaaDoor.G
open Go Go.RowKit Go.Sort Go.Shelf
def lab (r : Int) : List Int := if r = 0 then [] else [r]
theorem lab_zero : lab 0 = [] := rfl
theorem lab_ne {r : Int} (h : r ≠ 0) : lab r = [r] := by simp [lab, h]
/-- A path of t from a state to a state, with what it reads and writes. -/
inductive Run (t : Tra) : Int → List Int → List Int → Int → Prop
  | nil (p : Int) : Run t p [] [] p
  | cons {x : Arc} {xs ys : List Int} {q : Int} : x ∈ t.arcs → Run t x.dst xs ys q → Run t x.src (lab x.inp ++ xs) (lab x.out ++ ys) q
def Rel (t : Tra) (xs ys : List Int) : Prop := ∃ f ∈ t.finals, Run t t.start xs ys f
section
variable {t : Tra} {p q r : Int} {xs ys us vs : List Int}
theorem Run.cons' {x : Arc} (hx : x ∈ t.arcs) (hp : x.src = p) (hr : Run t x.dst us vs q) (h1 : xs = lab x.inp ++ us) (h2 : ys = lab x.out ++ vs) : Run t p xs ys q := by
  subst hp h1 h2; exact .cons hx hr
theorem Run.trans (h : Run t p xs ys q) (k : Run t q us vs r) : Run t p (xs ++ us) (ys ++ vs) r := by
  induction h with
  | nil => exact k
  | cons hx _ ih => exact .cons' hx rfl (ih k) (by simp) (by simp)
theorem Run.one {x : Arc} (hx : x ∈ t.arcs) : Run t x.src (lab x.inp) (lab x.out) x.dst := .cons' hx rfl (.nil _) (by simp) (by simp)
theorem Run.snoc {x : Arc} (h : Run t p xs ys q) (hx : x ∈ t.arcs) (hq : x.src = q) : Run t p (xs ++ lab x.inp) (ys ++ lab x.out) x.dst := by
  subst hq; exact h.trans (.one hx)
end
/-! ### the search over places -/
def fitB (l : List Int) (k : Int) (r : Int) : Bool := decide (r = 0) || decide (l[k.toNat]? = some r)
def plN (t : Tra) (xs ys : List Int) (c : Place) : List Place := ((t.outs c.state).filter fun x => fitB xs c.inn x.inp && fitB ys c.out x.out).map fun x => ⟨x.dst, eatK c.inn.toNat x.inp, eatK c.out.toNat x.out⟩
theorem mem_plN {t : Tra} {xs ys : List Int} {c d : Place} : d ∈ plN t xs ys c ↔ ∃ x ∈ t.arcs, x.src = c.state ∧ fitB xs c.inn x.inp = true ∧ fitB ys c.out x.out = true ∧ d = ⟨x.dst, eatK c.inn.toNat x.inp, eatK c.out.toNat x.out⟩ := by
  simp only [plN, Tra.outs, List.mem_map, List.mem_filter, decide_eq_true_eq, Bool.and_eq_true]
  constructor
  · rintro ⟨x, ⟨⟨h1, h2⟩, h3, h4⟩, rfl⟩; exact ⟨x, h1, h2, h3, h4, rfl⟩
  · rintro ⟨x, h1, h2, h3, h4, rfl⟩; exact ⟨x, ⟨⟨h1, h2⟩, h3, h4⟩, rfl⟩
theorem fit_take {l : List Int} {i : Nat} {r : Int} (h : fitB l (i : Int) r = true) (hi : i ≤ l.length) : ∃ k : Nat, eatK i r = (k : Int) ∧ k ≤ l.length ∧ l.take k = l.take i ++ lab r := by
  simp only [fitB, Bool.or_eq_true, decide_eq_true_eq, Int.toNat_natCast] at h
  by_cases h0 : r = 0
  · subst h0; exact ⟨i, by simp [eatK], hi, by simp [lab]⟩
  · have h1 := h.resolve_left h0
    refine ⟨i + 1, by simp [eatK, h0], ?_, by rw [take_snoc h1, lab_ne h0]⟩
    have := (List.getElem?_eq_some_iff.1 h1).1; omega
theorem fit_drop {l u u' : List Int} {i : Nat} {r : Int} (h : l.drop i = (lab r ++ u) ++ u') : fitB l (i : Int) r = true ∧ ∃ k : Nat, eatK i r = (k : Int) ∧ l.drop k = u ++ u' := by
  by_cases h0 : r = 0
  · subst h0; exact ⟨by simp [fitB], i, by simp [eatK], by simpa [lab] using h⟩
  · rw [lab_ne h0] at h
    have h1 : l[i]? = some r := by
      have := congrArg (fun l => l[0]?) h
      simpa [List.getElem?_drop] using this
    refine ⟨by simp [fitB, h1], i + 1, by simp [eatK, h0], ?_⟩
    have := congrArg (List.drop 1) h
    simpa [List.drop_drop] using this
theorem pl_run {t : Tra} {xs ys : List Int} {s : Int} {c : Place} (h : Reach (plN t xs ys) (· = ⟨s, 0, 0⟩) c) : ∃ i j : Nat, c.inn = (i : Int) ∧ c.out = (j : Int) ∧ i ≤ xs.length ∧ j ≤ ys.length ∧ Run t s (xs.take i) (ys.take j) c.state := by
  induction h with
  | base h => subst h; exact ⟨0, 0, rfl, rfl, by omega, by omega, by simpa using Run.nil _⟩
  | @tail c d _ hd ih =>
    obtain ⟨i, j, h1, h2, h3, h4, hr⟩ := ih
    obtain ⟨x, hx, hs, hf, hg, rfl⟩ := mem_plN.1 hd
    rw [h1] at hf; rw [h2] at hg
    obtain ⟨k, e1, e2, e3⟩ := fit_take hf h3
    obtain ⟨l, e4, e5, e6⟩ := fit_take hg h4
    refine ⟨k, l, by simp only [h1, Int.toNat_natCast]; exact e1, by simp only [h2, Int.toNat_natCast]; exact e4, e2, e5, ?_⟩
    rw [e3, e6]
    exact hr.snoc hx hs
theorem run_pl {t : Tra} {xs ys : List Int} {p q : Int} {u v : List Int} (h : Run t p u v q) : ∀ {S : Place → Prop} {i j : Nat} {u' v' : List Int}, xs.drop i = u ++ u' → ys.drop j = v ++ v' → Reach (plN t xs ys) S ⟨p, i, j⟩ → ∃ k l : Nat, xs.drop k = u' ∧ ys.drop l = v' ∧ Reach (plN t xs ys) S ⟨q, k, l⟩ := by
  induction h with
  | nil => intro S i j u' v' h1 h2 h3; exact ⟨i, j, by simpa using h1, by simpa using h2, h3⟩
  | @cons x us vs q hx _ ih =>
    intro S i j u' v' h1 h2 h3
    obtain ⟨f1, k, e1, e2⟩ := fit_drop h1
    obtain ⟨f2, l, e3, e4⟩ := fit_drop h2
    refine ih e2 e4 (.tail h3 (mem_plN.2 ⟨x, hx, rfl, f1, f2, ?_⟩))
    simp only [Int.toNat_natCast, e1, e3]
theorem pl_iff {t : Tra} {xs ys : List Int} {s f : Int} : Reach (plN t xs ys) (· = ⟨s, 0, 0⟩) ⟨f, xs.length, ys.length⟩ ↔ Run t s xs ys f := by
  constructor
  · intro h
    obtain ⟨i, j, h1, h2, h3, h4, hr⟩ := pl_run h
    simp only [] at h1 h2 hr
    have e1 : i = xs.length := by omega
    have e2 : j = ys.length := by omega
    subst e1 e2
    simpa using hr
  · intro h
    obtain ⟨k, l, h1, h2, h3⟩ := run_pl (xs := xs) (ys := ys) h (S := (· = ⟨s, 0, 0⟩)) (i := 0) (j := 0) (u' := []) (v' := []) (by simp) (by simp) (.base rfl)
    obtain ⟨i, j, e1, e2, e3, e4, _⟩ := pl_run h3
    simp only [] at e1 e2
    have h1' : xs.length ≤ k := by simpa using h1
    have h2' : ys.length ≤ l := by simpa using h2
    have a1 : k = xs.length := by omega
    have a2 : l = ys.length := by omega
    rw [a1, a2] at h3
    exact h3
/-- Whether t relates xs to ys, by the search. -/
theorem rel_iff {t : Tra} {xs ys : List Int} : Rel t xs ys ↔ ∃ f ∈ t.finals, Reach (plN t xs ys) (· = ⟨t.start, 0, 0⟩) ⟨f, xs.length, ys.length⟩ :=
  exists_congr fun f => and_congr_right fun _ => pl_iff.symm
/-! ### the raw composition -/
section
variable {a b : Tra} {m n : Nat}
theorem raw_split (ha : a.Ok m) (hb : b.Ok n) {k l : Int} {xs zs : List Int} (h : Run (rawT a b) k xs zs l) : ∀ s ∈ rect m n, enc n s = k → ∃ s' ∈ rect m n, enc n s' = l ∧ ∃ ys, Run a s.p xs ys s'.p ∧ Run b s.q ys zs s'.q := by
  induction h with
  | nil k => intro s hs e; exact ⟨s, hs, e, [], .nil _, .nil _⟩
  | @cons x us vs l hx _ ih =>
    intro s hs e
    obtain ⟨s1, hs1, ed, he, rfl⟩ := (raw_iff ha hb).1 hx
    have hsrc := mem_compE_src he
    have : s1 = s := enc_inj hs1 hs (by rw [← hsrc]; exact e.symm)
    subst this
    have hdr : ed.dst ∈ rect m n := compN_in ha hb hs1 (List.mem_map.2 ⟨ed, he, rfl⟩)
    obtain ⟨s', hs', e', ys, r1, r2⟩ := ih ed.dst hdr rfl
    refine ⟨s', hs', e', ?_⟩
    rcases mem_compE.1 he with ⟨x, hax, hsp, h0, rfl⟩ | ⟨x, hax, y, hy, hsp, hsq, h0, h1, rfl⟩ | ⟨y, hy, hsq, h0, rfl⟩
    · exact ⟨ys, .cons' hax hsp r1 rfl (by rw [h0]; rfl), r2⟩
    · exact ⟨lab x.out ++ ys, .cons' hax hsp r1 rfl rfl, .cons' hy hsq r2 (by rw [h1]) rfl⟩
    · exact ⟨ys, r1, .cons' hy hsq r2 (by rw [h0]; rfl) rfl⟩
theorem enc_run (ha : a.Ok m) (hb : b.Ok n) {s : Pair} (hs : s ∈ rect m n) {e : Edge} (he : e ∈ compE a b s) {k : Int} {xs zs us vs : List Int} (hr : Run (rawT a b) (enc n e.dst) us vs k) (h1 : xs = lab e.inp ++ us) (h2 : zs = lab e.out ++ vs) : Run (rawT a b) (enc n s) xs zs k :=
  .cons' (x := encA n e) ((raw_iff ha hb).2 ⟨s, hs, e, he, rfl⟩) (by show enc n e.src = _; rw [mem_compE_src he]) hr h1 h2
theorem raw_b (ha : a.Ok m) (hb : b.Ok n) {p q q' : Int} (hp : 0 ≤ p ∧ p < m) {ys zs us vs : List Int} {k : Int} (h : Run b q ys zs q') : 0 ≤ q ∧ q < (n : Int) → ys = [] → Run (rawT a b) (enc n ⟨p, q'⟩) us vs k → Run (rawT a b) (enc n ⟨p, q⟩) us (zs ++ vs) k := by
  induction h with
  | nil => intro _ _ h; simpa using h
  | @cons y us' vs' q' hy _ ih =>
    intro hq he hk
    have hy0 : y.inp = 0 := by
      by_cases h0 : y.inp = 0
      · exact h0
      · rw [lab_ne h0] at he; simp at he
    rw [hy0] at he
    have := ih (hb.arcs y hy).2 (by simpa [lab] using he) hk
    exact enc_run ha hb (s := ⟨p, y.src⟩) (mem_rect.2 ⟨hp, hq⟩) (mem_compE.2 (.inr (.inr ⟨y, hy, rfl, hy0, rfl⟩))) this (by simp [lab]) (by simp)
theorem run_read {q q' : Int} {l zs : List Int} (h : Run b q l zs q') : ∀ {r : Int} {ys : List Int}, r ≠ 0 → l = r :: ys → ∃ z1 z2 : List Int, ∃ y ∈ b.arcs, Run b q [] z1 y.src ∧ y.inp = r ∧ Run b y.dst ys z2 q' ∧ zs = z1 ++ (lab y.out ++ z2) := by
  induction h with
  | nil => intro r ys _ h; cases h
  | @cons y us vs q' hy hr ih =>
    intro r ys hr0 he
    by_cases h0 : y.inp = 0
    · rw [h0] at he
      obtain ⟨z1, z2, y', hy', r1, r2, r3, rfl⟩ := ih hr0 (by simpa [lab] using he)
      exact ⟨lab y.out ++ z1, z2, y', hy', .cons' hy rfl r1 (by rw [h0]; rfl) rfl, r2, r3, by simp⟩
    · rw [lab_ne h0] at he
      obtain ⟨e1, e2⟩ := List.cons.inj he
      exact ⟨[], vs, y, hy, .nil _, e1, by rw [← e2]; simpa using hr, by simp⟩
theorem raw_join (ha : a.Ok m) (hb : b.Ok n) {p p' : Int} {xs ys : List Int} (h : Run a p xs ys p') : 0 ≤ p ∧ p < (m : Int) → ∀ {q q' : Int} {zs : List Int}, 0 ≤ q ∧ q < (n : Int) → Run b q ys zs q' → Run (rawT a b) (enc n ⟨p, q⟩) xs zs (enc n ⟨p', q'⟩) := by
  induction h with
  | nil p =>
    intro hp q q' zs hq h
    have := raw_b ha hb hp h hq rfl (Run.nil (t := rawT a b) _)
    simpa using this
  | @cons x us vs p' hx _ ih =>
    intro hp q q' zs hq h
    by_cases h0 : x.out = 0
    · rw [h0] at h
      exact enc_run ha hb (s := ⟨x.src, q⟩) (mem_rect.2 ⟨hp, hq⟩) (mem_compE.2 (.inl ⟨x, hx, rfl, h0, rfl⟩)) (ih (ha.arcs x hx).2 hq (by simpa [lab] using h)) rfl rfl
    · rw [lab_ne h0] at h
      obtain ⟨z1, z2, y, hy, r1, r2, r3, rfl⟩ := run_read h h0 rfl
      have h2 := ih (ha.arcs x hx).2 (hb.arcs y hy).2 r3
      have h3 := enc_run ha hb (s := ⟨x.src, y.src⟩) (mem_rect.2 ⟨hp, (hb.arcs y hy).1⟩) (mem_compE.2 (.inr (.inl ⟨x, hx, y, hy, rfl, rfl, h0, r2, rfl⟩))) h2 rfl rfl
      exact raw_b ha hb hp r1 hq rfl h3
/-- The raw composition relates what lies on both sides of some string. -/
theorem rel_raw (ha : a.Ok m) (hb : b.Ok n) (hfa : ∀ p ∈ a.finals, 0 ≤ p ∧ p < (m : Int)) (hfb : ∀ p ∈ b.finals, 0 ≤ p ∧ p < (n : Int)) {xs zs : List Int} : Rel (rawT a b) xs zs ↔ ∃ ys, Rel a xs ys ∧ Rel b ys zs := by
  have hst : (rawT a b).start = enc n ⟨a.start, b.start⟩ := by simp [rawT, enc, hb.st]
  constructor
  · rintro ⟨f, hf, h⟩
    obtain ⟨p, hp, hf⟩ := List.mem_flatMap.1 hf
    obtain ⟨q, hq, hf⟩ := List.mem_flatMap.1 hf
    have hf : f = enc n ⟨p, q⟩ := by rw [List.mem_singleton.1 hf, enc, hb.st]
    obtain ⟨s', hs', e, ys, r1, r2⟩ := raw_split ha hb h ⟨a.start, b.start⟩ (mem_rect.2 ⟨ha.start, hb.start⟩) hst.symm
    have : s' = ⟨p, q⟩ := enc_inj hs' (mem_rect.2 ⟨hfa p hp, hfb q hq⟩) (e.trans hf)
    subst this
    exact ⟨ys, ⟨p, hp, r1⟩, q, hq, r2⟩
  · rintro ⟨ys, ⟨p, hp, r1⟩, q, hq, r2⟩
    refine ⟨enc n ⟨p, q⟩, List.mem_flatMap.2 ⟨p, hp, List.mem_flatMap.2 ⟨q, hq, by simp [rawF1, enc, hb.st]⟩⟩, ?_⟩
    rw [hst]
    exact raw_join ha hb r1 ha.start hb.start r2
end
/-! ### trimming keeps the relation -/
section
variable {t : Tra} {m : Nat}
theorem rk_inj {kp : Nat → Bool} {i j : Nat} (hi : kp i = true) (hj : kp j = true) (h : rk kp i = rk kp j) : i = j := by
  rcases Nat.lt_trichotomy i j with hl | hl | hl
  · have := rk_lt hi hl; omega
  · exact hl
  · have := rk_lt hj hl; omega
theorem mem_trimA {z : Arc} (hk : kpS t t.start.toNat = true) : z ∈ (TrimS t m).arcs ↔ ∃ x ∈ t.arcs, kpS t x.src.toNat = true ∧ kpS t x.dst.toNat = true ∧ z = ⟨(rk (kpS t) x.src.toNat : Int), (rk (kpS t) x.dst.toNat : Int), x.inp, x.out⟩ := by
  unfold TrimS
  rw [if_pos hk]
  simp only [mem_canon, List.mem_flatMap]
  constructor
  · rintro ⟨x, hx, h⟩
    unfold arcS at h
    split at h
    · rename_i hc; rw [Bool.and_eq_true] at hc; exact ⟨x, hx, hc.1, hc.2, by simpa using h⟩
    · simp at h
  · rintro ⟨x, hx, h1, h2, rfl⟩
    exact ⟨x, hx, by simp [arcS, h1, h2]⟩
theorem reach_run {p q : Int} {xs ys : List Int} (h : Run t p xs ys q) (hp : Reach (stp t true) (· ∈ [t.start]) p) : Reach (stp t true) (· ∈ [t.start]) q := by
  induction h with
  | nil => exact hp
  | cons hx _ ih => exact ih (up_arc hx hp)
theorem coreach_run {p q : Int} {xs ys : List Int} (h : Run t p xs ys q) (hq : Reach (stp t false) (· ∈ t.finals) q) : Reach (stp t false) (· ∈ t.finals) p := by
  induction h with
  | nil => exact hq
  | cons hx _ ih => exact dn_arc hx (ih hq)
theorem trim_run (hr : t.Rng m) (hk : kpS t t.start.toNat = true) {p q : Int} {xs ys : List Int} (h : Run t p xs ys q) : 0 ≤ p → Reach (stp t true) (· ∈ [t.start]) p → Reach (stp t false) (· ∈ t.finals) q → Run (TrimS t m) (rk (kpS t) p.toNat) xs ys (rk (kpS t) q.toNat) := by
  induction h with
  | nil => intro _ _ _; exact .nil _
  | @cons x us vs q hx hrun ih =>
    intro h0 hp hq
    have hxr := hr.arcs x hx
    have hd := up_arc hx hp
    have hcd := coreach_run hrun hq
    have h1 : kpS t x.src.toNat = true := kpS_iff.2 (by rw [Int.toNat_of_nonneg hxr.1.1]; exact ⟨hp, dn_arc hx hcd⟩)
    have h2 : kpS t x.dst.toNat = true := kpS_iff.2 (by rw [Int.toNat_of_nonneg hxr.2.1]; exact ⟨hd, hcd⟩)
    exact .cons' ((mem_trimA hk).2 ⟨x, hx, h1, h2, rfl⟩) rfl (ih hxr.2.1 hd hq) rfl rfl
theorem run_trim (hr : t.Rng m) (hk : kpS t t.start.toNat = true) {k l : Int} {xs ys : List Int} (h : Run (TrimS t m) k xs ys l) : ∀ p : Int, 0 ≤ p → kpS t p.toNat = true → k = (rk (kpS t) p.toNat : Int) → ∃ q : Int, 0 ≤ q ∧ kpS t q.toNat = true ∧ l = (rk (kpS t) q.toNat : Int) ∧ Run t p xs ys q := by
  induction h with
  | nil => intro p h0 h1 h2; exact ⟨p, h0, h1, h2, .nil _⟩
  | @cons z us vs l hz _ ih =>
    intro p h0 h1 h2
    obtain ⟨x, hx, k1, k2, rfl⟩ := (mem_trimA hk).1 hz
    have hxr := hr.arcs x hx
    simp only [] at h2
    have : x.src.toNat = p.toNat := rk_inj k1 h1 (by omega)
    have hp : x.src = p := by omega
    obtain ⟨q, q0, q1, q2, q3⟩ := ih x.dst hxr.2.1 k2 rfl
    exact ⟨q, q0, q1, q2, .cons' hx hp q3 rfl rfl⟩
theorem rel_one {xs ys : List Int} : ¬ Rel oneTra xs ys := by rintro ⟨f, hf, _⟩; simp [oneTra] at hf
theorem rel_trim (hr : t.Rng m) {xs ys : List Int} : Rel (TrimS t m) xs ys ↔ Rel t xs ys := by
  have hs0 : ((t.start.toNat : Nat) : Int) = t.start := Int.toNat_of_nonneg hr.start.1
  by_cases hk : kpS t t.start.toNat = true
  · have e1 : (TrimS t m).start = (rk (kpS t) t.start.toNat : Int) := by unfold TrimS; rw [if_pos hk]
    have e2 : (TrimS t m).finals = finS t m := by unfold TrimS; rw [if_pos hk]
    constructor
    · rintro ⟨f, hf, h⟩
      rw [e1] at h; rw [e2] at hf
      obtain ⟨i, hi, h1, h2, rfl⟩ := mem_finS.1 hf
      obtain ⟨q, q0, q1, q2, q3⟩ := run_trim hr hk h t.start hr.start.1 hk rfl
      have : q.toNat = i := rk_inj q1 h1 (by omega)
      have : q = (i : Int) := by omega
      subst this
      exact ⟨_, h2, q3⟩
    · rintro ⟨f, hf, h⟩
      have h1 : Reach (stp t false) (· ∈ t.finals) f := .base hf
      have hfr := hr.fin f hf
      have h2 := reach_run h (up_start t)
      refine ⟨(rk (kpS t) f.toNat : Int), ?_, by rw [e1]; exact trim_run hr hk h hr.start.1 (up_start t) h1⟩
      rw [e2]
      refine mem_finS.2 ⟨f.toNat, by omega, kpS_iff.2 ?_, ?_, rfl⟩ <;> rw [Int.toNat_of_nonneg hfr.1]
      · exact ⟨h2, h1⟩
      · exact hf
  · have e1 : TrimS t m = oneTra := by unfold TrimS; rw [if_neg hk]
    rw [e1]
    refine ⟨fun h => absurd h rel_one, ?_⟩
    rintro ⟨f, hf, h⟩
    refine absurd (kpS_iff.2 ?_) hk
    rw [hs0]
    exact ⟨up_start t, coreach_run h (.base hf)⟩
/-- A trimmed transducer that is small enough is valid. -/
theorem valid_trim (hr : t.Rng m) (hl : ∀ x ∈ t.arcs, vRune x.inp = true ∧ vRune x.out = true) (h1 : (TrimS t m).states ≤ 512) (h2 : (TrimS t m).arcs.length ≤ 4096) : validT (TrimS t m) = true := by
  by_cases hk : kpS t t.start.toNat = true
  · have e0 : (TrimS t m).states = (rk (kpS t) m : Int) := by unfold TrimS; rw [if_pos hk]
    have e1 : (TrimS t m).start = (rk (kpS t) t.start.toNat : Int) := by unfold TrimS; rw [if_pos hk]
    have e2 : (TrimS t m).finals = finS t m := by unfold TrimS; rw [if_pos hk]
    have hlt : ∀ i : Nat, i < m → kpS t i = true → rk (kpS t) i < rk (kpS t) m := fun i hi h => rk_lt h hi
    have hs := hr.start
    have hs1 := hlt t.start.toNat (by omega) hk
    have hsort := finS_sorted t m
    simp only [validT, Bool.and_eq_true, Bool.not_eq_true', Bool.or_eq_false_iff, decide_eq_false_iff_not]
    refine ⟨⟨⟨by rw [e0]; omega, by omega⟩, by omega⟩, ⟨?_, ?_⟩, ?_⟩
    · rw [List.all_eq_true]
      intro i hi
      have hi := List.mem_range.1 hi
      rw [e2] at hi ⊢
      obtain ⟨k, hk1, hk2, _, hk3⟩ := mem_finS.1 (List.getElem_mem hi)
      have := hlt k hk1 hk2
      rw [finAt_of (List.getElem?_eq_getElem hi)]
      simp only [Bool.not_eq_true', Bool.or_eq_false_iff, Bool.not_eq_false', inR, Bool.and_eq_true, decide_eq_true_eq, Bool.and_eq_false_imp, decide_eq_false_iff_not]
      refine ⟨by rw [e0]; omega, fun h0 => ?_⟩
      have h3 : i - 1 < (finS t m).length := by omega
      have := List.pairwise_iff_getElem.1 hsort (i - 1) i h3 hi (by omega)
      rw [getD_of (List.getElem?_eq_getElem h3)]
      omega
    · rw [List.all_eq_true]
      intro z hz
      obtain ⟨x, hx, k1, k2, rfl⟩ := (mem_trimA hk).1 hz
      have hxr := hr.arcs x hx
      have g1 := hlt x.src.toNat (by omega) k1
      have g2 := hlt x.dst.toNat (by omega) k2
      simp only [arcOk, Bool.not_eq_true', Bool.or_eq_false_iff, Bool.not_eq_false', inR, Bool.and_eq_true, decide_eq_true_eq]
      exact ⟨⟨⟨by rw [e0]; omega, by rw [e0]; omega⟩, (hl x hx).1⟩, (hl x hx).2⟩
    · simp only [inR, Bool.and_eq_true, decide_eq_true_eq]
      rw [e1, e0]; omega
  · have e1 : TrimS t m = oneTra := by unfold TrimS; rw [if_neg hk]
    rw [e1]; rfl
end
end Go.Proofs.YtmjieefhjmiagaaDoor.G
