/- Trimming is a normal form: transducers whose kept parts correspond are trimmed alike; trimming inside a relabelling. Plain Lean. -/
/- The algebra's raw constructions and what they relate. Plain Lean. -/
import Derived.Test.YtoilmeiikgegcaaDoorGInv
set_option linter.all false
namespace Go.Proofs.YtoilmeiikgegcaaDoor.G
open Go Go.RowKit
theorem rk_iso {kp kp' : Nat → Bool} {φ : Nat → Nat} {m m' : Nat} (h1 : ∀ i, i < m → kp i = true → φ i < m' ∧ kp' (φ i) = true) (h2 : ∀ j, j < m' → kp' j = true → ∃ i, i < m ∧ kp i = true ∧ φ i = j)
    (h3 : ∀ i i', i' < m → kp i = true → kp i' = true → i < i' → φ i < φ i') {n n' : Nat} (hn : n ≤ m) (hn' : n' ≤ m') (h : ∀ i, i < m → kp i = true → (i < n ↔ φ i < n')) : rk kp n = rk kp' n' := by
  have e : (((List.range n).filter kp).map φ).Perm ((List.range n').filter kp') := by
    refine (List.perm_ext_iff_of_nodup ?_ (List.nodup_range.filter _)).2 fun j => ?_
    · rw [List.Nodup, List.pairwise_map]
      refine (List.pairwise_lt_range (n := n)).filter _ |>.imp_of_mem fun {a b} ha hb hl => ?_
      have ha := List.mem_filter.1 ha
      have hb := List.mem_filter.1 hb
      have hb1 := List.mem_range.1 hb.1
      exact Nat.ne_of_lt (h3 a b (by omega) ha.2 hb.2 hl)
    · simp only [List.mem_map, List.mem_filter, List.mem_range]
      constructor
      · rintro ⟨i, ⟨hi, hk⟩, rfl⟩
        exact ⟨(h i (by omega) hk).1 hi, (h1 i (by omega) hk).2⟩
      · rintro ⟨hj, hk⟩
        obtain ⟨i, hi, hk', rfl⟩ := h2 j (by omega) hk
        exact ⟨i, ⟨(h i hi hk').2 hj, hk'⟩, rfl⟩
  have := e.length_eq
  rw [List.length_map] at this
  exact this
theorem rk_sur {kp : Nat → Bool} {m j : Nat} (h : j < rk kp m) : ∃ i, i < m ∧ kp i = true ∧ rk kp i = j := by
  induction m with
  | zero => simp [rk] at h
  | succ m ih =>
    cases hk : kp m with
    | true =>
      have h0 := rk_hit hk
      by_cases e : j = rk kp m
      · exact ⟨m, by omega, hk, e.symm⟩
      · obtain ⟨i, h1, h2, h3⟩ := ih (by omega)
        exact ⟨i, by omega, h2, h3⟩
    | false =>
      have h0 := rk_skip hk
      obtain ⟨i, h1, h2, h3⟩ := ih (by omega)
      exact ⟨i, by omega, h2, h3⟩
/-- The kept parts of t and t' correspond by φ. -/
structure Iso (t t' : Tra) (m m' : Nat) (φ : Nat → Nat) : Prop where
  fwd : ∀ i, i < m → kpS t i = true → φ i < m' ∧ kpS t' (φ i) = true
  sur : ∀ j, j < m' → kpS t' j = true → ∃ i, i < m ∧ kpS t i = true ∧ φ i = j
  mono : ∀ i i', i' < m → kpS t i = true → kpS t i' = true → i < i' → φ i < φ i'
  start : kpS t t.start.toNat = true → φ t.start.toNat = t'.start.toNat
  empt : kpS t' t'.start.toNat = true → kpS t t.start.toNat = true
  fin : ∀ i, i < m → kpS t i = true → ((i : Int) ∈ t.finals ↔ (φ i : Int) ∈ t'.finals)
  arc : ∀ (p q : Nat) (a b : Int), p < m → q < m → kpS t p = true → kpS t q = true → ((⟨p, q, a, b⟩ : Arc) ∈ t.arcs ↔ (⟨φ p, φ q, a, b⟩ : Arc) ∈ t'.arcs)
theorem Iso.inj {t t' : Tra} {m m' : Nat} {φ : Nat → Nat} (h : Iso t t' m m' φ) {i j : Nat} (hi : i < m) (hj : j < m) (ki : kpS t i = true) (kj : kpS t j = true) (e : φ i = φ j) : i = j := by
  rcases Nat.lt_trichotomy i j with h1 | h1 | h1
  · have := h.mono i j hj ki kj h1; omega
  · exact h1
  · have := h.mono j i hi kj ki h1; omega
theorem Iso.rk {t t' : Tra} {m m' : Nat} {φ : Nat → Nat} (h : Iso t t' m m' φ) {i : Nat} (hi : i < m) (ki : kpS t i = true) : G.rk (kpS t) i = G.rk (kpS t') (φ i) := by
  refine rk_iso h.fwd h.sur h.mono (by omega) (Nat.le_of_lt (h.fwd i hi ki).1) fun j hj kj => ⟨fun hl => h.mono j i hi kj ki hl, fun hl => ?_⟩
  rcases Nat.lt_trichotomy j i with h1 | h1 | h1
  · exact h1
  · subst h1; omega
  · have := h.mono i j hj ki kj h1; omega
theorem trim_iso {t t' : Tra} {m m' : Nat} {φ : Nat → Nat} (hr : t.Rng m) (hr' : t'.Rng m') (h : Iso t t' m m' φ) : TrimS t m = TrimS t' m' := by
  have hs := hr.start
  by_cases hk : kpS t t.start.toNat = true
  · have hst := h.start hk
    have hk' : kpS t' t'.start.toNat = true := by rw [← hst]; exact (h.fwd _ (by omega) hk).2
    unfold TrimS
    rw [if_pos hk, if_pos hk']
    have e1 : G.rk (kpS t) m = G.rk (kpS t') m' := rk_iso h.fwd h.sur h.mono (Nat.le_refl _) (Nat.le_refl _) fun i hi ki => ⟨fun _ => (h.fwd i hi ki).1, fun _ => hi⟩
    have e2 : G.rk (kpS t) t.start.toNat = G.rk (kpS t') t'.start.toNat := by rw [h.rk (by omega) hk, hst]
    have e3 : finS t m = finS t' m' := by
      refine isorted_ext (finS_sorted t m) (finS_sorted t' m') fun x => ?_
      rw [mem_finS, mem_finS]
      constructor
      · rintro ⟨i, h1, h2, h3, rfl⟩
        exact ⟨φ i, (h.fwd i h1 h2).1, (h.fwd i h1 h2).2, (h.fin i h1 h2).1 h3, by rw [h.rk h1 h2]⟩
      · rintro ⟨j, h1, h2, h3, rfl⟩
        obtain ⟨i, g1, g2, rfl⟩ := h.sur j h1 h2
        exact ⟨i, g1, g2, (h.fin i g1 g2).2 h3, by rw [h.rk g1 g2]⟩
    have e4 : canon (t.arcs.flatMap (arcS t)) = canon (t'.arcs.flatMap (arcS t')) := by
      refine canon_congr fun z => ?_
      rw [List.mem_flatMap, List.mem_flatMap]
      constructor
      · rintro ⟨x, hx, hz⟩
        unfold arcS at hz
        split at hz
        · rename_i hc
          rw [Bool.and_eq_true] at hc
          have hxr := hr.arcs x hx
          have hx' : (⟨(x.src.toNat : Int), (x.dst.toNat : Int), x.inp, x.out⟩ : Arc) ∈ t.arcs := by
            rw [Int.toNat_of_nonneg hxr.1.1, Int.toNat_of_nonneg hxr.2.1]; exact hx
          have hy := (h.arc _ _ _ _ (by omega) (by omega) hc.1 hc.2).1 hx'
          refine ⟨_, hy, ?_⟩
          unfold arcS
          simp only [Int.toNat_natCast]
          rw [(h.fwd _ (by omega) hc.1).2, (h.fwd _ (by omega) hc.2).2, ← h.rk (by omega) hc.1, ← h.rk (by omega) hc.2]
          exact hz
        · simp at hz
      · rintro ⟨y, hy, hz⟩
        unfold arcS at hz
        split at hz
        · rename_i hc
          rw [Bool.and_eq_true] at hc
          have hyr := hr'.arcs y hy
          obtain ⟨p, p1, p2, p3⟩ := h.sur y.src.toNat (by omega) hc.1
          obtain ⟨q, q1, q2, q3⟩ := h.sur y.dst.toNat (by omega) hc.2
          have hx : (⟨(p : Int), (q : Int), y.inp, y.out⟩ : Arc) ∈ t.arcs := by
            refine (h.arc p q _ _ p1 q1 p2 q2).2 ?_
            rw [p3, q3, Int.toNat_of_nonneg hyr.1.1, Int.toNat_of_nonneg hyr.2.1]; exact hy
          refine ⟨_, hx, ?_⟩
          unfold arcS
          simp only [Int.toNat_natCast]
          rw [p2, q2, h.rk p1 p2, h.rk q1 q2, p3, q3]
          exact hz
        · simp at hz
    rw [e1, e2, e3, e4]
  · have hk' : ¬ kpS t' t'.start.toNat = true := fun k => hk (h.empt k)
    unfold TrimS
    rw [if_neg hk, if_neg hk']
/-! reaching by runs -/
theorem reach_up {t : Tra} {s : Int} : Reach (stp t true) (· ∈ [t.start]) s ↔ ∃ xs ys, Run t t.start xs ys s := by
  constructor
  · intro h
    induction h with
    | base h => rw [List.mem_singleton.1 h]; exact ⟨[], [], .nil _⟩
    | tail _ hy ih =>
      obtain ⟨xs, ys, hr⟩ := ih
      obtain ⟨x, hx, h1, rfl⟩ := mem_stp.1 hy
      exact ⟨_, _, hr.snoc hx h1⟩
  · rintro ⟨xs, ys, h⟩
    exact reach_run h (up_start t)
theorem reach_dn {t : Tra} {s : Int} : Reach (stp t false) (· ∈ t.finals) s ↔ ∃ f ∈ t.finals, ∃ xs ys, Run t s xs ys f := by
  constructor
  · intro h
    induction h with
    | base h => exact ⟨_, h, [], [], .nil _⟩
    | tail _ hy ih =>
      obtain ⟨f, hf, xs, ys, hr⟩ := ih
      obtain ⟨x, hx, h1, rfl⟩ := mem_stp.1 hy
      exact ⟨f, hf, _, _, .cons' hx rfl (by rw [show x.dst = _ from h1]; exact hr) rfl rfl⟩
  · rintro ⟨f, hf, xs, ys, h⟩
    exact coreach_run h (.base hf)
theorem kp_runs {t : Tra} {i : Nat} : kpS t i = true ↔ (∃ xs ys, Run t t.start xs ys i) ∧ ∃ f ∈ t.finals, ∃ xs ys, Run t i xs ys f := by
  rw [kpS_iff, reach_up, reach_dn]
theorem kp_rel {t : Tra} (hs : 0 ≤ t.start) : kpS t t.start.toNat = true ↔ ∃ xs ys, Rel t xs ys := by
  rw [kp_runs, Int.toNat_of_nonneg hs]
  constructor
  · rintro ⟨_, f, hf, xs, ys, h⟩; exact ⟨xs, ys, f, hf, h⟩
  · rintro ⟨xs, ys, f, hf, h⟩; exact ⟨⟨[], [], .nil _⟩, f, hf, xs, ys, h⟩
theorem dn_rel {t : Tra} : dnB t = true ↔ ∃ xs ys, Rel t xs ys := by
  simp only [dnB, decide_eq_true_eq]
  rw [reach_dn]
  constructor
  · rintro ⟨f, hf, xs, ys, h⟩; exact ⟨xs, ys, f, hf, h⟩
  · rintro ⟨xs, ys, f, hf, h⟩; exact ⟨f, hf, xs, ys, h⟩
/-! the trimmed transducer's own numbers -/
theorem trim_rng {t : Tra} {m : Nat} (hr : t.Rng m) : (TrimS t m).Rng (TrimS t m).states.toNat := by
  by_cases hk : kpS t t.start.toNat = true
  · have hs := hr.start
    have hlt : ∀ i : Nat, i < m → kpS t i = true → rk (kpS t) i < rk (kpS t) m := fun i hi h => rk_lt h hi
    have hs1 := hlt t.start.toNat (by omega) hk
    have e0 : (TrimS t m).states.toNat = rk (kpS t) m := by unfold TrimS; rw [if_pos hk]; simp
    rw [e0]
    refine ⟨?_, fun f hf => ?_, fun z hz => ?_⟩
    · unfold TrimS; rw [if_pos hk]; simp only []; omega
    · unfold TrimS at hf; rw [if_pos hk] at hf
      obtain ⟨i, h1, h2, _, rfl⟩ := mem_finS.1 hf
      have := hlt i h1 h2
      omega
    · obtain ⟨x, hx, h1, h2, rfl⟩ := (mem_trimA hk).1 hz
      have hxr := hr.arcs x hx
      have g1 := hlt x.src.toNat (by omega) h1
      have g2 := hlt x.dst.toNat (by omega) h2
      simp only []
      omega
  · have e0 : TrimS t m = oneTra := by unfold TrimS; rw [if_neg hk]
    rw [e0]
    exact ⟨by simp [oneTra], by simp [oneTra], by simp [oneTra]⟩
theorem trim_states {t : Tra} {m : Nat} : (TrimS t m).states = ((TrimS t m).states.toNat : Int) := by
  unfold TrimS; split <;> simp [oneTra]
theorem kp_trim {t : Tra} {m : Nat} (hr : t.Rng m) {i : Nat} (hk : kpS t i = true) : kpS (TrimS t m) (rk (kpS t) i) = true := by
  obtain ⟨h1, h2⟩ := kpS_iff.1 hk
  obtain ⟨xs, ys, r1⟩ := reach_up.1 h1
  obtain ⟨f, hf, us, vs, r2⟩ := reach_dn.1 h2
  have hs0 : ((t.start.toNat : Nat) : Int) = t.start := Int.toNat_of_nonneg hr.start.1
  have hf0 : ((f.toNat : Nat) : Int) = f := Int.toNat_of_nonneg (hr.fin f hf).1
  have hks : kpS t t.start.toNat = true := kpS_iff.2 (by rw [hs0]; exact ⟨up_start t, coreach_run r1 h2⟩)
  have e1 : (TrimS t m).start = (rk (kpS t) t.start.toNat : Int) := by unfold TrimS; rw [if_pos hks]
  have e2 : (TrimS t m).finals = finS t m := by unfold TrimS; rw [if_pos hks]
  have hkf : kpS t f.toNat = true := kpS_iff.2 (by rw [hf0]; exact ⟨reach_run r2 h1, .base hf⟩)
  refine kp_runs.2 ⟨⟨xs, ys, ?_⟩, (rk (kpS t) f.toNat : Int), ?_, us, vs, ?_⟩
  · rw [e1]
    have := trim_run hr hks r1 hr.start.1 (up_start t) h2
    rw [Int.toNat_natCast] at this; exact this
  · rw [e2]; have := hr.fin f hf; exact mem_finS.2 ⟨f.toNat, by omega, hkf, by rw [hf0]; exact hf, rfl⟩
  · have := trim_run hr hks r2 (by omega) h1 (.base hf)
    rw [Int.toNat_natCast] at this; exact this
/-! relabelling -/
def relab (f : Int → Int → Int × Int) (t : Tra) : Tra := ⟨t.states, t.start, t.finals, t.arcs.map fun x => ⟨x.src, x.dst, (f x.inp x.out).1, (f x.inp x.out).2⟩⟩
theorem stp_relab {f : Int → Int → Int × Int} {t : Tra} {fwd : Bool} (s r : Int) : r ∈ stp (relab f t) fwd s ↔ r ∈ stp t fwd s := by
  rw [mem_stp, mem_stp]
  simp only [relab, List.mem_map]
  constructor
  · rintro ⟨_, ⟨x, hx, rfl⟩, h1, h2⟩; exact ⟨x, hx, by revert h1; cases fwd <;> exact id, by revert h2; cases fwd <;> exact id⟩
  · rintro ⟨x, hx, h1, h2⟩; exact ⟨_, ⟨x, hx, rfl⟩, by revert h1; cases fwd <;> exact id, by revert h2; cases fwd <;> exact id⟩
theorem reach_map {E E' : Int → List Int} {S : Int → Prop} (h : ∀ s r, r ∈ E s → r ∈ E' s) {s : Int} (k : Reach E S s) : Reach E' S s := by
  induction k with
  | base hb => exact .base hb
  | tail _ hy ih => exact .tail ih (h _ _ hy)
theorem kp_relab {f : Int → Int → Int × Int} {t : Tra} : kpS (relab f t) = kpS t := funext fun i => by
  rw [Bool.eq_iff_iff, kpS_iff, kpS_iff]
  exact ⟨fun h => ⟨reach_map (fun s r => (stp_relab s r).1) h.1, reach_map (fun s r => (stp_relab s r).1) h.2⟩, fun h => ⟨reach_map (fun s r => (stp_relab s r).2) h.1, reach_map (fun s r => (stp_relab s r).2) h.2⟩⟩
theorem relab_rng {f : Int → Int → Int × Int} {t : Tra} {m : Nat} (hr : t.Rng m) : (relab f t).Rng m := ⟨hr.start, hr.fin, fun x hx => by
  obtain ⟨y, hy, rfl⟩ := List.mem_map.1 hx
  exact hr.arcs y hy⟩
theorem trim_kept {t : Tra} {m : Nat} (hr : t.Rng m) {j : Nat} (hj : kpS (TrimS t m) j = true) : kpS t t.start.toNat = true ∧ ∃ i, i < m ∧ kpS t i = true ∧ rk (kpS t) i = j := by
  have hks : kpS t t.start.toNat = true := by
    by_cases hk : kpS t t.start.toNat = true
    · exact hk
    · have e0 : TrimS t m = oneTra := by unfold TrimS; rw [if_neg hk]
      rw [e0, kp_runs] at hj
      obtain ⟨_, f, hf, _⟩ := hj
      simp [oneTra] at hf
  refine ⟨hks, ?_⟩
  obtain ⟨⟨xs, ys, r1⟩, _⟩ := kp_runs.1 hj
  have e1 : (TrimS t m).start = (rk (kpS t) t.start.toNat : Int) := by unfold TrimS; rw [if_pos hks]
  rw [e1] at r1
  obtain ⟨q, q0, q1, q2, q3⟩ := run_trim hr hks r1 t.start hr.start.1 hks rfl
  have hq := stp_rng hr.arcs (fwd := true) (fr := [t.start]) (fun f hf => by rw [List.mem_singleton.1 hf]; exact hr.start) (reach_up.2 ⟨_, _, q3⟩)
  exact ⟨q.toNat, by omega, q1, by omega⟩
/-- Trimming before a relabelling makes no difference. -/
theorem trim_relab {f : Int → Int → Int × Int} {t : Tra} {m : Nat} (hr : t.Rng m) : TrimS (relab f (TrimS t m)) (TrimS t m).states.toNat = TrimS (relab f t) m := by
  by_cases hks : kpS t t.start.toNat = true
  · have e0 : (TrimS t m).states.toNat = rk (kpS t) m := by unfold TrimS; rw [if_pos hks]; simp
    have e1 : (TrimS t m).start = (rk (kpS t) t.start.toNat : Int) := by unfold TrimS; rw [if_pos hks]
    have e2 : (TrimS t m).finals = finS t m := by unfold TrimS; rw [if_pos hks]
    refine (trim_iso (φ := rk (kpS t)) (relab_rng hr) (relab_rng (trim_rng hr)) ⟨fun i hi hk => ?_, fun j hj hk => ?_, fun i i' hi' ki ki' hl => ?_, fun _ => ?_, fun _ => ?_, fun i hi hk => ?_, fun p q a b hp hq kp kq => ?_⟩).symm
    · rw [kp_relab] at hk ⊢
      exact ⟨by rw [e0]; exact rk_lt hk hi, kp_trim hr hk⟩
    · rw [kp_relab] at hk ⊢
      exact (trim_kept hr hk).2
    · rw [kp_relab] at ki
      exact rk_lt ki hl
    · show rk (kpS t) t.start.toNat = (TrimS t m).start.toNat
      rw [e1]; simp
    · rw [kp_relab]; exact hks
    · rw [kp_relab] at hk
      show (i : Int) ∈ t.finals ↔ _ ∈ (TrimS t m).finals
      rw [e2, mem_finS]
      constructor
      · intro h; exact ⟨i, hi, hk, h, rfl⟩
      · rintro ⟨j, _, h2, h3, h4⟩
        have : i = j := rk_inj hk h2 (by omega)
        subst this; exact h3
    · rw [kp_relab] at kp kq
      simp only [relab, List.mem_map]
      constructor
      · rintro ⟨x, hx, e⟩
        have hxr := hr.arcs x hx
        simp only [Arc.mk.injEq] at e
        obtain ⟨s1, s2, s3, s4⟩ := e
        refine ⟨_, (mem_trimA hks).2 ⟨x, hx, by rw [s1, Int.toNat_natCast]; exact kp, by rw [s2, Int.toNat_natCast]; exact kq, rfl⟩, ?_⟩
        rw [s1, s2, Int.toNat_natCast, Int.toNat_natCast, s3, s4]
      · rintro ⟨z, hz, e⟩
        obtain ⟨x, hx, h1, h2, rfl⟩ := (mem_trimA hks).1 hz
        have hxr := hr.arcs x hx
        simp only [Arc.mk.injEq] at e
        obtain ⟨s1, s2, s3, s4⟩ := e
        have g1 : x.src.toNat = p := rk_inj h1 kp (by omega)
        have g2 : x.dst.toNat = q := rk_inj h2 kq (by omega)
        refine ⟨x, hx, ?_⟩
        simp only [Arc.mk.injEq]
        exact ⟨by omega, by omega, s3, s4⟩
  · have e0 : TrimS t m = oneTra := by unfold TrimS; rw [if_neg hks]
    rw [e0]
    have h1 : TrimS (relab f t) m = oneTra := by unfold TrimS; rw [kp_relab]; exact if_neg hks
    rw [h1]
    unfold TrimS
    rw [if_neg]
    rw [kp_relab, kp_runs]
    rintro ⟨_, g, hg, _⟩
    simp [relab, oneTra] at hg
theorem relab_id (t : Tra) : relab (fun a b => (a, b)) t = t := by
  cases t with
  | mk a b c d => simp [relab]
theorem relab_relab (f g : Int → Int → Int × Int) (t : Tra) : relab f (relab g t) = relab (fun a b => f (g a b).1 (g a b).2) t := by
  cases t with
  | mk a b c d => simp [relab]
theorem inv_relab (t : Tra) : invT t = relab (fun a b => (b, a)) t := rfl
theorem trim_trim {t : Tra} {m : Nat} (hr : t.Rng m) : TrimS (TrimS t m) (TrimS t m).states.toNat = TrimS t m := by
  have := trim_relab (f := fun a b => (a, b)) hr
  rw [relab_id, relab_id] at this; exact this
end Go.Proofs.YtoilmeiikgegcaaDoor.G

set_option linter.all false
namespace Go.Proofs.YtoilmeiikgegcaaDoor.G
open Go Go.RowKit
def shA (k : Int) (x : Arc) : Arc := ⟨x.src + k, x.dst + k, x.inp, x.out⟩
def epsA (p q : Int) : Arc := ⟨p, q, 0, 0⟩
def uniT (a b : Tra) : Tra := ⟨1 + a.states + b.states, 0, a.finals.map (1 + ·) ++ b.finals.map (1 + a.states + ·), [epsA 0 (1 + a.start), epsA 0 (1 + a.states + b.start)] ++ a.arcs.map (shA 1) ++ b.arcs.map (shA (1 + a.states))⟩
def conT (a b : Tra) : Tra := ⟨a.states + b.states, a.start, b.finals.map (a.states + ·), a.arcs.map (shA 0) ++ b.arcs.map (shA a.states) ++ a.finals.map fun f => epsA f (a.states + b.start)⟩
def staT (a : Tra) : Tra := ⟨1 + a.states, 0, [0], [epsA 0 (1 + a.start)] ++ a.arcs.map (shA 1) ++ a.finals.map fun f => epsA (1 + f) 0⟩
def revA (x : Arc) : Arc := ⟨1 + x.dst, 1 + x.src, x.inp, x.out⟩
def revT (a : Tra) : Tra := ⟨1 + a.states, 0, [1 + a.start], (a.finals.map fun f => epsA 0 (1 + f)) ++ a.arcs.map revA⟩
def domT (a : Tra) : Tra := relab (fun x _ => (x, x)) a
def ranT (a : Tra) : Tra := relab (fun _ y => (y, y)) a
/-- a lies in t, its states after k; along exits the final states of a lead to d with ex d. -/
structure Part (t a : Tra) (m : Nat) (k : Int) (ex : Int → Prop) : Prop where
  inn : ∀ x ∈ a.arcs, shA k x ∈ t.arcs
  bak : ∀ z ∈ t.arcs, k ≤ z.src → z.src < k + m → (∃ x ∈ a.arcs, z = shA k x) ∨ (z.src - k ∈ a.finals ∧ z.inp = 0 ∧ z.out = 0 ∧ ex z.dst)
section
variable {t a b : Tra} {m n : Nat} {k : Int} {ex : Int → Prop}
theorem Part.run (h : Part t a m k ex) {p q : Int} {xs ys : List Int} (r : Run a p xs ys q) : Run t (p + k) xs ys (q + k) := by
  induction r with
  | nil => exact .nil _
  | @cons x us vs q hx _ ih => exact .cons' (h.inn x hx) rfl ih rfl rfl
theorem Part.back (h : Part t a m k ex) (hr : a.Rng m) {p' q' : Int} {xs ys : List Int} (r : Run t p' xs ys q') : ∀ p, p' = p + k → 0 ≤ p ∧ p < m →
    (∃ q, q' = q + k ∧ (0 ≤ q ∧ q < m) ∧ Run a p xs ys q) ∨ ∃ f ∈ a.finals, ∃ d x1 x2 y1 y2, ex d ∧ xs = x1 ++ x2 ∧ ys = y1 ++ y2 ∧ Run a p x1 y1 f ∧ Run t d x2 y2 q' := by
  induction r with
  | nil => intro p e hp; exact .inl ⟨p, e, hp, .nil _⟩
  | @cons z us vs q' hz hrun ih =>
    intro p e hp
    rcases h.bak z hz (by omega) (by omega) with ⟨x, hx, rfl⟩ | ⟨h1, h2, h3, h4⟩
    · have hxr := hr.arcs x hx
      have hsp : x.src = p := by simp only [shA] at e; omega
      rcases ih x.dst rfl hxr.2 with ⟨q, e1, e2, r1⟩ | ⟨f, hf, d, x1, x2, y1, y2, hd, e1, e2, r1, r2⟩
      · exact .inl ⟨q, e1, e2, .cons' hx hsp r1 rfl rfl⟩
      · exact .inr ⟨f, hf, d, lab x.inp ++ x1, x2, lab x.out ++ y1, y2, hd, by rw [e1, List.append_assoc]; rfl, by rw [e2, List.append_assoc]; rfl, .cons' hx hsp r1 rfl rfl, r2⟩
    · have hzp : z.src - k = p := by omega
      rw [hzp] at h1
      exact .inr ⟨p, h1, z.dst, [], lab z.inp ++ us, [], lab z.out ++ vs, h4, rfl, rfl, .nil _, by rw [h2, h3]; exact hrun⟩
theorem Part.back0 (h : Part t a m k fun _ => False) (hr : a.Rng m) {p q' : Int} {xs ys : List Int} (r : Run t (p + k) xs ys q') (hp : 0 ≤ p ∧ p < m) : ∃ q, q' = q + k ∧ (0 ≤ q ∧ q < m) ∧ Run a p xs ys q := by
  rcases h.back hr r p rfl hp with h1 | ⟨_, _, d, _, _, _, _, hd, _⟩
  · exact h1
  · exact hd.elim
theorem mem_mapA {l : List Arc} {f : Arc → Arc} {z : Arc} : z ∈ l.map f ↔ ∃ x ∈ l, z = f x := by
  rw [List.mem_map]; exact ⟨fun ⟨x, h1, h2⟩ => ⟨x, h1, h2.symm⟩, fun ⟨x, h1, h2⟩ => ⟨x, h1, h2.symm⟩⟩
theorem ex_sym {α β : Type} {l : List α} {f : α → β} {z : β} : (∃ x, x ∈ l ∧ f x = z) ↔ ∃ x ∈ l, z = f x := ⟨fun ⟨x, h1, h2⟩ => ⟨x, h1, h2.symm⟩, fun ⟨x, h1, h2⟩ => ⟨x, h1, h2.symm⟩⟩
/-! ### unions -/
theorem mem_uniA {z : Arc} : z ∈ (uniT a b).arcs ↔ z = epsA 0 (1 + a.start) ∨ z = epsA 0 (1 + a.states + b.start) ∨ (∃ x ∈ a.arcs, z = shA 1 x) ∨ ∃ x ∈ b.arcs, z = shA (1 + a.states) x := by
  simp only [uniT, List.mem_append, List.mem_cons, List.not_mem_nil, or_false, mem_mapA, or_assoc]
theorem mem_uniF {f : Int} : f ∈ (uniT a b).finals ↔ (∃ g ∈ a.finals, f = 1 + g) ∨ ∃ g ∈ b.finals, f = 1 + a.states + g := by
  simp only [uniT, List.mem_append, List.mem_map]
  exact or_congr ⟨fun ⟨x, h1, h2⟩ => ⟨x, h1, h2.symm⟩, fun ⟨x, h1, h2⟩ => ⟨x, h1, h2.symm⟩⟩ ⟨fun ⟨x, h1, h2⟩ => ⟨x, h1, h2.symm⟩, fun ⟨x, h1, h2⟩ => ⟨x, h1, h2.symm⟩⟩
theorem uni_rng (ha : a.Rng m) (hb : b.Rng n) (hm : a.states = m) (hn : b.states = n) : (uniT a b).Rng (1 + m + n) := by
  have h1 := ha.start
  have h2 := hb.start
  refine ⟨by simp only [uniT]; omega, fun f hf => ?_, fun z hz => ?_⟩
  · rcases mem_uniF.1 hf with ⟨g, hg, rfl⟩ | ⟨g, hg, rfl⟩
    · have := ha.fin g hg; omega
    · have := hb.fin g hg; omega
  · rcases mem_uniA.1 hz with rfl | rfl | ⟨x, hx, rfl⟩ | ⟨x, hx, rfl⟩
    · simp only [epsA]; omega
    · simp only [epsA]; omega
    · have := ha.arcs x hx; simp only [shA]; omega
    · have := hb.arcs x hx; simp only [shA]; omega
theorem uni_a (ha : a.Rng m) (hb : b.Rng n) (hm : a.states = m) : Part (uniT a b) a m 1 fun _ => False := by
  refine ⟨fun x hx => mem_uniA.2 (.inr (.inr (.inl ⟨x, hx, rfl⟩))), fun z hz h1 h2 => ?_⟩
  rcases mem_uniA.1 hz with rfl | rfl | h | ⟨x, hx, rfl⟩
  · simp [epsA] at h1
  · simp [epsA] at h1
  · exact .inl h
  · have := hb.arcs x hx; simp only [shA] at h2; omega
theorem uni_b (ha : a.Rng m) (hb : b.Rng n) (hm : a.states = m) : Part (uniT a b) b n (1 + m) fun _ => False := by
  refine ⟨fun x hx => mem_uniA.2 (.inr (.inr (.inr ⟨x, hx, by rw [hm]⟩))), fun z hz h1 h2 => ?_⟩
  rcases mem_uniA.1 hz with rfl | rfl | ⟨x, hx, rfl⟩ | ⟨x, hx, e⟩
  · simp only [epsA] at h1; omega
  · simp only [epsA] at h1; omega
  · have := ha.arcs x hx; simp only [shA] at h1; omega
  · exact .inl ⟨x, hx, by rw [e, hm]⟩
/-- The first step of a union. -/
theorem uni_first (ha : a.Rng m) (hb : b.Rng n) (hm : a.states = m) {xs ys : List Int} {q : Int} (r : Run (uniT a b) 0 xs ys q) : (q = 0 ∧ xs = [] ∧ ys = []) ∨ (∃ q', q = q' + 1 ∧ (0 ≤ q' ∧ q' < m) ∧ Run a a.start xs ys q') ∨ ∃ q', q = q' + (1 + m) ∧ (0 ≤ q' ∧ q' < n) ∧ Run b b.start xs ys q' := by
  obtain ⟨p, hp⟩ : ∃ p : Int, p = 0 := ⟨0, rfl⟩
  rw [← hp] at r
  cases r with
  | nil => exact .inl ⟨hp, rfl, rfl⟩
  | @cons z us vs q hz hrun =>
    rcases mem_uniA.1 hz with rfl | rfl | ⟨x, hx, rfl⟩ | ⟨x, hx, rfl⟩
    · refine .inr (.inl ?_)
      simp only [epsA, Int.add_comm 1 a.start] at hrun
      simpa [epsA, lab] using (uni_a ha hb hm).back0 ha hrun ha.start
    · refine .inr (.inr ?_)
      simp only [epsA, hm, Int.add_comm (1 + (m : Int)) b.start] at hrun
      simpa [epsA, lab] using (uni_b ha hb hm).back0 hb hrun hb.start
    · have := ha.arcs x hx; simp only [shA] at hp; omega
    · have := ha.start; have := hb.arcs x hx; simp only [shA] at hp; omega
theorem rel_uni (ha : a.Rng m) (hb : b.Rng n) (hm : a.states = m) {xs ys : List Int} : Rel (uniT a b) xs ys ↔ Rel a xs ys ∨ Rel b xs ys := by
  constructor
  · rintro ⟨f, hf, r⟩
    rcases uni_first ha hb hm r with ⟨e, _⟩ | ⟨q, rfl, hq, r1⟩ | ⟨q, rfl, hq, r1⟩
    · rcases mem_uniF.1 hf with ⟨g, hg, h⟩ | ⟨g, hg, h⟩
      · have := ha.fin g hg; omega
      · have := hb.fin g hg; omega
    · rcases mem_uniF.1 hf with ⟨g, hg, h⟩ | ⟨g, hg, h⟩
      · obtain rfl : q = g := by omega
        exact .inl ⟨q, hg, r1⟩
      · have := hb.fin g hg; omega
    · rcases mem_uniF.1 hf with ⟨g, hg, h⟩ | ⟨g, hg, h⟩
      · have := ha.fin g hg; omega
      · obtain rfl : q = g := by omega
        exact .inr ⟨q, hg, r1⟩
  · rintro (⟨f, hf, r⟩ | ⟨f, hf, r⟩)
    · refine ⟨1 + f, mem_uniF.2 (.inl ⟨f, hf, rfl⟩), ?_⟩
      have h1 := (uni_a ha hb hm).run r
      rw [Int.add_comm f 1] at h1
      exact .cons' (x := epsA 0 (1 + a.start)) (mem_uniA.2 (.inl rfl)) rfl (by simp only [epsA]; rw [Int.add_comm 1 a.start]; exact h1) (by simp [epsA, lab]) (by simp [epsA, lab])
    · refine ⟨1 + a.states + f, mem_uniF.2 (.inr ⟨f, hf, rfl⟩), ?_⟩
      have h1 := (uni_b ha hb hm).run r
      rw [Int.add_comm f, ← hm] at h1
      exact .cons' (x := epsA 0 (1 + a.states + b.start)) (mem_uniA.2 (.inr (.inl rfl))) rfl (by simp only [epsA]; rw [Int.add_comm _ b.start]; exact h1) (by simp [epsA, lab]) (by simp [epsA, lab])
/-! ### concatenations -/
theorem mem_conA {z : Arc} : z ∈ (conT a b).arcs ↔ (∃ x ∈ a.arcs, z = shA 0 x) ∨ (∃ x ∈ b.arcs, z = shA a.states x) ∨ ∃ f ∈ a.finals, z = epsA f (a.states + b.start) := by
  simp only [conT, List.mem_append, or_assoc, List.mem_map]
  exact or_congr ex_sym (or_congr ex_sym ex_sym)
theorem mem_conF {f : Int} : f ∈ (conT a b).finals ↔ ∃ g ∈ b.finals, f = a.states + g := by
  simp only [conT, List.mem_map]
  exact ⟨fun ⟨x, h1, h2⟩ => ⟨x, h1, h2.symm⟩, fun ⟨x, h1, h2⟩ => ⟨x, h1, h2.symm⟩⟩
theorem con_rng (ha : a.Rng m) (hb : b.Rng n) (hm : a.states = m) (hn : b.states = n) : (conT a b).Rng (m + n) := by
  have h1 := ha.start
  have h2 := hb.start
  refine ⟨by simp only [conT]; omega, fun f hf => ?_, fun z hz => ?_⟩
  · obtain ⟨g, hg, rfl⟩ := mem_conF.1 hf
    have := hb.fin g hg; omega
  · rcases mem_conA.1 hz with ⟨x, hx, rfl⟩ | ⟨x, hx, rfl⟩ | ⟨f, hf, rfl⟩
    · have := ha.arcs x hx; simp only [shA]; omega
    · have := hb.arcs x hx; simp only [shA]; omega
    · have := ha.fin f hf; simp only [epsA]; omega
theorem con_a (ha : a.Rng m) (hb : b.Rng n) (hm : a.states = m) : Part (conT a b) a m 0 fun d => d = m + b.start := by
  refine ⟨fun x hx => mem_conA.2 (.inl ⟨x, hx, rfl⟩), fun z hz h1 h2 => ?_⟩
  rcases mem_conA.1 hz with h | ⟨x, hx, rfl⟩ | ⟨f, hf, rfl⟩
  · exact .inl h
  · have := hb.arcs x hx; simp only [shA] at h2; omega
  · exact .inr ⟨by simpa [epsA] using hf, rfl, rfl, by simp [epsA, hm]⟩
theorem con_b (ha : a.Rng m) (hb : b.Rng n) (hm : a.states = m) : Part (conT a b) b n m fun _ => False := by
  refine ⟨fun x hx => mem_conA.2 (.inr (.inl ⟨x, hx, by rw [hm]⟩)), fun z hz h1 h2 => ?_⟩
  rcases mem_conA.1 hz with ⟨x, hx, rfl⟩ | ⟨x, hx, e⟩ | ⟨f, hf, rfl⟩
  · have := ha.arcs x hx; simp only [shA] at h1; omega
  · exact .inl ⟨x, hx, by rw [e, hm]⟩
  · have := ha.fin f hf; simp only [epsA] at h1; omega
theorem con_split (ha : a.Rng m) (hb : b.Rng n) (hm : a.states = m) {p q' : Int} (hp : 0 ≤ p ∧ p < m) {xs ys : List Int} (r : Run (conT a b) p xs ys q') :
    (q' < m ∧ Run a p xs ys q') ∨ ∃ f ∈ a.finals, ∃ q x1 x2 y1 y2, q' = q + m ∧ (0 ≤ q ∧ q < n) ∧ xs = x1 ++ x2 ∧ ys = y1 ++ y2 ∧ Run a p x1 y1 f ∧ Run b b.start x2 y2 q := by
  rcases (con_a ha hb hm).back ha r p (by omega) hp with ⟨q, e, h1, h2⟩ | ⟨f, hf, d, x1, x2, y1, y2, rfl, e1, e2, r1, r2⟩
  · obtain rfl : q' = q := by omega
    exact .inl ⟨h1.2, h2⟩
  · rw [Int.add_comm] at r2
    obtain ⟨q, e, h1, h2⟩ := (con_b ha hb hm).back0 hb r2 hb.start
    exact .inr ⟨f, hf, q, x1, x2, y1, y2, e, h1, e1, e2, r1, h2⟩
theorem con_join (ha : a.Rng m) (hb : b.Rng n) (hm : a.states = m) {p f q : Int} (hf : f ∈ a.finals) {x1 x2 y1 y2 : List Int} (r1 : Run a p x1 y1 f) (r2 : Run b b.start x2 y2 q) : Run (conT a b) p (x1 ++ x2) (y1 ++ y2) (q + m) := by
  have h1 := (con_a ha hb hm).run r1
  have h2 := (con_b ha hb hm).run r2
  rw [Int.add_zero, Int.add_zero] at h1
  have h3 : Run (conT a b) f x2 y2 (q + m) := .cons' (x := epsA f (a.states + b.start)) (mem_conA.2 (.inr (.inr ⟨f, hf, rfl⟩))) rfl (by simp only [epsA, hm]; rw [Int.add_comm (m : Int)]; exact h2) (by simp [epsA, lab]) (by simp [epsA, lab])
  exact h1.trans h3
theorem rel_con (ha : a.Rng m) (hb : b.Rng n) (hm : a.states = m) {xs ys : List Int} : Rel (conT a b) xs ys ↔ ∃ x1 x2 y1 y2, xs = x1 ++ x2 ∧ ys = y1 ++ y2 ∧ Rel a x1 y1 ∧ Rel b x2 y2 := by
  constructor
  · rintro ⟨f, hf, r⟩
    obtain ⟨g, hg, rfl⟩ := mem_conF.1 hf
    have hgr := hb.fin g hg
    rcases con_split ha hb hm ha.start r with ⟨h1, _⟩ | ⟨f, hf', q, x1, x2, y1, y2, e, hq, e1, e2, r1, r2⟩
    · omega
    · obtain rfl : q = g := by omega
      exact ⟨x1, x2, y1, y2, e1, e2, ⟨f, hf', r1⟩, q, hg, r2⟩
  · rintro ⟨x1, x2, y1, y2, rfl, rfl, ⟨f, hf, r1⟩, g, hg, r2⟩
    exact ⟨a.states + g, mem_conF.2 ⟨g, hg, rfl⟩, by rw [hm, Int.add_comm]; exact con_join ha hb hm hf r1 r2⟩
/-! ### repetitions -/
inductive StarR (R : List Int → List Int → Prop) : List Int → List Int → Prop
  | nil : StarR R [] []
  | cons {x1 y1 x2 y2 : List Int} : R x1 y1 → StarR R x2 y2 → StarR R (x1 ++ x2) (y1 ++ y2)
theorem mem_staA {z : Arc} : z ∈ (staT a).arcs ↔ z = epsA 0 (1 + a.start) ∨ (∃ x ∈ a.arcs, z = shA 1 x) ∨ ∃ f ∈ a.finals, z = epsA (1 + f) 0 := by
  simp only [staT, List.mem_append, List.mem_cons, List.not_mem_nil, or_false, or_assoc, List.mem_map]
  exact or_congr Iff.rfl (or_congr ex_sym ex_sym)
theorem sta_rng (ha : a.Rng m) (hm : a.states = m) : (staT a).Rng (1 + m) := by
  have h1 := ha.start
  refine ⟨by simp only [staT]; omega, fun f hf => ?_, fun z hz => ?_⟩
  · simp only [staT, List.mem_singleton] at hf; omega
  · rcases mem_staA.1 hz with rfl | ⟨x, hx, rfl⟩ | ⟨f, hf, rfl⟩
    · simp only [epsA]; omega
    · have := ha.arcs x hx; simp only [shA]; omega
    · have := ha.fin f hf; simp only [epsA]; omega
theorem sta_a (ha : a.Rng m) : Part (staT a) a m 1 fun d => d = 0 := by
  refine ⟨fun x hx => mem_staA.2 (.inr (.inl ⟨x, hx, rfl⟩)), fun z hz h1 h2 => ?_⟩
  rcases mem_staA.1 hz with rfl | h | ⟨f, hf, rfl⟩
  · simp [epsA] at h1
  · exact .inl h
  · exact .inr ⟨by simp only [epsA]; rw [show 1 + f - 1 = f by omega]; exact hf, rfl, rfl, rfl⟩
theorem sta_in {xs ys : List Int} {q : Int} (r : Run (staT a) (a.start + 1) xs ys q) : Run (staT a) 0 xs ys q :=
  .cons' (x := epsA 0 (1 + a.start)) (mem_staA.2 (.inl rfl)) rfl (by simp only [epsA]; rw [Int.add_comm]; exact r) (by simp [epsA, lab]) (by simp [epsA, lab])
theorem sta_out {f : Int} (hf : f ∈ a.finals) {xs ys : List Int} {q : Int} (r : Run (staT a) 0 xs ys q) : Run (staT a) (f + 1) xs ys q :=
  .cons' (x := epsA (1 + f) 0) (mem_staA.2 (.inr (.inr ⟨f, hf, rfl⟩))) (by simp only [epsA]; omega) (by simpa only [epsA] using r) (by simp [epsA, lab]) (by simp [epsA, lab])
theorem sta_run (ha : a.Rng m) {p' : Int} {xs ys : List Int} (r : Run (staT a) p' xs ys 0) : (p' = 0 → StarR (Rel a) xs ys) ∧ ∀ p, p' = p + 1 → 0 ≤ p ∧ p < m → ∃ f ∈ a.finals, ∃ x1 x2 y1 y2, xs = x1 ++ x2 ∧ ys = y1 ++ y2 ∧ Run a p x1 y1 f ∧ StarR (Rel a) x2 y2 := by
  obtain ⟨q, hq⟩ : ∃ q : Int, q = 0 := ⟨0, rfl⟩
  rw [← hq] at r
  induction r with
  | nil => exact ⟨fun _ => .nil, fun p e hp => by omega⟩
  | @cons z us vs q hz hrun ih =>
    obtain ⟨i1, i2⟩ := ih hq
    constructor
    · intro e
      rcases mem_staA.1 hz with rfl | ⟨x, hx, rfl⟩ | ⟨f, hf, rfl⟩
      · obtain ⟨f, hf, x1, x2, y1, y2, rfl, rfl, r1, r2⟩ := i2 a.start (by simp only [epsA]; omega) ha.start
        have : StarR (Rel a) (x1 ++ x2) (y1 ++ y2) := .cons ⟨f, hf, r1⟩ r2
        simpa [epsA, lab] using this
      · have := ha.arcs x hx; simp only [shA] at e; omega
      · have := ha.fin f hf; simp only [epsA] at e; omega
    · intro p e hp
      rcases mem_staA.1 hz with rfl | ⟨x, hx, rfl⟩ | ⟨f, hf, rfl⟩
      · simp only [epsA] at e; omega
      · have hxr := ha.arcs x hx
        obtain ⟨f, hf, x1, x2, y1, y2, rfl, rfl, r1, r2⟩ := i2 x.dst rfl hxr.2
        simp only [shA] at e ⊢
        exact ⟨f, hf, lab x.inp ++ x1, x2, lab x.out ++ y1, y2, by simp, by simp, .cons' hx (by omega) r1 rfl rfl, r2⟩
      · have h1 := i1 rfl
        simp only [epsA] at e ⊢
        obtain rfl : f = p := by omega
        exact ⟨f, hf, [], us, [], vs, by simp [lab], by simp [lab], .nil _, h1⟩
theorem rel_sta (ha : a.Rng m) {xs ys : List Int} : Rel (staT a) xs ys ↔ StarR (Rel a) xs ys := by
  constructor
  · rintro ⟨f, hf, r⟩
    simp only [staT, List.mem_singleton] at hf
    subst hf
    exact (sta_run ha r).1 rfl
  · intro h
    refine ⟨0, by simp [staT], ?_⟩
    show Run (staT a) 0 xs ys 0
    induction h with
    | nil => exact .nil _
    | cons h1 _ ih =>
      obtain ⟨f, hf, r⟩ := h1
      have h2 := (sta_a ha).run r
      exact sta_in (h2.trans (sta_out hf ih))
/-! ### reversals -/
theorem mem_revA {z : Arc} : z ∈ (revT a).arcs ↔ (∃ f ∈ a.finals, z = epsA 0 (1 + f)) ∨ ∃ x ∈ a.arcs, z = revA x := by
  simp only [revT, List.mem_append, List.mem_map]
  exact or_congr ex_sym ex_sym
theorem rev_rng (ha : a.Rng m) (hm : a.states = m) : (revT a).Rng (1 + m) := by
  have h1 := ha.start
  refine ⟨by simp only [revT]; omega, fun f hf => ?_, fun z hz => ?_⟩
  · simp only [revT, List.mem_singleton] at hf; omega
  · rcases mem_revA.1 hz with ⟨f, hf, rfl⟩ | ⟨x, hx, rfl⟩
    · have := ha.fin f hf; simp only [epsA]; omega
    · have := ha.arcs x hx; simp only [revA]; omega
theorem lab_rev (r : Int) : (lab r).reverse = lab r := by unfold lab; split <;> rfl
theorem rev_to {p q : Int} {xs ys : List Int} (r : Run a p xs ys q) : Run (revT a) (1 + q) xs.reverse ys.reverse (1 + p) := by
  induction r with
  | nil => exact .nil _
  | @cons x us vs q hx _ ih =>
    rw [List.reverse_append, List.reverse_append, lab_rev, lab_rev]
    exact ih.snoc (x := revA x) (mem_revA.2 (.inr ⟨x, hx, rfl⟩)) rfl
theorem rev_fro (ha : a.Rng m) {p' q' : Int} {xs ys : List Int} (r : Run (revT a) p' xs ys q') : 1 ≤ p' → ∃ q, q' = 1 + q ∧ Run a q xs.reverse ys.reverse (p' - 1) := by
  induction r with
  | nil p => intro h; exact ⟨p - 1, by omega, .nil _⟩
  | @cons z us vs q hz _ ih =>
    intro h
    rcases mem_revA.1 hz with ⟨f, hf, rfl⟩ | ⟨x, hx, rfl⟩
    · simp [epsA] at h
    · have hxr := ha.arcs x hx
      obtain ⟨q, e, r1⟩ := ih (by simp only [revA]; omega)
      refine ⟨q, e, ?_⟩
      simp only [revA] at r1 ⊢
      rw [List.reverse_append, List.reverse_append, lab_rev, lab_rev]
      have h2 := r1.snoc hx (by omega)
      rw [show 1 + x.dst - 1 = x.dst by omega]
      exact h2
theorem rel_rev (ha : a.Rng m) {xs ys : List Int} : Rel (revT a) xs ys ↔ Rel a xs.reverse ys.reverse := by
  constructor
  · rintro ⟨f, hf, r⟩
    simp only [revT, List.mem_singleton] at hf
    subst hf
    generalize hp : (revT a).start = p at r
    cases r with
    | nil => have := ha.start; simp only [revT] at hp; omega
    | @cons z us vs q hz hrun =>
      rcases mem_revA.1 hz with ⟨g, hg, rfl⟩ | ⟨x, hx, rfl⟩
      · have hgr := ha.fin g hg
        obtain ⟨q, e, r1⟩ := rev_fro ha hrun (by simp only [epsA]; omega)
        obtain rfl : q = a.start := by omega
        simp only [epsA, show 1 + g - 1 = g by omega] at r1
        exact ⟨g, hg, by simpa [epsA, lab] using r1⟩
      · have := ha.arcs x hx; simp only [revT, revA] at hp; omega
  · rintro ⟨f, hf, r⟩
    refine ⟨1 + a.start, by simp [revT], ?_⟩
    have h1 := rev_to r
    rw [List.reverse_reverse, List.reverse_reverse] at h1
    exact .cons' (x := epsA 0 (1 + f)) (mem_revA.2 (.inl ⟨f, hf, rfl⟩)) rfl (by simpa only [epsA] using h1) (by simp [epsA, lab]) (by simp [epsA, lab])
/-! ### projections -/
theorem dom_run {p q : Int} {xs ys : List Int} (r : Run (domT a) p xs ys q) : xs = ys ∧ ∃ zs, Run a p xs zs q := by
  induction r with
  | nil => exact ⟨rfl, [], .nil _⟩
  | @cons z us vs q hz _ ih =>
    obtain ⟨rfl, zs, r1⟩ := ih
    simp only [domT, relab, List.mem_map] at hz
    obtain ⟨x, hx, rfl⟩ := hz
    exact ⟨rfl, _, .cons' hx rfl r1 rfl rfl⟩
theorem run_dom {p q : Int} {xs zs : List Int} (r : Run a p xs zs q) : Run (domT a) p xs xs q := by
  induction r with
  | nil => exact .nil _
  | @cons x us vs q hx _ ih =>
    exact .cons' (x := ⟨x.src, x.dst, x.inp, x.inp⟩) (by simp only [domT, relab, List.mem_map]; exact ⟨x, hx, rfl⟩) rfl ih rfl rfl
theorem ran_run {p q : Int} {xs ys : List Int} (r : Run (ranT a) p xs ys q) : xs = ys ∧ ∃ zs, Run a p zs xs q := by
  induction r with
  | nil => exact ⟨rfl, [], .nil _⟩
  | @cons z us vs q hz _ ih =>
    obtain ⟨rfl, zs, r1⟩ := ih
    simp only [ranT, relab, List.mem_map] at hz
    obtain ⟨x, hx, rfl⟩ := hz
    exact ⟨rfl, _, .cons' hx rfl r1 rfl rfl⟩
theorem run_ran {p q : Int} {xs zs : List Int} (r : Run a p zs xs q) : Run (ranT a) p xs xs q := by
  induction r with
  | nil => exact .nil _
  | @cons x us vs q hx _ ih =>
    exact .cons' (x := ⟨x.src, x.dst, x.out, x.out⟩) (by simp only [ranT, relab, List.mem_map]; exact ⟨x, hx, rfl⟩) rfl ih rfl rfl
theorem rel_dom {xs ys : List Int} : Rel (domT a) xs ys ↔ xs = ys ∧ ∃ zs, Rel a xs zs := by
  constructor
  · rintro ⟨f, hf, r⟩
    obtain ⟨e, zs, r1⟩ := dom_run r
    exact ⟨e, zs, f, hf, r1⟩
  · rintro ⟨rfl, zs, f, hf, r⟩
    exact ⟨f, hf, run_dom r⟩
theorem rel_ran {xs ys : List Int} : Rel (ranT a) xs ys ↔ xs = ys ∧ ∃ zs, Rel a zs xs := by
  constructor
  · rintro ⟨f, hf, r⟩
    obtain ⟨e, zs, r1⟩ := ran_run r
    exact ⟨e, zs, f, hf, r1⟩
  · rintro ⟨rfl, zs, f, hf, r⟩
    exact ⟨f, hf, run_ran r⟩
end
end Go.Proofs.YtoilmeiikgegcaaDoor.G
