/- Trimming depends on the kept part alone; trimming a trimmed transducer. Plain Lean. -/
/- What the laws of the chapter on transducers lean on. Plain Lean. -/
import Derived.Test.YtfepjcmjkaolgaaDoorGTrm
import Derived.Test.YtfepjcmjkaolgaaDoorGEps
set_option linter.all false
namespace Go.Proofs.YtfepjcmjkaolgaaDoor.G
open Go Go.RowKit
theorem rk_iso {kp kp' : Nat → Bool} {φ : Nat → Nat} {m m' : Nat} (h1 : ∀ i, i < m → kp i = true → φ i < m' ∧ kp' (φ i) = true) (h2 : ∀ j, j < m' → kp' j = true → ∃ i, i < m ∧ kp i = true ∧ φ i = j)
    (h3 : ∀ i i', i' < m → kp i = true → kp i' = true → i < i' → φ i < φ i') {n n' : Nat} (hn : n ≤ m) (hn' : n' ≤ m') (h : ∀ i, i < m → kp i = true → (i < n ↔ φ i < n')) : rk kp n = rk kp' n' := by
  have e : (((List.range n).filter kp).map φ).Perm ((List.range n').filter kp') := by
    refine (List.perm_ext_iff_of_nodup ?_ (List.nodup_range.filter _)).2 fun j => ?_
    · rw [List.Nodup, List.pairwise_map]
      refine (List.pairwise_lt_range (n := n)).filter _ |>.imp_of_mem fun {a b} ha hb hl => ?_
      have ha := List.mem_filter.1 ha
      have hb := List.mem_filter.1 hb
      have hb1 := List.mem_range.1 hb.1
      exact Nat.ne_of_lt (h3 a b (by omega) ha.2 hb.2 hl)
    · simp only [List.mem_map, List.mem_filter, List.mem_range]
      constructor
      · rintro ⟨i, ⟨hi, hk⟩, rfl⟩
        exact ⟨(h i (by omega) hk).1 hi, (h1 i (by omega) hk).2⟩
      · rintro ⟨hj, hk⟩
        obtain ⟨i, hi, hk', rfl⟩ := h2 j (by omega) hk
        exact ⟨i, ⟨(h i hi hk').2 hj, hk'⟩, rfl⟩
  have := e.length_eq
  rw [List.length_map] at this
  exact this
theorem rk_sur {kp : Nat → Bool} {m j : Nat} (h : j < rk kp m) : ∃ i, i < m ∧ kp i = true ∧ rk kp i = j := by
  induction m with
  | zero => simp [rk] at h
  | succ m ih =>
    cases hk : kp m with
    | true =>
      have h0 := rk_hit hk
      by_cases e : j = rk kp m
      · exact ⟨m, by omega, hk, e.symm⟩
      · obtain ⟨i, h1, h2, h3⟩ := ih (by omega)
        exact ⟨i, by omega, h2, h3⟩
    | false =>
      have h0 := rk_skip hk
      obtain ⟨i, h1, h2, h3⟩ := ih (by omega)
      exact ⟨i, by omega, h2, h3⟩
/-- The kept parts of t and t' correspond by φ. -/
structure Iso (t t' : Tra) (m m' : Nat) (φ : Nat → Nat) : Prop where
  fwd : ∀ i, i < m → kpS t i = true → φ i < m' ∧ kpS t' (φ i) = true
  sur : ∀ j, j < m' → kpS t' j = true → ∃ i, i < m ∧ kpS t i = true ∧ φ i = j
  mono : ∀ i i', i' < m → kpS t i = true → kpS t i' = true → i < i' → φ i < φ i'
  start : kpS t t.start.toNat = true → φ t.start.toNat = t'.start.toNat
  empt : kpS t' t'.start.toNat = true → kpS t t.start.toNat = true
  fin : ∀ i, i < m → kpS t i = true → ((i : Int) ∈ t.finals ↔ (φ i : Int) ∈ t'.finals)
  arc : ∀ (p q : Nat) (a b : Int), p < m → q < m → kpS t p = true → kpS t q = true → ((⟨p, q, a, b⟩ : Arc) ∈ t.arcs ↔ (⟨φ p, φ q, a, b⟩ : Arc) ∈ t'.arcs)
theorem Iso.inj {t t' : Tra} {m m' : Nat} {φ : Nat → Nat} (h : Iso t t' m m' φ) {i j : Nat} (hi : i < m) (hj : j < m) (ki : kpS t i = true) (kj : kpS t j = true) (e : φ i = φ j) : i = j := by
  rcases Nat.lt_trichotomy i j with h1 | h1 | h1
  · have := h.mono i j hj ki kj h1; omega
  · exact h1
  · have := h.mono j i hi kj ki h1; omega
theorem Iso.rk {t t' : Tra} {m m' : Nat} {φ : Nat → Nat} (h : Iso t t' m m' φ) {i : Nat} (hi : i < m) (ki : kpS t i = true) : G.rk (kpS t) i = G.rk (kpS t') (φ i) := by
  refine rk_iso h.fwd h.sur h.mono (by omega) (Nat.le_of_lt (h.fwd i hi ki).1) fun j hj kj => ⟨fun hl => h.mono j i hi kj ki hl, fun hl => ?_⟩
  rcases Nat.lt_trichotomy j i with h1 | h1 | h1
  · exact h1
  · subst h1; omega
  · have := h.mono i j hj ki kj h1; omega
theorem trim_iso {t t' : Tra} {m m' : Nat} {φ : Nat → Nat} (hr : t.Rng m) (hr' : t'.Rng m') (h : Iso t t' m m' φ) : TrimS t m = TrimS t' m' := by
  have hs := hr.start
  by_cases hk : kpS t t.start.toNat = true
  · have hst := h.start hk
    have hk' : kpS t' t'.start.toNat = true := by rw [← hst]; exact (h.fwd _ (by omega) hk).2
    unfold TrimS
    rw [if_pos hk, if_pos hk']
    have e1 : G.rk (kpS t) m = G.rk (kpS t') m' := rk_iso h.fwd h.sur h.mono (Nat.le_refl _) (Nat.le_refl _) fun i hi ki => ⟨fun _ => (h.fwd i hi ki).1, fun _ => hi⟩
    have e2 : G.rk (kpS t) t.start.toNat = G.rk (kpS t') t'.start.toNat := by rw [h.rk (by omega) hk, hst]
    have e3 : finS t m = finS t' m' := by
      refine isorted_ext (finS_sorted t m) (finS_sorted t' m') fun x => ?_
      rw [mem_finS, mem_finS]
      constructor
      · rintro ⟨i, h1, h2, h3, rfl⟩
        exact ⟨φ i, (h.fwd i h1 h2).1, (h.fwd i h1 h2).2, (h.fin i h1 h2).1 h3, by rw [h.rk h1 h2]⟩
      · rintro ⟨j, h1, h2, h3, rfl⟩
        obtain ⟨i, g1, g2, rfl⟩ := h.sur j h1 h2
        exact ⟨i, g1, g2, (h.fin i g1 g2).2 h3, by rw [h.rk g1 g2]⟩
    have e4 : canon (t.arcs.flatMap (arcS t)) = canon (t'.arcs.flatMap (arcS t')) := by
      refine canon_congr fun z => ?_
      rw [List.mem_flatMap, List.mem_flatMap]
      constructor
      · rintro ⟨x, hx, hz⟩
        unfold arcS at hz
        split at hz
        · rename_i hc
          rw [Bool.and_eq_true] at hc
          have hxr := hr.arcs x hx
          have hx' : (⟨(x.src.toNat : Int), (x.dst.toNat : Int), x.inp, x.out⟩ : Arc) ∈ t.arcs := by
            rw [Int.toNat_of_nonneg hxr.1.1, Int.toNat_of_nonneg hxr.2.1]; exact hx
          have hy := (h.arc _ _ _ _ (by omega) (by omega) hc.1 hc.2).1 hx'
          refine ⟨_, hy, ?_⟩
          unfold arcS
          simp only [Int.toNat_natCast]
          rw [(h.fwd _ (by omega) hc.1).2, (h.fwd _ (by omega) hc.2).2, ← h.rk (by omega) hc.1, ← h.rk (by omega) hc.2]
          exact hz
        · simp at hz
      · rintro ⟨y, hy, hz⟩
        unfold arcS at hz
        split at hz
        · rename_i hc
          rw [Bool.and_eq_true] at hc
          have hyr := hr'.arcs y hy
          obtain ⟨p, p1, p2, p3⟩ := h.sur y.src.toNat (by omega) hc.1
          obtain ⟨q, q1, q2, q3⟩ := h.sur y.dst.toNat (by omega) hc.2
          have hx : (⟨(p : Int), (q : Int), y.inp, y.out⟩ : Arc) ∈ t.arcs := by
            refine (h.arc p q _ _ p1 q1 p2 q2).2 ?_
            rw [p3, q3, Int.toNat_of_nonneg hyr.1.1, Int.toNat_of_nonneg hyr.2.1]; exact hy
          refine ⟨_, hx, ?_⟩
          unfold arcS
          simp only [Int.toNat_natCast]
          rw [p2, q2, h.rk p1 p2, h.rk q1 q2, p3, q3]
          exact hz
        · simp at hz
    rw [e1, e2, e3, e4]
  · have hk' : ¬ kpS t' t'.start.toNat = true := fun k => hk (h.empt k)
    unfold TrimS
    rw [if_neg hk, if_neg hk']
/-! reaching by runs -/
theorem reach_up {t : Tra} {s : Int} : Reach (stp t true) (· ∈ [t.start]) s ↔ ∃ xs ys, Run t t.start xs ys s := by
  constructor
  · intro h
    induction h with
    | base h => rw [List.mem_singleton.1 h]; exact ⟨[], [], .nil _⟩
    | tail _ hy ih =>
      obtain ⟨xs, ys, hr⟩ := ih
      obtain ⟨x, hx, h1, rfl⟩ := mem_stp.1 hy
      exact ⟨_, _, hr.snoc hx h1⟩
  · rintro ⟨xs, ys, h⟩
    exact reach_run h (up_start t)
theorem reach_dn {t : Tra} {s : Int} : Reach (stp t false) (· ∈ t.finals) s ↔ ∃ f ∈ t.finals, ∃ xs ys, Run t s xs ys f := by
  constructor
  · intro h
    induction h with
    | base h => exact ⟨_, h, [], [], .nil _⟩
    | tail _ hy ih =>
      obtain ⟨f, hf, xs, ys, hr⟩ := ih
      obtain ⟨x, hx, h1, rfl⟩ := mem_stp.1 hy
      exact ⟨f, hf, _, _, .cons' hx rfl (by rw [show x.dst = _ from h1]; exact hr) rfl rfl⟩
  · rintro ⟨f, hf, xs, ys, h⟩
    exact coreach_run h (.base hf)
theorem kp_runs {t : Tra} {i : Nat} : kpS t i = true ↔ (∃ xs ys, Run t t.start xs ys i) ∧ ∃ f ∈ t.finals, ∃ xs ys, Run t i xs ys f := by
  rw [kpS_iff, reach_up, reach_dn]
theorem kp_rel {t : Tra} (hs : 0 ≤ t.start) : kpS t t.start.toNat = true ↔ ∃ xs ys, Rel t xs ys := by
  rw [kp_runs, Int.toNat_of_nonneg hs]
  constructor
  · rintro ⟨_, f, hf, xs, ys, h⟩; exact ⟨xs, ys, f, hf, h⟩
  · rintro ⟨xs, ys, f, hf, h⟩; exact ⟨⟨[], [], .nil _⟩, f, hf, xs, ys, h⟩
theorem dn_rel {t : Tra} : dnB t = true ↔ ∃ xs ys, Rel t xs ys := by
  simp only [dnB, decide_eq_true_eq]
  rw [reach_dn]
  constructor
  · rintro ⟨f, hf, xs, ys, h⟩; exact ⟨xs, ys, f, hf, h⟩
  · rintro ⟨xs, ys, f, hf, h⟩; exact ⟨f, hf, xs, ys, h⟩
/-! the trimmed transducer's own numbers -/
theorem trim_rng {t : Tra} {m : Nat} (hr : t.Rng m) : (TrimS t m).Rng (TrimS t m).states.toNat := by
  by_cases hk : kpS t t.start.toNat = true
  · have hs := hr.start
    have hlt : ∀ i : Nat, i < m → kpS t i = true → rk (kpS t) i < rk (kpS t) m := fun i hi h => rk_lt h hi
    have hs1 := hlt t.start.toNat (by omega) hk
    have e0 : (TrimS t m).states.toNat = rk (kpS t) m := by unfold TrimS; rw [if_pos hk]; simp
    rw [e0]
    refine ⟨?_, fun f hf => ?_, fun z hz => ?_⟩
    · unfold TrimS; rw [if_pos hk]; simp only []; omega
    · unfold TrimS at hf; rw [if_pos hk] at hf
      obtain ⟨i, h1, h2, _, rfl⟩ := mem_finS.1 hf
      have := hlt i h1 h2
      omega
    · obtain ⟨x, hx, h1, h2, rfl⟩ := (mem_trimA hk).1 hz
      have hxr := hr.arcs x hx
      have g1 := hlt x.src.toNat (by omega) h1
      have g2 := hlt x.dst.toNat (by omega) h2
      simp only []
      omega
  · have e0 : TrimS t m = oneTra := by unfold TrimS; rw [if_neg hk]
    rw [e0]
    exact ⟨by simp [oneTra], by simp [oneTra], by simp [oneTra]⟩
theorem trim_states {t : Tra} {m : Nat} : (TrimS t m).states = ((TrimS t m).states.toNat : Int) := by
  unfold TrimS; split <;> simp [oneTra]
theorem kp_trim {t : Tra} {m : Nat} (hr : t.Rng m) {i : Nat} (hk : kpS t i = true) : kpS (TrimS t m) (rk (kpS t) i) = true := by
  obtain ⟨h1, h2⟩ := kpS_iff.1 hk
  obtain ⟨xs, ys, r1⟩ := reach_up.1 h1
  obtain ⟨f, hf, us, vs, r2⟩ := reach_dn.1 h2
  have hs0 : ((t.start.toNat : Nat) : Int) = t.start := Int.toNat_of_nonneg hr.start.1
  have hf0 : ((f.toNat : Nat) : Int) = f := Int.toNat_of_nonneg (hr.fin f hf).1
  have hks : kpS t t.start.toNat = true := kpS_iff.2 (by rw [hs0]; exact ⟨up_start t, coreach_run r1 h2⟩)
  have e1 : (TrimS t m).start = (rk (kpS t) t.start.toNat : Int) := by unfold TrimS; rw [if_pos hks]
  have e2 : (TrimS t m).finals = finS t m := by unfold TrimS; rw [if_pos hks]
  have hkf : kpS t f.toNat = true := kpS_iff.2 (by rw [hf0]; exact ⟨reach_run r2 h1, .base hf⟩)
  refine kp_runs.2 ⟨⟨xs, ys, ?_⟩, (rk (kpS t) f.toNat : Int), ?_, us, vs, ?_⟩
  · rw [e1]
    have := trim_run hr hks r1 hr.start.1 (up_start t) h2
    rw [Int.toNat_natCast] at this; exact this
  · rw [e2]; have := hr.fin f hf; exact mem_finS.2 ⟨f.toNat, by omega, hkf, by rw [hf0]; exact hf, rfl⟩
  · have := trim_run hr hks r2 (by omega) h1 (.base hf)
    rw [Int.toNat_natCast] at this; exact this
/-! relabelling -/
def relab (f : Int → Int → Int × Int) (t : Tra) : Tra := ⟨t.states, t.start, t.finals, t.arcs.map fun x => ⟨x.src, x.dst, (f x.inp x.out).1, (f x.inp x.out).2⟩⟩
theorem stp_relab {f : Int → Int → Int × Int} {t : Tra} {fwd : Bool} (s r : Int) : r ∈ stp (relab f t) fwd s ↔ r ∈ stp t fwd s := by
  rw [mem_stp, mem_stp]
  simp only [relab, List.mem_map]
  constructor
  · rintro ⟨_, ⟨x, hx, rfl⟩, h1, h2⟩; exact ⟨x, hx, by revert h1; cases fwd <;> exact id, by revert h2; cases fwd <;> exact id⟩
  · rintro ⟨x, hx, h1, h2⟩; exact ⟨_, ⟨x, hx, rfl⟩, by revert h1; cases fwd <;> exact id, by revert h2; cases fwd <;> exact id⟩
theorem reach_map {E E' : Int → List Int} {S : Int → Prop} (h : ∀ s r, r ∈ E s → r ∈ E' s) {s : Int} (k : Reach E S s) : Reach E' S s := by
  induction k with
  | base hb => exact .base hb
  | tail _ hy ih => exact .tail ih (h _ _ hy)
theorem kp_relab {f : Int → Int → Int × Int} {t : Tra} : kpS (relab f t) = kpS t := funext fun i => by
  rw [Bool.eq_iff_iff, kpS_iff, kpS_iff]
  exact ⟨fun h => ⟨reach_map (fun s r => (stp_relab s r).1) h.1, reach_map (fun s r => (stp_relab s r).1) h.2⟩, fun h => ⟨reach_map (fun s r => (stp_relab s r).2) h.1, reach_map (fun s r => (stp_relab s r).2) h.2⟩⟩
theorem relab_rng {f : Int → Int → Int × Int} {t : Tra} {m : Nat} (hr : t.Rng m) : (relab f t).Rng m := ⟨hr.start, hr.fin, fun x hx => by
  obtain ⟨y, hy, rfl⟩ := List.mem_map.1 hx
  exact hr.arcs y hy⟩
theorem trim_kept {t : Tra} {m : Nat} (hr : t.Rng m) {j : Nat} (hj : kpS (TrimS t m) j = true) : kpS t t.start.toNat = true ∧ ∃ i, i < m ∧ kpS t i = true ∧ rk (kpS t) i = j := by
  have hks : kpS t t.start.toNat = true := by
    by_cases hk : kpS t t.start.toNat = true
    · exact hk
    · have e0 : TrimS t m = oneTra := by unfold TrimS; rw [if_neg hk]
      rw [e0, kp_runs] at hj
      obtain ⟨_, f, hf, _⟩ := hj
      simp [oneTra] at hf
  refine ⟨hks, ?_⟩
  obtain ⟨⟨xs, ys, r1⟩, _⟩ := kp_runs.1 hj
  have e1 : (TrimS t m).start = (rk (kpS t) t.start.toNat : Int) := by unfold TrimS; rw [if_pos hks]
  rw [e1] at r1
  obtain ⟨q, q0, q1, q2, q3⟩ := run_trim hr hks r1 t.start hr.start.1 hks rfl
  have hq := stp_rng hr.arcs (fwd := true) (fr := [t.start]) (fun f hf => by rw [List.mem_singleton.1 hf]; exact hr.start) (reach_up.2 ⟨_, _, q3⟩)
  exact ⟨q.toNat, by omega, q1, by omega⟩
/-- Trimming before a relabelling makes no difference. -/
theorem trim_relab {f : Int → Int → Int × Int} {t : Tra} {m : Nat} (hr : t.Rng m) : TrimS (relab f (TrimS t m)) (TrimS t m).states.toNat = TrimS (relab f t) m := by
  by_cases hks : kpS t t.start.toNat = true
  · have e0 : (TrimS t m).states.toNat = rk (kpS t) m := by unfold TrimS; rw [if_pos hks]; simp
    have e1 : (TrimS t m).start = (rk (kpS t) t.start.toNat : Int) := by unfold TrimS; rw [if_pos hks]
    have e2 : (TrimS t m).finals = finS t m := by unfold TrimS; rw [if_pos hks]
    refine (trim_iso (φ := rk (kpS t)) (relab_rng hr) (relab_rng (trim_rng hr)) ⟨fun i hi hk => ?_, fun j hj hk => ?_, fun i i' hi' ki ki' hl => ?_, fun _ => ?_, fun _ => ?_, fun i hi hk => ?_, fun p q a b hp hq kp kq => ?_⟩).symm
    · rw [kp_relab] at hk ⊢
      exact ⟨by rw [e0]; exact rk_lt hk hi, kp_trim hr hk⟩
    · rw [kp_relab] at hk ⊢
      exact (trim_kept hr hk).2
    · rw [kp_relab] at ki
      exact rk_lt ki hl
    · show rk (kpS t) t.start.toNat = (TrimS t m).start.toNat
      rw [e1]; simp
    · rw [kp_relab]; exact hks
    · rw [kp_relab] at hk
      show (i : Int) ∈ t.finals ↔ _ ∈ (TrimS t m).finals
      rw [e2, mem_finS]
      constructor
      · intro h; exact ⟨i, hi, hk, h, rfl⟩
      · rintro ⟨j, _, h2, h3, h4⟩
        have : i = j := rk_inj hk h2 (by omega)
        subst this; exact h3
    · rw [kp_relab] at kp kq
      simp only [relab, List.mem_map]
      constructor
      · rintro ⟨x, hx, e⟩
        have hxr := hr.arcs x hx
        simp only [Arc.mk.injEq] at e
        obtain ⟨s1, s2, s3, s4⟩ := e
        refine ⟨_, (mem_trimA hks).2 ⟨x, hx, by rw [s1, Int.toNat_natCast]; exact kp, by rw [s2, Int.toNat_natCast]; exact kq, rfl⟩, ?_⟩
        rw [s1, s2, Int.toNat_natCast, Int.toNat_natCast, s3, s4]
      · rintro ⟨z, hz, e⟩
        obtain ⟨x, hx, h1, h2, rfl⟩ := (mem_trimA hks).1 hz
        have hxr := hr.arcs x hx
        simp only [Arc.mk.injEq] at e
        obtain ⟨s1, s2, s3, s4⟩ := e
        have g1 : x.src.toNat = p := rk_inj h1 kp (by omega)
        have g2 : x.dst.toNat = q := rk_inj h2 kq (by omega)
        refine ⟨x, hx, ?_⟩
        simp only [Arc.mk.injEq]
        exact ⟨by omega, by omega, s3, s4⟩
  · have e0 : TrimS t m = oneTra := by unfold TrimS; rw [if_neg hks]
    rw [e0]
    have h1 : TrimS (relab f t) m = oneTra := by unfold TrimS; rw [kp_relab]; exact if_neg hks
    rw [h1]
    unfold TrimS
    rw [if_neg]
    rw [kp_relab, kp_runs]
    rintro ⟨_, g, hg, _⟩
    simp [relab, oneTra] at hg
theorem relab_id (t : Tra) : relab (fun a b => (a, b)) t = t := by
  cases t with
  | mk a b c d => simp [relab]
theorem relab_relab (f g : Int → Int → Int × Int) (t : Tra) : relab f (relab g t) = relab (fun a b => f (g a b).1 (g a b).2) t := by
  cases t with
  | mk a b c d => simp [relab]
theorem trim_trim {t : Tra} {m : Nat} (hr : t.Rng m) : TrimS (TrimS t m) (TrimS t m).states.toNat = TrimS t m := by
  have := trim_relab (f := fun a b => (a, b)) hr
  rw [relab_id, relab_id] at this; exact this
end Go.Proofs.YtfepjcmjkaolgaaDoor.G

set_option linter.all false
namespace Go.Proofs.YtfepjcmjkaolgaaDoor.G
open Go Go.RowKit
theorem q_to {P : Program} {n : Nat} {ops : Array Oper} {S : World → Prop} {o : Oper} {e : Env} {v v' : Value} (h : v = v') (q : Quiet P n ops S o e v) : Quiet P n ops S o e v' := h ▸ q
theorem q_neqB {P : Program} {n : Nat} {ops : Array Oper} {S : World → Prop} {e : Env} {dst : Option Tmp} {ty : TypeId} {pos : String} {af : Array Go.Edge} {T T2 : TypeId} {x y : Operand} {a b : Bool} (hu : P.underlying T = some .bool) (hx : evo e x = some (.bool a)) (hy : evo e y = some (.bool b)) : Quiet P n ops S ⟨dst, .binOp .neq T x y T2, ty, pos, af, none⟩ e (.bool (a != b)) := by
  replace hx := ev_of hx
  replace hy := ev_of hy
  exact q_of rfl fun w _ => by rw [run_bin_bool w hx hy]; simp only [Sem.run_bind, run_neq_bool w T a b hu, Result.andThen_ok, Sem.run_pure]; rfl
theorem validT_lab {t : Tra} (h : validT t = true) : ∀ x ∈ t.arcs, vRune x.inp = true ∧ vRune x.out = true := fun x hx => by
  simp only [validT, Bool.and_eq_true] at h
  have := List.all_eq_true.1 h.2.1.2 x hx
  simp only [arcOk, Bool.not_eq_true', Bool.or_eq_false_iff, Bool.not_eq_false'] at this
  exact ⟨this.1.2, this.2⟩
theorem trimP_of {t : Tra} {m : Nat} (hv : validT t = true) (hm : t.states = m) : TrimP t = TrimS t m := by
  rw [TrimP, if_pos hv, hm, Int.toNat_natCast]
/-- Trimming keeps. -/
theorem keeps_law {t : Tra} (hv : validT t = true) : validT (TrimP t) = true ∧ (TrimP t).states ≤ t.states ∧ (∀ x y, relS (TrimP t) x y = relS t x y) ∧ emptyS (TrimP t) = emptyS t ∧ TrimP (TrimP t) = TrimP t := by
  obtain ⟨m, ha, hfa⟩ := valid_rng hv
  have hr := ha.rng hfa
  have hr2 := trim_rng hr
  have e := trimP_of hv ha.st
  have hst : (TrimS t m).states ≤ m := by
    have := rk_le (kpS t) m
    have := ha.pos
    unfold TrimS; split
    · simp only []; omega
    · simp only [oneTra]; omega
  have hal : (TrimS t m).arcs.length ≤ 4096 := by
    unfold TrimS; split
    · simp only []
      have h1 := canon_len (t.arcs.flatMap (arcS t))
      have h2 := flat_len (f := arcS t) (B := 1) (fun x => by unfold arcS; split <;> simp) t.arcs
      have := ha.alen
      omega
    · simp [oneTra]
  have hm := ha.le
  have hv2 : validT (TrimS t m) = true := valid_trim hr (validT_lab hv) (by omega) hal
  rw [e]
  refine ⟨hv2, by rw [ha.st]; exact hst, fun x y => ?_, ?_, ?_⟩
  · rw [relS, relS, hv2, hv]
    congr 1
    rw [Bool.eq_iff_iff, relB_iff, relB_iff, rel_trim hr]
  · rw [empty_kp hr2.start.1 hv2, empty_kp hr.start.1 hv]
    congr 1
    rw [Bool.eq_iff_iff, kp_rel hr2.start.1, kp_rel hr.start.1]
    exact exists_congr fun xs => exists_congr fun ys => rel_trim hr
  · rw [TrimP, if_pos hv2, trim_trim hr]
/-! Step -/
def StepP (t : Tra) (ss : List Int) (r : Int) (out : List Int) : Prop := (validT t = false → out = []) ∧ (validT t = true → ∃ (m : Nat) (bs1 bs2 : List Bool), t.Ok m ∧ (bs1.length = m ∧ ∀ s, bt bs1 s ↔ Reach (epsN t) (· ∈ frS t ss) s) ∧ (r = 0 → bs2 = bs1) ∧ (r ≠ 0 → bs2.length = m ∧ ∀ s, bt bs2 s ↔ Reach (epsN t) (· ∈ nxR t bs1 r m) s) ∧ out = onL bs2 m)
theorem bs_uniq {bs bs' : List Bool} (hl : bs.length = bs'.length) (h : ∀ s, bt bs s ↔ bt bs' s) : bs = bs' := by
  refine List.ext_getElem hl fun i h1 h2 => ?_
  have := h (i : Int)
  unfold bt at this
  rw [Int.toNat_natCast, List.getElem?_eq_getElem h1, List.getElem?_eq_getElem h2] at this
  simp only [Option.some.injEq] at this
  rw [Bool.eq_iff_iff]
  exact ⟨fun k => (this.1 ⟨by omega, k⟩).2, fun k => (this.2 ⟨by omega, k⟩).2⟩
theorem stepP_uniq {t : Tra} {ss : List Int} {r : Int} {out out' : List Int} (h : StepP t ss r out) (h' : StepP t ss r out') : out = out' := by
  cases hv : validT t with
  | false => rw [h.1 hv, h'.1 hv]
  | true =>
    obtain ⟨m, b1, b2, ha, h1, h2, h3, rfl⟩ := h.2 hv
    obtain ⟨m', b1', b2', ha', h1', h2', h3', rfl⟩ := h'.2 hv
    obtain rfl : m = m' := by have := ha.st; have := ha'.st; omega
    obtain rfl : b1 = b1' := bs_uniq (by rw [h1.1, h1'.1]) fun s => by rw [h1.2, h1'.2]
    by_cases hr : r = 0
    · rw [h2 hr, h2' hr]
    · obtain rfl : b2 = b2' := bs_uniq (by rw [(h3 hr).1, (h3' hr).1]) fun s => by rw [(h3 hr).2, (h3' hr).2]
      rfl
theorem reach_ext {α : Type} {E E' : α → List α} {S S' : α → Prop} (h : ∀ s d, d ∈ E s ↔ d ∈ E' s) (hS : ∀ s, S s ↔ S' s) {s : α} : Reach E S s ↔ Reach E' S' s := by
  constructor
  · intro k
    induction k with
    | base hb => exact .base ((hS _).1 hb)
    | tail _ hy ih => exact .tail ih ((h _ _).1 hy)
  · intro k
    induction k with
    | base hb => exact .base ((hS _).2 hb)
    | tail _ hy ih => exact .tail ih ((h _ _).2 hy)
def epsT (t : Tra) : Tra := ⟨t.states, 0, [], t.arcs.filter fun x => decide (x.inp = 0)⟩
theorem stp_epsT {t : Tra} (s d : Int) : d ∈ stp (epsT t) true s ↔ d ∈ epsN t s := by
  rw [mem_stp]
  simp only [epsN, Tra.outs, epsT, List.mem_map, List.mem_filter, decide_eq_true_eq, eA, eB, if_true]
  constructor
  · rintro ⟨x, ⟨h1, h2⟩, h3, h4⟩; exact ⟨x, ⟨⟨h1, h3⟩, h2⟩, h4⟩
  · rintro ⟨x, ⟨⟨h1, h3⟩, h2⟩, h4⟩; exact ⟨x, ⟨h1, h2⟩, h3, h4⟩
end Go.Proofs.YtfepjcmjkaolgaaDoor.G
