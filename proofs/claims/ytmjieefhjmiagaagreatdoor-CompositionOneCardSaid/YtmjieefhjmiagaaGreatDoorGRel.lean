/- The trimmed transducer, spelt out; what Compose makes is the trimmed raw composition. Plain Lean. -/
/- What a transducer relates: paths. Composition, trimming. Plain Lean. -/
import Derived.Test.YtmjieefhjmiagaaGreatDoorGRef
set_option linter.all false
namespace Go.Proofs.YtmjieefhjmiagaaGreatDoor.G
open Go Go.RowKit Go.Sort Go.Shelf
theorem rk_mono {kp : Nat → Bool} {i j : Nat} (h : i ≤ j) : rk kp i ≤ rk kp j := by
  induction j with
  | zero => obtain rfl : i = 0 := by omega
            exact Nat.le_refl _
  | succ j ih =>
    by_cases e : i = j + 1
    · subst e; exact Nat.le_refl _
    · refine Nat.le_trans (ih (by omega)) ?_
      cases hk : kp j with
      | true => have := rk_hit hk; omega
      | false => rw [rk_skip hk]; exact Nat.le_refl _
theorem rk_lt {kp : Nat → Bool} {i j : Nat} (hk : kp i = true) (h : i < j) : rk kp i < rk kp j := by
  have h1 := rk_hit hk
  have h2 := rk_mono (kp := kp) (show i + 1 ≤ j by omega)
  omega
theorem rk_congr {kp kp' : Nat → Bool} {k : Nat} (h : ∀ i, i < k → kp i = kp' i) : rk kp k = rk kp' k := by
  unfold rk
  congr 1
  exact List.filter_congr fun i hi => h i (List.mem_range.1 hi)
theorem isorted_ext {l l' : List Int} (h1 : l.Pairwise (· < ·)) (h2 : l'.Pairwise (· < ·)) (h : ∀ x, x ∈ l ↔ x ∈ l') : l = l' :=
  ((List.perm_ext_iff_of_nodup (h1.imp fun h => Int.ne_of_lt h) (h2.imp fun h => Int.ne_of_lt h)).2 h).eq_of_pairwise (fun a b _ _ x y => by omega) h1 h2
/-! the trimmed transducer -/
open Classical in
noncomputable def kpS (t : Tra) (i : Nat) : Bool := decide (Reach (stp t true) (· ∈ [t.start]) (i : Int)) && decide (Reach (stp t false) (· ∈ t.finals) (i : Int))
theorem kpS_iff {t : Tra} {i : Nat} : kpS t i = true ↔ Reach (stp t true) (· ∈ [t.start]) (i : Int) ∧ Reach (stp t false) (· ∈ t.finals) (i : Int) := by simp [kpS]
noncomputable def finS (t : Tra) (m : Nat) : List Int := ((List.range m).filter fun i => kpS t i && decide ((i : Int) ∈ t.finals)).map fun i => (rk (kpS t) i : Int)
noncomputable def arcS (t : Tra) (x : Arc) : List Arc := if (kpS t x.src.toNat && kpS t x.dst.toNat) = true then [⟨(rk (kpS t) x.src.toNat : Int), (rk (kpS t) x.dst.toNat : Int), x.inp, x.out⟩] else []
noncomputable def TrimS (t : Tra) (m : Nat) : Tra := if kpS t t.start.toNat = true then ⟨(rk (kpS t) m : Int), (rk (kpS t) t.start.toNat : Int), finS t m, canon (t.arcs.flatMap (arcS t))⟩ else oneTra
/-- All numbers are in range. -/
structure Tra.Rng (t : Tra) (m : Nat) : Prop where
  start : 0 ≤ t.start ∧ t.start < m
  fin : ∀ f ∈ t.finals, 0 ≤ f ∧ f < m
  arcs : ∀ x ∈ t.arcs, (0 ≤ x.src ∧ x.src < m) ∧ 0 ≤ x.dst ∧ x.dst < m
theorem finS_sorted (t : Tra) (m : Nat) : (finS t m).Pairwise (· < ·) := by
  unfold finS
  rw [List.pairwise_map]
  refine (List.pairwise_lt_range (n := m)).filter _ |>.imp_of_mem fun {a b} ha hb h => ?_
  have := (List.mem_filter.1 ha).2
  simp only [Bool.and_eq_true] at this
  have := rk_lt this.1 h
  omega
theorem mem_finS {t : Tra} {m : Nat} {x : Int} : x ∈ finS t m ↔ ∃ i : Nat, i < m ∧ kpS t i = true ∧ (i : Int) ∈ t.finals ∧ x = (rk (kpS t) i : Int) := by
  simp only [finS, List.mem_map, List.mem_filter, List.mem_range, Bool.and_eq_true, decide_eq_true_eq]
  constructor
  · rintro ⟨i, ⟨h1, h2, h3⟩, rfl⟩; exact ⟨i, h1, h2, h3, rfl⟩
  · rintro ⟨i, h1, h2, h3, rfl⟩; exact ⟨i, ⟨h1, h2, h3⟩, rfl⟩
theorem up_start (t : Tra) : Reach (stp t true) (· ∈ [t.start]) t.start := .base (by simp)
theorem up_arc {t : Tra} {x : Arc} (hx : x ∈ t.arcs) (h : Reach (stp t true) (· ∈ [t.start]) x.src) : Reach (stp t true) (· ∈ [t.start]) x.dst := .tail h (mem_stp.2 ⟨x, hx, rfl, rfl⟩)
theorem dn_arc {t : Tra} {x : Arc} (hx : x ∈ t.arcs) (h : Reach (stp t false) (· ∈ t.finals) x.dst) : Reach (stp t false) (· ∈ t.finals) x.src := .tail h (mem_stp.2 ⟨x, hx, rfl, rfl⟩)
section
variable {t : Tra} {m : Nat} {up dn : List Bool}
theorem getD_bt {l : List Bool} {i : Nat} : l.getD i false = true ↔ bt l (i : Int) := by
  unfold bt
  simp only [Int.toNat_natCast, List.getD_eq_getElem?_getD]
  cases l[i]? with
  | none => simp
  | some b => simp
theorem kpB_S (hup : ∀ s, bt up s ↔ Reach (stp t true) (· ∈ [t.start]) s) (hdn : ∀ s, bt dn s ↔ Reach (stp t false) (· ∈ t.finals) s) (i : Nat) : kpB up dn i = kpS t i := by
  rw [Bool.eq_iff_iff, kpS_iff, kpB, Bool.and_eq_true, getD_bt, getD_bt, hup, hdn]
theorem fin_flat {f : Int → List Int} {kp : Nat → Bool} (hf : ∀ i, f i = if kp i.toNat = true then [(rk kp i.toNat : Int)] else []) : ∀ {l : List Int}, l.Pairwise (· < ·) → (∀ x ∈ l, 0 ≤ x) → (l.flatMap f).Pairwise (· < ·)
  | [], _, _ => by simp
  | x :: l, h, h0 => by
    obtain ⟨h1, h2⟩ := List.pairwise_cons.1 h
    rw [List.flatMap_cons]
    refine List.pairwise_append.2 ⟨by rw [hf]; split <;> simp, fin_flat hf h2 (fun y hy => h0 y (List.mem_cons_of_mem _ hy)), fun a ha b hb => ?_⟩
    obtain ⟨y, hy, hb⟩ := List.mem_flatMap.1 hb
    rw [hf] at ha hb
    split at ha
    · rename_i hk
      split at hb
      · have hx0 := h0 x (by simp)
        have := h1 y hy
        have := rk_lt hk (show x.toNat < y.toNat by omega)
        simp at ha hb
        omega
      · simp at hb
    · simp at ha
theorem trimT_S (hr : t.Rng m) (hfs : t.finals.Pairwise (· < ·)) (hup : ∀ s, bt up s ↔ Reach (stp t true) (· ∈ [t.start]) s) (hdn : ∀ s, bt dn s ↔ Reach (stp t false) (· ∈ t.finals) s) : trimT t m up dn = TrimS t m := by
  have hkp : kpB up dn = kpS t := funext (kpB_S hup hdn)
  have hst : ((t.start.toNat : Nat) : Int) = t.start := Int.toNat_of_nonneg hr.start.1
  have hc : dn.getD t.start.toNat false = kpS t t.start.toNat := by
    rw [Bool.eq_iff_iff, getD_bt, hdn, kpS_iff, hst]
    exact ⟨fun h => ⟨up_start t, h⟩, fun h => h.2⟩
  unfold trimT TrimS
  rw [hc, hkp]
  by_cases hk : kpS t t.start.toNat = true
  · rw [if_pos hk, if_pos hk]
    congr 1
    · rw [nu, if_pos hk]
    · have hfin : ∀ f ∈ t.finals, up.getD f.toNat false = kpS t f.toNat := fun f hf => by
        have h0 : ((f.toNat : Nat) : Int) = f := Int.toNat_of_nonneg (hr.fin f hf).1
        rw [Bool.eq_iff_iff, getD_bt, hup, kpS_iff, h0]
        exact ⟨fun h => ⟨h, .base hf⟩, fun h => h.1⟩
      have e : t.finals.flatMap (finG up dn) = t.finals.flatMap fun f => if kpS t f.toNat = true then [(rk (kpS t) f.toNat : Int)] else [] := by
        rw [List.flatMap_def, List.flatMap_def]
        congr 1
        refine List.map_congr_left fun f hf => ?_
        rw [finG, hfin f hf, hkp]
        split
        · rename_i h; rw [nu, if_pos h]
        · rfl
      rw [e]
      refine isorted_ext (fin_flat (fun _ => rfl) hfs fun f hf => (hr.fin f hf).1) (finS_sorted t m) fun x => ?_
      rw [mem_finS, List.mem_flatMap]
      constructor
      · rintro ⟨f, hf, hx⟩
        have h0 := hr.fin f hf
        split at hx
        · rename_i h; exact ⟨f.toNat, by omega, h, by rw [Int.toNat_of_nonneg h0.1]; exact hf, by simpa using hx⟩
        · simp at hx
      · rintro ⟨i, hi, h1, h2, rfl⟩
        exact ⟨(i : Int), h2, by simp [h1]⟩
    · refine canon_congr fun z => ?_
      rw [List.mem_flatMap, List.mem_flatMap]
      refine exists_congr fun x => and_congr_right fun hx => ?_
      have hxr := hr.arcs x hx
      have hs : ((x.src.toNat : Nat) : Int) = x.src := Int.toNat_of_nonneg hxr.1.1
      have hd : ((x.dst.toNat : Nat) : Int) = x.dst := Int.toNat_of_nonneg hxr.2.1
      have hcond : (up.getD x.src.toNat false && dn.getD x.dst.toNat false) = (kpS t x.src.toNat && kpS t x.dst.toNat) := by
        rw [Bool.eq_iff_iff, Bool.and_eq_true, Bool.and_eq_true, getD_bt, getD_bt, hup, hdn, kpS_iff, kpS_iff, hs, hd]
        exact ⟨fun h => ⟨⟨h.1, dn_arc hx h.2⟩, up_arc hx h.1, h.2⟩, fun h => ⟨h.1.1, h.2.2⟩⟩
      rw [arcG, arcS, hcond, hkp]
      split
      · rename_i h
        rw [Bool.and_eq_true] at h
        rw [nu, nu, if_pos h.1, if_pos h.2]
      · rfl
  · rw [if_neg hk, if_neg hk]
end
/-! the raw composition's numbers -/
def enc (n : Nat) (s : Pair) : Int := s.p * (n : Int) + s.q
def encA (n : Nat) (e : Edge) : Arc := ⟨enc n e.src, enc n e.dst, e.inp, e.out⟩
theorem ltPair_tri (s s' : Pair) : ltPair s s' ∨ s = s' ∨ ltPair s' s := by
  by_cases h1 : ltPair s s'
  · exact .inl h1
  · by_cases h2 : ltPair s' s
    · exact .inr (.inr h2)
    · exact .inr (.inl (totP s s' ((ltP' s s').2 h1) ((ltP' s' s).2 h2)))
section
variable {m n : Nat} {s s' : Pair}
theorem enc_lt (h : s ∈ rect m n) (h' : s' ∈ rect m n) (hl : ltPair s s') : enc n s < enc n s' := by
  rw [mem_rect] at h h'
  unfold enc
  rcases hl with hl | ⟨e, hl⟩
  · have h2 : (s.p + 1) * (n : Int) ≤ s'.p * (n : Int) := Int.mul_le_mul_of_nonneg_right (by omega) (by omega)
    rw [Int.add_mul, Int.one_mul] at h2
    omega
  · rw [e]; omega
theorem enc_inj (h : s ∈ rect m n) (h' : s' ∈ rect m n) (e : enc n s = enc n s') : s = s' := by
  rcases ltPair_tri s s' with hl | hl | hl
  · have := enc_lt h h' hl; omega
  · exact hl
  · have := enc_lt h' h hl; omega
theorem enc_rng (h : s ∈ rect m n) : 0 ≤ enc n s ∧ enc n s < ((m * n : Nat) : Int) := by
  rw [mem_rect] at h
  exact raw_rng h.1 h.2
theorem enc_sur {k : Nat} (h : k < m * n) : ∃ s ∈ rect m n, enc n s = (k : Int) := by
  have hn : 0 < n := by
    rcases Nat.eq_zero_or_pos n with e | e
    · subst e; simp at h
    · exact e
  have h1 : k / n < m := Nat.div_lt_of_lt_mul (by rw [Nat.mul_comm]; exact h)
  have h2 := Nat.mod_lt k hn
  refine ⟨⟨((k / n : Nat) : Int), ((k % n : Nat) : Int)⟩, mem_rect.2 ⟨⟨Int.natCast_nonneg _, Int.ofNat_lt.2 h1⟩, Int.natCast_nonneg _, Int.ofNat_lt.2 h2⟩, ?_⟩
  have h3 := Nat.div_add_mod k n
  unfold enc
  simp only []
  rw [← Int.natCast_mul, ← Int.natCast_add, Nat.mul_comm, h3]
theorem mem_compE {a b : Tra} {e : Edge} : e ∈ compE a b s ↔ (∃ x ∈ a.arcs, x.src = s.p ∧ x.out = 0 ∧ e = ⟨s, ⟨x.dst, s.q⟩, x.inp, 0⟩) ∨ (∃ x ∈ a.arcs, ∃ y ∈ b.arcs, x.src = s.p ∧ y.src = s.q ∧ x.out ≠ 0 ∧ y.inp = x.out ∧ e = ⟨s, ⟨x.dst, y.dst⟩, x.inp, y.out⟩) ∨ (∃ y ∈ b.arcs, y.src = s.q ∧ y.inp = 0 ∧ e = ⟨s, ⟨s.p, y.dst⟩, 0, y.out⟩) := by
  simp only [compE, edgL, List.mem_append, List.mem_flatMap, Tra.outs, List.mem_filter, decide_eq_true_eq]
  constructor
  · rintro (⟨x, ⟨hx, hs⟩, h⟩ | ⟨y, ⟨hy, hs⟩, h⟩)
    · unfold edg1 at h
      split at h
      · rename_i h0; exact .inl ⟨x, hx, hs, h0, by simpa using h⟩
      · rename_i h0
        simp only [List.mem_flatMap, List.mem_filter, decide_eq_true_eq] at h
        obtain ⟨y, ⟨hy, hys⟩, h⟩ := h
        unfold edgA at h
        split at h
        · rename_i h1; exact .inr (.inl ⟨x, hx, y, hy, hs, hys, h0, h1, by simpa using h⟩)
        · simp at h
    · unfold edgB at h
      split at h
      · rename_i h0; exact .inr (.inr ⟨y, hy, hs, h0, by simpa using h⟩)
      · simp at h
  · rintro (⟨x, hx, hs, h0, rfl⟩ | ⟨x, hx, y, hy, hs, hys, h0, h1, rfl⟩ | ⟨y, hy, hs, h0, rfl⟩)
    · exact .inl ⟨x, ⟨hx, hs⟩, by simp [edg1, h0]⟩
    · refine .inl ⟨x, ⟨hx, hs⟩, ?_⟩
      rw [edg1, if_neg h0]
      simp only [List.mem_flatMap, List.mem_filter, decide_eq_true_eq]
      exact ⟨y, ⟨hy, hys⟩, by simp [edgA, h1]⟩
    · exact .inr ⟨y, ⟨hy, hs⟩, by simp [edgB, h0]⟩
theorem mem_raw {a b : Tra} {z : Arc} : z ∈ (rawT a b).arcs ↔ (∃ x ∈ a.arcs, x.out = 0 ∧ ∃ q : Nat, q < b.states.toNat ∧ z = ⟨x.src * b.states + q, x.dst * b.states + q, x.inp, 0⟩) ∨ (∃ x ∈ a.arcs, ∃ y ∈ b.arcs, x.out ≠ 0 ∧ y.inp = x.out ∧ z = ⟨x.src * b.states + y.src, x.dst * b.states + y.dst, x.inp, y.out⟩) ∨ (∃ y ∈ b.arcs, y.inp = 0 ∧ ∃ p : Nat, p < a.states.toNat ∧ z = ⟨p * b.states + y.src, p * b.states + y.dst, 0, y.out⟩) := by
  simp only [rawT, List.mem_append, List.mem_flatMap]
  constructor
  · rintro (⟨x, hx, h⟩ | ⟨y, hy, h⟩)
    · unfold rawA at h
      split at h
      · rename_i h0
        simp only [List.mem_flatMap, List.mem_range] at h
        obtain ⟨q, hq, h⟩ := h
        exact .inl ⟨x, hx, h0, q, hq, by simpa [rawA0] using h⟩
      · rename_i h0
        simp only [List.mem_flatMap] at h
        obtain ⟨y, hy, h⟩ := h
        unfold rawA1 at h
        split at h
        · rename_i h1; exact .inr (.inl ⟨x, hx, y, hy, h0, h1, by simpa using h⟩)
        · simp at h
    · unfold rawB at h
      split at h
      · rename_i h0
        simp only [List.mem_flatMap, List.mem_range] at h
        obtain ⟨p, hp, h⟩ := h
        exact .inr (.inr ⟨y, hy, h0, p, hp, by simpa [rawB1] using h⟩)
      · simp at h
  · rintro (⟨x, hx, h0, q, hq, rfl⟩ | ⟨x, hx, y, hy, h0, h1, rfl⟩ | ⟨y, hy, h0, p, hp, rfl⟩)
    · refine .inl ⟨x, hx, ?_⟩
      rw [rawA, if_pos h0]
      exact List.mem_flatMap.2 ⟨q, List.mem_range.2 hq, by simp [rawA0]⟩
    · refine .inl ⟨x, hx, ?_⟩
      rw [rawA, if_neg h0]
      exact List.mem_flatMap.2 ⟨y, hy, by simp [rawA1, h1]⟩
    · refine .inr ⟨y, hy, ?_⟩
      rw [rawB, if_pos h0]
      exact List.mem_flatMap.2 ⟨p, List.mem_range.2 hp, by simp [rawB1]⟩
/-- The raw composition's arcs are the edges between pairs. -/
theorem raw_iff {a b : Tra} (ha : a.Ok m) (hb : b.Ok n) {z : Arc} : z ∈ (rawT a b).arcs ↔ ∃ s ∈ rect m n, ∃ e ∈ compE a b s, encA n e = z := by
  have hbs := hb.st
  have has := ha.st
  rw [mem_raw, hbs, has]
  simp only [Int.toNat_natCast]
  constructor
  · rintro (⟨x, hx, h0, q, hq, rfl⟩ | ⟨x, hx, y, hy, h0, h1, rfl⟩ | ⟨y, hy, h0, p, hp, rfl⟩)
    · have := ha.arcs x hx
      exact ⟨⟨x.src, q⟩, mem_rect.2 ⟨this.1, by simp only []; omega, by simp only []; omega⟩, _, mem_compE.2 (.inl ⟨x, hx, rfl, h0, rfl⟩), rfl⟩
    · have hxa := ha.arcs x hx
      have := hb.arcs y hy
      exact ⟨⟨x.src, y.src⟩, mem_rect.2 ⟨hxa.1, this.1⟩, _, mem_compE.2 (.inr (.inl ⟨x, hx, y, hy, rfl, rfl, h0, h1, rfl⟩)), rfl⟩
    · have := hb.arcs y hy
      exact ⟨⟨p, y.src⟩, mem_rect.2 ⟨⟨by simp only []; omega, by simp only []; omega⟩, this.1⟩, _, mem_compE.2 (.inr (.inr ⟨y, hy, rfl, h0, rfl⟩)), rfl⟩
  · rintro ⟨s, hs, e, he, rfl⟩
    rw [mem_rect] at hs
    rcases mem_compE.1 he with ⟨x, hx, hsp, h0, rfl⟩ | ⟨x, hx, y, hy, hsp, hsq, h0, h1, rfl⟩ | ⟨y, hy, hsq, h0, rfl⟩
    · refine .inl ⟨x, hx, h0, s.q.toNat, by omega, ?_⟩
      rw [Int.toNat_of_nonneg hs.2.1, hsp]; rfl
    · refine .inr (.inl ⟨x, hx, y, hy, h0, h1, ?_⟩)
      rw [hsp, hsq]; rfl
    · refine .inr (.inr ⟨y, hy, h0, s.p.toNat, by omega, ?_⟩)
      rw [Int.toNat_of_nonneg hs.1.1, hsq]; rfl
theorem mem_compE_src {a b : Tra} {e : Edge} (h : e ∈ compE a b s) : e.src = s := (mem_edgL h).1
end
/-! the states kept -/
section
variable {a b : Tra} {m n : Nat} {K U : List Pair}
theorem up_K (ha : a.Ok m) (hb : b.Ok n) (hK : Closure (compN a b) (· = ⟨a.start, b.start⟩) K) {k : Int} : Reach (stp (rawT a b) true) (· ∈ [(rawT a b).start]) k ↔ ∃ s ∈ K, enc n s = k := by
  have hst : (rawT a b).start = enc n ⟨a.start, b.start⟩ := by simp [rawT, enc, hb.st]
  have hin : ∀ s ∈ K, s ∈ rect m n := fun s hs => compN_rect ha hb s ((hK.mem s).1 hs)
  constructor
  · intro h
    induction h with
    | base h => exact ⟨⟨a.start, b.start⟩, (hK.mem _).2 (.base rfl), by rw [List.mem_singleton.1 h, hst]⟩
    | tail _ hy ih =>
      obtain ⟨s, hs, rfl⟩ := ih
      obtain ⟨z, hz, h1, rfl⟩ := mem_stp.1 hy
      obtain ⟨s', hs', e, he, rfl⟩ := (raw_iff ha hb).1 hz
      have hsrc := mem_compE_src he
      have : s' = s := enc_inj hs' (hin s hs) (by rw [← hsrc]; exact h1)
      subst this
      exact ⟨e.dst, (hK.mem _).2 (.tail ((hK.mem _).1 hs) (List.mem_map.2 ⟨e, he, rfl⟩)), rfl⟩
  · rintro ⟨s, hs, rfl⟩
    have h := (hK.mem s).1 hs
    clear hs
    induction h with
    | base h => subst h; rw [← hst]; exact .base (by simp)
    | @tail x y hx hy ih =>
      obtain ⟨e, he, rfl⟩ := List.mem_map.1 hy
      refine .tail ih (mem_stp.2 ⟨encA n e, (raw_iff ha hb).2 ⟨x, compN_rect ha hb x hx, e, he, rfl⟩, ?_, rfl⟩)
      show enc n e.src = _
      rw [mem_compE_src he]
theorem mem_bk {ls : List Edge} {s y : Pair} : y ∈ bk ls s ↔ ∃ e ∈ ls, e.dst = s ∧ e.src = y := by
  simp [bk, and_assoc]
theorem U_sub (hU : Closure (bk (K.flatMap (compE a b))) (fun x => x ∈ K ∧ x.p ∈ a.finals ∧ x.q ∈ b.finals) U) : ∀ s ∈ U, s ∈ K := by
  intro s hs
  have h := (hU.mem s).1 hs
  cases h with
  | base h => exact h.1
  | tail _ hy =>
    obtain ⟨e, he, _, rfl⟩ := mem_bk.1 hy
    obtain ⟨k, hk, he⟩ := List.mem_flatMap.1 he
    rw [mem_compE_src he]; exact hk
theorem dn_U (ha : a.Ok m) (hb : b.Ok n) (hfa : ∀ p ∈ a.finals, 0 ≤ p ∧ p < (m : Int)) (hfb : ∀ p ∈ b.finals, 0 ≤ p ∧ p < (n : Int)) (hK : Closure (compN a b) (· = ⟨a.start, b.start⟩) K) (hU : Closure (bk (K.flatMap (compE a b))) (fun x => x ∈ K ∧ x.p ∈ a.finals ∧ x.q ∈ b.finals) U) {s : Pair} (hs : s ∈ K) : Reach (stp (rawT a b) false) (· ∈ (rawT a b).finals) (enc n s) ↔ s ∈ U := by
  have hin : ∀ s ∈ K, s ∈ rect m n := fun s hs => compN_rect ha hb s ((hK.mem s).1 hs)
  constructor
  · intro h
    obtain ⟨k, hk⟩ : ∃ k, enc n s = k := ⟨_, rfl⟩
    rw [hk] at h
    induction h generalizing s with
    | @base x h =>
      obtain ⟨p, hp, h⟩ := List.mem_flatMap.1 h
      obtain ⟨q, hq, h⟩ := List.mem_flatMap.1 h
      have e : s = ⟨p, q⟩ := enc_inj (hin s hs) (mem_rect.2 ⟨hfa p hp, hfb q hq⟩) (by rw [hk, List.mem_singleton.1 h, enc, hb.st])
      refine (hU.mem s).2 (.base ⟨hs, ?_, ?_⟩) <;> rw [e] <;> assumption
    | tail _ hy ih =>
      obtain ⟨z, hz, h1, h2⟩ := mem_stp.1 hy
      obtain ⟨s', hs', e, he, rfl⟩ := (raw_iff ha hb).1 hz
      have hsrc := mem_compE_src he
      have : s' = s := enc_inj hs' (hin s hs) (by rw [← hsrc, hk]; exact h2)
      subst this
      have hd : e.dst ∈ K := (hK.mem _).2 (.tail ((hK.mem _).1 hs) (List.mem_map.2 ⟨e, he, rfl⟩))
      have := ih hd h1
      exact (hU.mem _).2 (.tail ((hU.mem _).1 this) (mem_bk.2 ⟨e, List.mem_flatMap.2 ⟨s', hs, he⟩, rfl, hsrc⟩))
  · intro h0
    have h := (hU.mem s).1 h0
    clear hs h0
    induction h with
    | @base x h => exact .base (List.mem_flatMap.2 ⟨x.p, h.2.1, List.mem_flatMap.2 ⟨x.q, h.2.2, by simp [rawF1, enc, hb.st]⟩⟩)
    | tail hx hy ih =>
      obtain ⟨e, he, rfl, rfl⟩ := mem_bk.1 hy
      obtain ⟨k, hk, he⟩ := List.mem_flatMap.1 he
      exact .tail ih (mem_stp.2 ⟨encA n e, (raw_iff ha hb).2 ⟨k, hin k hk, e, he, rfl⟩, rfl, rfl⟩)
theorem kp_U (ha : a.Ok m) (hb : b.Ok n) (hfa : ∀ p ∈ a.finals, 0 ≤ p ∧ p < (m : Int)) (hfb : ∀ p ∈ b.finals, 0 ≤ p ∧ p < (n : Int)) (hK : Closure (compN a b) (· = ⟨a.start, b.start⟩) K) (hU : Closure (bk (K.flatMap (compE a b))) (fun x => x ∈ K ∧ x.p ∈ a.finals ∧ x.q ∈ b.finals) U) {i : Nat} : kpS (rawT a b) i = true ↔ ∃ s ∈ U, enc n s = (i : Int) := by
  rw [kpS_iff, up_K ha hb hK]
  constructor
  · rintro ⟨⟨s, hs, e⟩, h⟩
    rw [← e, dn_U ha hb hfa hfb hK hU hs] at h
    exact ⟨s, h, e⟩
  · rintro ⟨s, hs, e⟩
    refine ⟨⟨s, U_sub hU s hs, e⟩, ?_⟩
    rw [← e, dn_U ha hb hfa hfb hK hU (U_sub hU s hs)]; exact hs
end
/-! the numbers of the states kept -/
theorem aget_numF : ∀ (i : Nat) {l : List Pair} (_ : l.Nodup) {j : Nat} {s : Pair}, l[j]? = some s → aget (numF i l) s = some ((i + j : Nat) : Int)
  | i, [], _, j, s, h => by simp at h
  | i, x :: l, hn, 0, s, h => by simp at h; subst h; simp [numF, aget]
  | i, x :: l, hn, j + 1, s, h => by
    simp at h
    obtain ⟨h1, h2⟩ := List.nodup_cons.1 hn
    have hne : ¬ x = s := fun e => h1 (e ▸ List.mem_of_getElem? h)
    simp only [numF, aget, if_neg hne]
    rw [aget_numF (i + 1) h2 h]
    congr 2; omega
theorem num_at {l : List Pair} (hn : l.Nodup) {j : Nat} {s : Pair} (h : l[j]? = some s) : num l s = (j : Int) := by
  rw [num, aget_numF 0 hn h]; simp
theorem mem_finF (a b : Tra) : ∀ (i : Nat) (l : List Pair) {x : Int}, x ∈ finF a b i l ↔ ∃ (j : Nat) (s : Pair), l[j]? = some s ∧ isFin a b s = true ∧ x = ((i + j : Nat) : Int)
  | i, [], x => by simp [finF]
  | i, y :: l, x => by
    simp only [finF, List.mem_append, mem_finF a b (i + 1) l]
    constructor
    · rintro (h | ⟨j, s, h1, h2, h3⟩)
      · split at h
        · rename_i hf; exact ⟨0, y, rfl, hf, by simpa using h⟩
        · simp at h
      · exact ⟨j + 1, s, by simpa using h1, h2, by rw [h3]; congr 1; omega⟩
    · rintro ⟨j, s, h1, h2, h3⟩
      cases j with
      | zero => simp at h1; subst h1; left; rw [if_pos h2]; simp [h3]
      | succ j => right; exact ⟨j, s, by simpa using h1, h2, by rw [h3]; congr 1; omega⟩
theorem finF_sorted (a b : Tra) : ∀ (i : Nat) (l : List Pair), (finF a b i l).Pairwise (· < ·)
  | i, [] => by simp [finF]
  | i, y :: l => by
    simp only [finF]
    refine List.pairwise_append.2 ⟨by split <;> simp, finF_sorted a b (i + 1) l, fun x hx z hz => ?_⟩
    obtain ⟨j, s, _, _, h3⟩ := (mem_finF a b (i + 1) l).1 hz
    split at hx
    · simp at hx; omega
    · simp at hx
theorem srtP_sorted {U : List Pair} (hn : U.Nodup) : (srtP U).Pairwise ltPair := by
  have tr : ∀ a b c : Pair, (!(ltOf ordP) b a) = true → (!(ltOf ordP) c b) = true → (!(ltOf ordP) c a) = true := fun a b c h1 h2 => by
    simp only [Bool.not_eq_true'] at *
    exact swoP.ntrans _ _ _ h2 h1
  have to : ∀ a b : Pair, (!(ltOf ordP) b a || !(ltOf ordP) a b) = true := fun a b => by
    cases h1 : ltOf ordP b a with
    | false => rfl
    | true =>
      cases h2 : ltOf ordP a b with
      | false => rfl
      | true => have := swoP.trans _ _ _ h1 h2; rw [swoP.irrefl] at this; cases this
  have h1 : (srtP U).Pairwise fun a b => ¬ ltPair b a := (List.pairwise_mergeSort tr to U).imp fun {a b} h => (ltP' b a).1 (by simpa using h)
  refine (h1.and (srtP_nodup hn)).imp fun {x y} h => ?_
  rcases ltPair_tri x y with hl | hl | hl
  · exact hl
  · exact absurd hl h.2
  · exact absurd hl h.1
section
variable {a b : Tra} {m n : Nat} {U : List Pair} {kp : Nat → Bool}
/-- The sorted pairs and the kept numbers are one list. -/
theorem srt_map (hn : U.Nodup) (hin : ∀ s ∈ U, s ∈ rect m n) (hk : ∀ i : Nat, kp i = true ↔ ∃ s ∈ U, enc n s = (i : Int)) : (srtP U).map (enc n) = ((List.range (m * n)).filter kp).map fun (i : Nat) => (i : Int) := by
  refine isorted_ext ?_ ?_ fun x => ?_
  · rw [List.pairwise_map]
    exact (srtP_sorted hn).imp_of_mem fun {x y} hx hy h => enc_lt (hin x (srtP_mem.1 hx)) (hin y (srtP_mem.1 hy)) h
  · rw [List.pairwise_map]
    exact ((List.pairwise_lt_range (n := m * n)).filter _).imp fun {x y} h => by omega
  · simp only [List.mem_map, List.mem_filter, List.mem_range]
    constructor
    · rintro ⟨s, hs, rfl⟩
      have hs' := srtP_mem.1 hs
      have hr := enc_rng (hin s hs')
      exact ⟨(enc n s).toNat, ⟨by omega, (hk _).2 ⟨s, hs', by omega⟩⟩, by omega⟩
    · rintro ⟨i, ⟨_, hi⟩, rfl⟩
      obtain ⟨s, hs, e⟩ := (hk i).1 hi
      exact ⟨s, srtP_mem.2 hs, e⟩
theorem filt_at {N i : Nat} (hi : i < N) (hk : kp i = true) : ((List.range N).filter kp)[rk kp i]? = some i := by
  have e : List.range N = List.range i ++ (i :: (List.range' (i + 1) (N - (i + 1)))) := by
    apply List.ext_getElem?
    intro j
    rw [List.getElem?_append]
    simp only [List.length_range]
    split
    · rename_i h
      rw [List.getElem?_range (by omega), List.getElem?_range h]
    · rename_i h
      by_cases hj : j < N
      · rw [List.getElem?_range hj]
        by_cases hji : j = i
        · subst hji; simp
        · obtain ⟨q, rfl⟩ : ∃ q, j = i + 1 + q := ⟨j - i - 1, by omega⟩
          rw [show i + 1 + q - i = q + 1 by omega, List.getElem?_cons_succ, List.getElem?_range' (by omega)]
          simp
      · rw [List.getElem?_eq_none (by simp; omega), List.getElem?_eq_none (by simp; omega)]
  rw [e, List.filter_append, List.filter_cons, if_pos hk]
  rw [List.getElem?_append_right (by unfold rk; exact Nat.le_refl _)]
  simp [rk]
theorem num_rk (hn : U.Nodup) (hin : ∀ s ∈ U, s ∈ rect m n) (hk : ∀ i : Nat, kp i = true ↔ ∃ s ∈ U, enc n s = (i : Int)) {s : Pair} (hs : s ∈ U) : num (srtP U) s = (rk kp (enc n s).toNat : Int) ∧ (srtP U)[rk kp (enc n s).toNat]? = some s := by
  have hr := enc_rng (hin s hs)
  have h1 := filt_at (kp := kp) (N := m * n) (i := (enc n s).toNat) (by omega) ((hk _).2 ⟨s, hs, by omega⟩)
  have h2 : ((srtP U).map (enc n))[rk kp (enc n s).toNat]? = some (enc n s) := by
    rw [srt_map hn hin hk, List.getElem?_map, h1]
    simp; omega
  rw [List.getElem?_map] at h2
  obtain ⟨s', hs', e⟩ := Option.map_eq_some_iff.1 h2
  have : s' = s := enc_inj (hin s' (srtP_mem.1 (List.mem_of_getElem? hs'))) (hin s hs) e
  subst this
  exact ⟨num_at (srtP_nodup hn) hs', hs'⟩
theorem len_rk (hn : U.Nodup) (hin : ∀ s ∈ U, s ∈ rect m n) (hk : ∀ i : Nat, kp i = true ↔ ∃ s ∈ U, enc n s = (i : Int)) : U.length = rk kp (m * n) := by
  have := congrArg List.length (srt_map hn hin hk)
  simpa [srtP_len, rk] using this
end
/-! Compose -/
def limS (t : Tra) : Tra × Int := if (decide (512 < t.states) || decide (4096 < (t.arcs.length : Int))) = true then (zeroTra, 2) else (t, 0)
noncomputable def CompS (a b : Tra) : Tra × Int := if (!(validT a) || !(validT b)) = true then (zeroTra, 1) else limS (TrimS (rawT a b) (a.states.toNat * b.states.toNat))
theorem validT_sorted {t : Tra} (h : validT t = true) : t.finals.Pairwise (· < ·) := by
  simp only [validT, Bool.and_eq_true] at h
  have h4 := h.2.1.1
  have hstep : ∀ i, i + 1 < t.finals.length → t.finals.getD i 0 < t.finals.getD (i + 1) 0 := fun i hi => by
    have := List.all_eq_true.1 h4 (i + 1) (List.mem_range.2 hi)
    simp only [finAt, Bool.not_eq_true', Bool.or_eq_false_iff, Bool.and_eq_false_imp, decide_eq_true_eq] at this
    have := this.2 (by omega)
    simpa using this
  have hmono : ∀ j, j < t.finals.length → ∀ i, i < j → t.finals.getD i 0 < t.finals.getD j 0 := by
    intro j
    induction j with
    | zero => intro _ i hi; omega
    | succ j ih =>
      intro hj i hi
      have h1 := hstep j hj
      by_cases e : i = j
      · subst e; exact h1
      · exact Int.lt_trans (ih (by omega) i (by omega)) h1
  refine List.pairwise_iff_getElem.2 fun i j hi hj hij => ?_
  have := hmono j hj i hij
  rwa [getD_of (List.getElem?_eq_getElem hj), getD_of (List.getElem?_eq_getElem hi)] at this
theorem raw_sorted {a b : Tra} {m n : Nat} (hb : b.Ok n) (hfa : ∀ p ∈ a.finals, 0 ≤ p ∧ p < (m : Int)) (hfb : ∀ p ∈ b.finals, 0 ≤ p ∧ p < (n : Int)) (ha : a.finals.Pairwise (· < ·)) (hbs : b.finals.Pairwise (· < ·)) : (rawT a b).finals.Pairwise (· < ·) := by
  show (a.finals.flatMap (rawF b)).Pairwise (· < ·)
  have e : ∀ p, rawF b p = b.finals.map fun q => enc n ⟨p, q⟩ := fun p => by
    rw [rawF, List.flatMap_def]
    have : b.finals.map (rawF1 b p) = (b.finals.map fun q => enc n ⟨p, q⟩).map fun x => [x] := by
      rw [List.map_map]; exact List.map_congr_left fun q _ => by simp [rawF1, enc, hb.st]
    rw [this]
    generalize (b.finals.map fun q => enc n ⟨p, q⟩) = l
    induction l with
    | nil => rfl
    | cons x l ih => simp [ih]
  have hel : ∀ {l : List Int}, (∀ p ∈ l, p ∈ a.finals) → l.Pairwise (· < ·) → (l.flatMap (rawF b)).Pairwise (· < ·) := by
    intro l
    induction l with
    | nil => intros; simp
    | cons p l ih =>
      intro hl h
      obtain ⟨h1, h2⟩ := List.pairwise_cons.1 h
      rw [List.flatMap_cons]
      refine List.pairwise_append.2 ⟨?_, ih (fun q hq => hl q (List.mem_cons_of_mem _ hq)) h2, fun x hx y hy => ?_⟩
      · rw [e, List.pairwise_map]
        exact hbs.imp fun {x y} h => by unfold enc; simp only []; omega
      · obtain ⟨p', hp', hy⟩ := List.mem_flatMap.1 hy
        rw [e] at hx hy
        obtain ⟨q, hq, rfl⟩ := List.mem_map.1 hx
        obtain ⟨q', hq', rfl⟩ := List.mem_map.1 hy
        exact enc_lt (m := m) (mem_rect.2 ⟨hfa p (hl p (by simp)), hfb q hq⟩) (mem_rect.2 ⟨hfa p' (hl p' (List.mem_cons_of_mem _ hp')), hfb q' hq'⟩) (.inl (h1 p' hp'))
  exact hel (fun _ h => h) ha
theorem ref_S {a b t : Tra} {e : Int} (h : RefRes a b t e) : (t, e) = CompS a b := by
  unfold RefRes at h
  unfold CompS
  by_cases hv : (!(validT a) || !(validT b)) = true
  · rw [if_pos hv] at h ⊢
    rw [h.1, h.2]
  · rw [if_neg hv] at h ⊢
    obtain ⟨up, dn, hul, hdl, hup, hdn, h⟩ := h
    have hvv : validT a = true ∧ validT b = true := by simpa using hv
    have hva := hvv.1
    have hvb := hvv.2
    obtain ⟨m, ha, hfa, hfal⟩ := validT_ok hva
    obtain ⟨n, hb, hfb, hfbl⟩ := validT_ok hvb
    have hra : ∀ p ∈ a.finals, 0 ≤ p ∧ p < (m : Int) := fun p hp => by have := validT_fin hva p hp; rwa [ha.st] at this
    have hrb : ∀ p ∈ b.finals, 0 ≤ p ∧ p < (n : Int) := fun p hp => by have := validT_fin hvb p hp; rwa [hb.st] at this
    have hN : a.states.toNat * b.states.toNat = m * n := by rw [ha.st, hb.st]; rfl
    rw [hN] at h ⊢
    have hrng : (rawT a b).Rng (m * n) := ⟨by have := raw_rng ha.start hb.start; rw [← hb.st] at this; exact this, raw_fin hb hra hrb, raw_arcs ha hb⟩
    rw [trimT_S hrng (raw_sorted hb hra hrb (validT_sorted hva) (validT_sorted hvb)) hup hdn] at h
    unfold limS
    split at h
    · rename_i hc; rw [if_pos hc, h.1, h.2]
    · rename_i hc; rw [if_neg hc, h.1, h.2]
theorem cmp_S {a b t : Tra} {e : Int} (h : CmpRes a b t e) : (t, e) = CompS a b := by
  unfold CmpRes at h
  unfold CompS
  by_cases hv : (!(validT a) || !(validT b)) = true
  · rw [if_pos hv] at h ⊢
    rw [h.1, h.2]
  · rw [if_neg hv] at h ⊢
    obtain ⟨K, U, hK, hU, h⟩ := h
    have hvv : validT a = true ∧ validT b = true := by simpa using hv
    have hva := hvv.1
    have hvb := hvv.2
    obtain ⟨m, ha, hfa, hfal⟩ := validT_ok hva
    obtain ⟨n, hb, hfb, hfbl⟩ := validT_ok hvb
    have hra : ∀ p ∈ a.finals, 0 ≤ p ∧ p < (m : Int) := fun p hp => by have := validT_fin hva p hp; rwa [ha.st] at this
    have hrb : ∀ p ∈ b.finals, 0 ≤ p ∧ p < (n : Int) := fun p hp => by have := validT_fin hvb p hp; rwa [hb.st] at this
    have hN : a.states.toNat * b.states.toNat = m * n := by rw [ha.st, hb.st]; rfl
    rw [hN]
    have hst : (rawT a b).start = enc n ⟨a.start, b.start⟩ := by simp [rawT, enc, hb.st]
    have hinK : ∀ s ∈ K, s ∈ rect m n := fun s hs => compN_rect ha hb s ((hK.mem s).1 hs)
    have hin : ∀ s ∈ U, s ∈ rect m n := fun s hs => hinK s (U_sub hU s hs)
    have hk : ∀ i : Nat, kpS (rawT a b) i = true ↔ ∃ s ∈ U, enc n s = (i : Int) := fun i => kp_U ha hb hra hrb hK hU
    have hks : ∀ s ∈ rect m n, (kpS (rawT a b) (enc n s).toNat = true ↔ s ∈ U) := fun s hs => by
      have hr := enc_rng hs
      rw [hk]
      exact ⟨fun ⟨s', h1, h2⟩ => by
        have := enc_inj (hin s' h1) hs (by omega)
        exact this ▸ h1, fun h => ⟨s, h, by omega⟩⟩
    have hsr : (⟨a.start, b.start⟩ : Pair) ∈ rect m n := mem_rect.2 ⟨ha.start, hb.start⟩
    have hks0 := hks _ hsr
    unfold TrimS
    rw [hst]
    by_cases h0 : (⟨a.start, b.start⟩ : Pair) ∈ U
    · rw [if_pos (hks0.2 h0)]
      rw [if_neg (by simpa using h0)] at h
      have hlen := len_rk hU.nodup hin hk
      have hnum : ∀ s ∈ U, num (srtP U) s = (rk (kpS (rawT a b)) (enc n s).toNat : Int) := fun s hs => (num_rk hU.nodup hin hk hs).1
      have hfin : finF a b 0 (srtP U) = finS (rawT a b) (m * n) := by
        refine isorted_ext (finF_sorted a b 0 _) (finS_sorted _ _) fun x => ?_
        rw [mem_finF, mem_finS]
        have hmf : ∀ s : Pair, s ∈ rect m n → (isFin a b s = true ↔ enc n s ∈ (rawT a b).finals) := fun s hs => by
          simp only [isFin, Bool.and_eq_true, decide_eq_true_eq]
          constructor
          · rintro ⟨h1, h2⟩; exact List.mem_flatMap.2 ⟨s.p, h1, List.mem_flatMap.2 ⟨s.q, h2, by simp [rawF1, enc, hb.st]⟩⟩
          · intro h1
            obtain ⟨p, hp, h1⟩ := List.mem_flatMap.1 h1
            obtain ⟨q, hq, h1⟩ := List.mem_flatMap.1 h1
            have : s = ⟨p, q⟩ := enc_inj hs (mem_rect.2 ⟨hra p hp, hrb q hq⟩) (by rw [List.mem_singleton.1 h1, enc, hb.st])
            rw [this]; exact ⟨hp, hq⟩
        constructor
        · rintro ⟨j, s, h1, h2, h3⟩
          have hs := srtP_mem.1 (List.mem_of_getElem? h1)
          have hr := enc_rng (hin s hs)
          have h4 := num_at (srtP_nodup hU.nodup) h1
          rw [hnum s hs] at h4
          refine ⟨(enc n s).toNat, by omega, (hks s (hin s hs)).2 hs, ?_, by rw [h4, h3]; simp⟩
          rw [Int.toNat_of_nonneg hr.1]
          exact (hmf s (hin s hs)).1 h2
        · rintro ⟨i, hi, h1, h2, h3⟩
          obtain ⟨s, hs, e⟩ := (hk i).1 h1
          have h4 := (num_rk hU.nodup hin hk hs).2
          rw [e, Int.toNat_natCast] at h4
          exact ⟨_, s, h4, (hmf s (hin s hs)).2 (by rw [e]; exact h2), by rw [h3]; simp⟩
      have harc : cmpArcs a b K U = canon ((rawT a b).arcs.flatMap (arcS (rawT a b))) := by
        refine canon_congr fun z => ?_
        rw [List.mem_flatMap, List.mem_flatMap]
        constructor
        · rintro ⟨e, he, hz⟩
          obtain ⟨k, hkK, he⟩ := List.mem_flatMap.1 he
          unfold arcF at hz
          split at hz
          · rename_i hc
            simp only [Bool.and_eq_true, decide_eq_true_eq] at hc
            refine ⟨encA n e, (raw_iff ha hb).2 ⟨k, hinK k hkK, e, he, rfl⟩, ?_⟩
            rw [arcS, if_pos (by rw [Bool.and_eq_true]; exact ⟨(hks _ (hin _ hc.1)).2 hc.1, (hks _ (hin _ hc.2)).2 hc.2⟩)]
            rw [hnum _ hc.1, hnum _ hc.2] at hz
            exact hz
          · simp at hz
        · rintro ⟨x, hx, hz⟩
          obtain ⟨s, hs, e, he, rfl⟩ := (raw_iff ha hb).1 hx
          unfold arcS at hz
          split at hz
          · rename_i hc
            rw [Bool.and_eq_true] at hc
            have hsrc := mem_compE_src he
            have h1 : e.src ∈ U := (hks e.src (by rw [hsrc]; exact hs)).1 hc.1
            have hsK : s ∈ K := by rw [← hsrc]; exact U_sub hU _ h1
            have hdr : e.dst ∈ rect m n := hinK _ ((hK.mem _).2 (.tail ((hK.mem _).1 hsK) (List.mem_map.2 ⟨e, he, rfl⟩)))
            have h2 : e.dst ∈ U := (hks e.dst hdr).1 hc.2
            refine ⟨e, List.mem_flatMap.2 ⟨s, hsK, he⟩, ?_⟩
            rw [arcF, if_pos (by simp [h1, h2]), hnum _ h1, hnum _ h2]
            exact hz
          · simp at hz
      have htra : cmpTra a b K U = ⟨(rk (kpS (rawT a b)) (m * n) : Int), (rk (kpS (rawT a b)) (enc n ⟨a.start, b.start⟩).toNat : Int), finS (rawT a b) (m * n), canon ((rawT a b).arcs.flatMap (arcS (rawT a b)))⟩ := by
        rw [cmpTra, hfin, harc, hnum _ h0, hlen]
      rw [← htra]
      unfold limS
      have hs1 : (cmpTra a b K U).states = (U.length : Int) := rfl
      have hs2 : (cmpTra a b K U).arcs = cmpArcs a b K U := rfl
      rw [hs1, hs2]
      split at h
      · rename_i hc
        rw [if_pos (by simp; omega), h.1, h.2]
      · rename_i hc
        split at h
        · rename_i hc2
          rw [if_pos (by simp; omega), h.1, h.2]
        · rename_i hc2
          rw [if_neg (by simp; omega), h.1, h.2]
    · rw [if_neg (by rw [hks0]; exact h0)]
      rw [if_pos h0] at h
      rw [h.1, h.2]; rfl
end Go.Proofs.YtmjieefhjmiagaaGreatDoor.G

set_option linter.all false
namespace Go.Proofs.YtmjieefhjmiagaaGreatDoor.G
open Go Go.RowKit Go.Sort Go.Shelf
def lab (r : Int) : List Int := if r = 0 then [] else [r]
theorem lab_zero : lab 0 = [] := rfl
theorem lab_ne {r : Int} (h : r ≠ 0) : lab r = [r] := by simp [lab, h]
/-- A path of t from a state to a state, with what it reads and writes. -/
inductive Run (t : Tra) : Int → List Int → List Int → Int → Prop
  | nil (p : Int) : Run t p [] [] p
  | cons {x : Arc} {xs ys : List Int} {q : Int} : x ∈ t.arcs → Run t x.dst xs ys q → Run t x.src (lab x.inp ++ xs) (lab x.out ++ ys) q
def Rel (t : Tra) (xs ys : List Int) : Prop := ∃ f ∈ t.finals, Run t t.start xs ys f
section
variable {t : Tra} {p q r : Int} {xs ys us vs : List Int}
theorem Run.cons' {x : Arc} (hx : x ∈ t.arcs) (hp : x.src = p) (hr : Run t x.dst us vs q) (h1 : xs = lab x.inp ++ us) (h2 : ys = lab x.out ++ vs) : Run t p xs ys q := by
  subst hp h1 h2; exact .cons hx hr
theorem Run.trans (h : Run t p xs ys q) (k : Run t q us vs r) : Run t p (xs ++ us) (ys ++ vs) r := by
  induction h with
  | nil => exact k
  | cons hx _ ih => exact .cons' hx rfl (ih k) (by simp) (by simp)
theorem Run.one {x : Arc} (hx : x ∈ t.arcs) : Run t x.src (lab x.inp) (lab x.out) x.dst := .cons' hx rfl (.nil _) (by simp) (by simp)
theorem Run.snoc {x : Arc} (h : Run t p xs ys q) (hx : x ∈ t.arcs) (hq : x.src = q) : Run t p (xs ++ lab x.inp) (ys ++ lab x.out) x.dst := by
  subst hq; exact h.trans (.one hx)
end
/-! ### the search over places -/
def fitB (l : List Int) (k : Int) (r : Int) : Bool := decide (r = 0) || decide (l[k.toNat]? = some r)
def plN (t : Tra) (xs ys : List Int) (c : Place) : List Place := ((t.outs c.state).filter fun x => fitB xs c.inn x.inp && fitB ys c.out x.out).map fun x => ⟨x.dst, eatK c.inn.toNat x.inp, eatK c.out.toNat x.out⟩
theorem mem_plN {t : Tra} {xs ys : List Int} {c d : Place} : d ∈ plN t xs ys c ↔ ∃ x ∈ t.arcs, x.src = c.state ∧ fitB xs c.inn x.inp = true ∧ fitB ys c.out x.out = true ∧ d = ⟨x.dst, eatK c.inn.toNat x.inp, eatK c.out.toNat x.out⟩ := by
  simp only [plN, Tra.outs, List.mem_map, List.mem_filter, decide_eq_true_eq, Bool.and_eq_true]
  constructor
  · rintro ⟨x, ⟨⟨h1, h2⟩, h3, h4⟩, rfl⟩; exact ⟨x, h1, h2, h3, h4, rfl⟩
  · rintro ⟨x, h1, h2, h3, h4, rfl⟩; exact ⟨x, ⟨⟨h1, h2⟩, h3, h4⟩, rfl⟩
theorem fit_take {l : List Int} {i : Nat} {r : Int} (h : fitB l (i : Int) r = true) (hi : i ≤ l.length) : ∃ k : Nat, eatK i r = (k : Int) ∧ k ≤ l.length ∧ l.take k = l.take i ++ lab r := by
  simp only [fitB, Bool.or_eq_true, decide_eq_true_eq, Int.toNat_natCast] at h
  by_cases h0 : r = 0
  · subst h0; exact ⟨i, by simp [eatK], hi, by simp [lab]⟩
  · have h1 := h.resolve_left h0
    refine ⟨i + 1, by simp [eatK, h0], ?_, by rw [take_snoc h1, lab_ne h0]⟩
    have := (List.getElem?_eq_some_iff.1 h1).1; omega
theorem fit_drop {l u u' : List Int} {i : Nat} {r : Int} (h : l.drop i = (lab r ++ u) ++ u') : fitB l (i : Int) r = true ∧ ∃ k : Nat, eatK i r = (k : Int) ∧ l.drop k = u ++ u' := by
  by_cases h0 : r = 0
  · subst h0; exact ⟨by simp [fitB], i, by simp [eatK], by simpa [lab] using h⟩
  · rw [lab_ne h0] at h
    have h1 : l[i]? = some r := by
      have := congrArg (fun l => l[0]?) h
      simpa [List.getElem?_drop] using this
    refine ⟨by simp [fitB, h1], i + 1, by simp [eatK, h0], ?_⟩
    have := congrArg (List.drop 1) h
    simpa [List.drop_drop] using this
theorem pl_run {t : Tra} {xs ys : List Int} {s : Int} {c : Place} (h : Reach (plN t xs ys) (· = ⟨s, 0, 0⟩) c) : ∃ i j : Nat, c.inn = (i : Int) ∧ c.out = (j : Int) ∧ i ≤ xs.length ∧ j ≤ ys.length ∧ Run t s (xs.take i) (ys.take j) c.state := by
  induction h with
  | base h => subst h; exact ⟨0, 0, rfl, rfl, by omega, by omega, by simpa using Run.nil _⟩
  | @tail c d _ hd ih =>
    obtain ⟨i, j, h1, h2, h3, h4, hr⟩ := ih
    obtain ⟨x, hx, hs, hf, hg, rfl⟩ := mem_plN.1 hd
    rw [h1] at hf; rw [h2] at hg
    obtain ⟨k, e1, e2, e3⟩ := fit_take hf h3
    obtain ⟨l, e4, e5, e6⟩ := fit_take hg h4
    refine ⟨k, l, by simp only [h1, Int.toNat_natCast]; exact e1, by simp only [h2, Int.toNat_natCast]; exact e4, e2, e5, ?_⟩
    rw [e3, e6]
    exact hr.snoc hx hs
theorem run_pl {t : Tra} {xs ys : List Int} {p q : Int} {u v : List Int} (h : Run t p u v q) : ∀ {S : Place → Prop} {i j : Nat} {u' v' : List Int}, xs.drop i = u ++ u' → ys.drop j = v ++ v' → Reach (plN t xs ys) S ⟨p, i, j⟩ → ∃ k l : Nat, xs.drop k = u' ∧ ys.drop l = v' ∧ Reach (plN t xs ys) S ⟨q, k, l⟩ := by
  induction h with
  | nil => intro S i j u' v' h1 h2 h3; exact ⟨i, j, by simpa using h1, by simpa using h2, h3⟩
  | @cons x us vs q hx _ ih =>
    intro S i j u' v' h1 h2 h3
    obtain ⟨f1, k, e1, e2⟩ := fit_drop h1
    obtain ⟨f2, l, e3, e4⟩ := fit_drop h2
    refine ih e2 e4 (.tail h3 (mem_plN.2 ⟨x, hx, rfl, f1, f2, ?_⟩))
    simp only [Int.toNat_natCast, e1, e3]
theorem pl_iff {t : Tra} {xs ys : List Int} {s f : Int} : Reach (plN t xs ys) (· = ⟨s, 0, 0⟩) ⟨f, xs.length, ys.length⟩ ↔ Run t s xs ys f := by
  constructor
  · intro h
    obtain ⟨i, j, h1, h2, h3, h4, hr⟩ := pl_run h
    simp only [] at h1 h2 hr
    have e1 : i = xs.length := by omega
    have e2 : j = ys.length := by omega
    subst e1 e2
    simpa using hr
  · intro h
    obtain ⟨k, l, h1, h2, h3⟩ := run_pl (xs := xs) (ys := ys) h (S := (· = ⟨s, 0, 0⟩)) (i := 0) (j := 0) (u' := []) (v' := []) (by simp) (by simp) (.base rfl)
    obtain ⟨i, j, e1, e2, e3, e4, _⟩ := pl_run h3
    simp only [] at e1 e2
    have h1' : xs.length ≤ k := by simpa using h1
    have h2' : ys.length ≤ l := by simpa using h2
    have a1 : k = xs.length := by omega
    have a2 : l = ys.length := by omega
    rw [a1, a2] at h3
    exact h3
/-- Whether t relates xs to ys, by the search. -/
theorem rel_iff {t : Tra} {xs ys : List Int} : Rel t xs ys ↔ ∃ f ∈ t.finals, Reach (plN t xs ys) (· = ⟨t.start, 0, 0⟩) ⟨f, xs.length, ys.length⟩ :=
  exists_congr fun f => and_congr_right fun _ => pl_iff.symm
/-! ### the raw composition -/
section
variable {a b : Tra} {m n : Nat}
theorem raw_split (ha : a.Ok m) (hb : b.Ok n) {k l : Int} {xs zs : List Int} (h : Run (rawT a b) k xs zs l) : ∀ s ∈ rect m n, enc n s = k → ∃ s' ∈ rect m n, enc n s' = l ∧ ∃ ys, Run a s.p xs ys s'.p ∧ Run b s.q ys zs s'.q := by
  induction h with
  | nil k => intro s hs e; exact ⟨s, hs, e, [], .nil _, .nil _⟩
  | @cons x us vs l hx _ ih =>
    intro s hs e
    obtain ⟨s1, hs1, ed, he, rfl⟩ := (raw_iff ha hb).1 hx
    have hsrc := mem_compE_src he
    have : s1 = s := enc_inj hs1 hs (by rw [← hsrc]; exact e.symm)
    subst this
    have hdr : ed.dst ∈ rect m n := compN_in ha hb hs1 (List.mem_map.2 ⟨ed, he, rfl⟩)
    obtain ⟨s', hs', e', ys, r1, r2⟩ := ih ed.dst hdr rfl
    refine ⟨s', hs', e', ?_⟩
    rcases mem_compE.1 he with ⟨x, hax, hsp, h0, rfl⟩ | ⟨x, hax, y, hy, hsp, hsq, h0, h1, rfl⟩ | ⟨y, hy, hsq, h0, rfl⟩
    · exact ⟨ys, .cons' hax hsp r1 rfl (by rw [h0]; rfl), r2⟩
    · exact ⟨lab x.out ++ ys, .cons' hax hsp r1 rfl rfl, .cons' hy hsq r2 (by rw [h1]) rfl⟩
    · exact ⟨ys, r1, .cons' hy hsq r2 (by rw [h0]; rfl) rfl⟩
theorem enc_run (ha : a.Ok m) (hb : b.Ok n) {s : Pair} (hs : s ∈ rect m n) {e : Edge} (he : e ∈ compE a b s) {k : Int} {xs zs us vs : List Int} (hr : Run (rawT a b) (enc n e.dst) us vs k) (h1 : xs = lab e.inp ++ us) (h2 : zs = lab e.out ++ vs) : Run (rawT a b) (enc n s) xs zs k :=
  .cons' (x := encA n e) ((raw_iff ha hb).2 ⟨s, hs, e, he, rfl⟩) (by show enc n e.src = _; rw [mem_compE_src he]) hr h1 h2
theorem raw_b (ha : a.Ok m) (hb : b.Ok n) {p q q' : Int} (hp : 0 ≤ p ∧ p < m) {ys zs us vs : List Int} {k : Int} (h : Run b q ys zs q') : 0 ≤ q ∧ q < (n : Int) → ys = [] → Run (rawT a b) (enc n ⟨p, q'⟩) us vs k → Run (rawT a b) (enc n ⟨p, q⟩) us (zs ++ vs) k := by
  induction h with
  | nil => intro _ _ h; simpa using h
  | @cons y us' vs' q' hy _ ih =>
    intro hq he hk
    have hy0 : y.inp = 0 := by
      by_cases h0 : y.inp = 0
      · exact h0
      · rw [lab_ne h0] at he; simp at he
    rw [hy0] at he
    have := ih (hb.arcs y hy).2 (by simpa [lab] using he) hk
    exact enc_run ha hb (s := ⟨p, y.src⟩) (mem_rect.2 ⟨hp, hq⟩) (mem_compE.2 (.inr (.inr ⟨y, hy, rfl, hy0, rfl⟩))) this (by simp [lab]) (by simp)
theorem run_read {q q' : Int} {l zs : List Int} (h : Run b q l zs q') : ∀ {r : Int} {ys : List Int}, r ≠ 0 → l = r :: ys → ∃ z1 z2 : List Int, ∃ y ∈ b.arcs, Run b q [] z1 y.src ∧ y.inp = r ∧ Run b y.dst ys z2 q' ∧ zs = z1 ++ (lab y.out ++ z2) := by
  induction h with
  | nil => intro r ys _ h; cases h
  | @cons y us vs q' hy hr ih =>
    intro r ys hr0 he
    by_cases h0 : y.inp = 0
    · rw [h0] at he
      obtain ⟨z1, z2, y', hy', r1, r2, r3, rfl⟩ := ih hr0 (by simpa [lab] using he)
      exact ⟨lab y.out ++ z1, z2, y', hy', .cons' hy rfl r1 (by rw [h0]; rfl) rfl, r2, r3, by simp⟩
    · rw [lab_ne h0] at he
      obtain ⟨e1, e2⟩ := List.cons.inj he
      exact ⟨[], vs, y, hy, .nil _, e1, by rw [← e2]; simpa using hr, by simp⟩
theorem raw_join (ha : a.Ok m) (hb : b.Ok n) {p p' : Int} {xs ys : List Int} (h : Run a p xs ys p') : 0 ≤ p ∧ p < (m : Int) → ∀ {q q' : Int} {zs : List Int}, 0 ≤ q ∧ q < (n : Int) → Run b q ys zs q' → Run (rawT a b) (enc n ⟨p, q⟩) xs zs (enc n ⟨p', q'⟩) := by
  induction h with
  | nil p =>
    intro hp q q' zs hq h
    have := raw_b ha hb hp h hq rfl (Run.nil (t := rawT a b) _)
    simpa using this
  | @cons x us vs p' hx _ ih =>
    intro hp q q' zs hq h
    by_cases h0 : x.out = 0
    · rw [h0] at h
      exact enc_run ha hb (s := ⟨x.src, q⟩) (mem_rect.2 ⟨hp, hq⟩) (mem_compE.2 (.inl ⟨x, hx, rfl, h0, rfl⟩)) (ih (ha.arcs x hx).2 hq (by simpa [lab] using h)) rfl rfl
    · rw [lab_ne h0] at h
      obtain ⟨z1, z2, y, hy, r1, r2, r3, rfl⟩ := run_read h h0 rfl
      have h2 := ih (ha.arcs x hx).2 (hb.arcs y hy).2 r3
      have h3 := enc_run ha hb (s := ⟨x.src, y.src⟩) (mem_rect.2 ⟨hp, (hb.arcs y hy).1⟩) (mem_compE.2 (.inr (.inl ⟨x, hx, y, hy, rfl, rfl, h0, r2, rfl⟩))) h2 rfl rfl
      exact raw_b ha hb hp r1 hq rfl h3
/-- The raw composition relates what lies on both sides of some string. -/
theorem rel_raw (ha : a.Ok m) (hb : b.Ok n) (hfa : ∀ p ∈ a.finals, 0 ≤ p ∧ p < (m : Int)) (hfb : ∀ p ∈ b.finals, 0 ≤ p ∧ p < (n : Int)) {xs zs : List Int} : Rel (rawT a b) xs zs ↔ ∃ ys, Rel a xs ys ∧ Rel b ys zs := by
  have hst : (rawT a b).start = enc n ⟨a.start, b.start⟩ := by simp [rawT, enc, hb.st]
  constructor
  · rintro ⟨f, hf, h⟩
    obtain ⟨p, hp, hf⟩ := List.mem_flatMap.1 hf
    obtain ⟨q, hq, hf⟩ := List.mem_flatMap.1 hf
    have hf : f = enc n ⟨p, q⟩ := by rw [List.mem_singleton.1 hf, enc, hb.st]
    obtain ⟨s', hs', e, ys, r1, r2⟩ := raw_split ha hb h ⟨a.start, b.start⟩ (mem_rect.2 ⟨ha.start, hb.start⟩) hst.symm
    have : s' = ⟨p, q⟩ := enc_inj hs' (mem_rect.2 ⟨hfa p hp, hfb q hq⟩) (e.trans hf)
    subst this
    exact ⟨ys, ⟨p, hp, r1⟩, q, hq, r2⟩
  · rintro ⟨ys, ⟨p, hp, r1⟩, q, hq, r2⟩
    refine ⟨enc n ⟨p, q⟩, List.mem_flatMap.2 ⟨p, hp, List.mem_flatMap.2 ⟨q, hq, by simp [rawF1, enc, hb.st]⟩⟩, ?_⟩
    rw [hst]
    exact raw_join ha hb r1 ha.start hb.start r2
end
/-! ### trimming keeps the relation -/
section
variable {t : Tra} {m : Nat}
theorem rk_inj {kp : Nat → Bool} {i j : Nat} (hi : kp i = true) (hj : kp j = true) (h : rk kp i = rk kp j) : i = j := by
  rcases Nat.lt_trichotomy i j with hl | hl | hl
  · have := rk_lt hi hl; omega
  · exact hl
  · have := rk_lt hj hl; omega
theorem mem_trimA {z : Arc} (hk : kpS t t.start.toNat = true) : z ∈ (TrimS t m).arcs ↔ ∃ x ∈ t.arcs, kpS t x.src.toNat = true ∧ kpS t x.dst.toNat = true ∧ z = ⟨(rk (kpS t) x.src.toNat : Int), (rk (kpS t) x.dst.toNat : Int), x.inp, x.out⟩ := by
  unfold TrimS
  rw [if_pos hk]
  simp only [mem_canon, List.mem_flatMap]
  constructor
  · rintro ⟨x, hx, h⟩
    unfold arcS at h
    split at h
    · rename_i hc; rw [Bool.and_eq_true] at hc; exact ⟨x, hx, hc.1, hc.2, by simpa using h⟩
    · simp at h
  · rintro ⟨x, hx, h1, h2, rfl⟩
    exact ⟨x, hx, by simp [arcS, h1, h2]⟩
theorem reach_run {p q : Int} {xs ys : List Int} (h : Run t p xs ys q) (hp : Reach (stp t true) (· ∈ [t.start]) p) : Reach (stp t true) (· ∈ [t.start]) q := by
  induction h with
  | nil => exact hp
  | cons hx _ ih => exact ih (up_arc hx hp)
theorem coreach_run {p q : Int} {xs ys : List Int} (h : Run t p xs ys q) (hq : Reach (stp t false) (· ∈ t.finals) q) : Reach (stp t false) (· ∈ t.finals) p := by
  induction h with
  | nil => exact hq
  | cons hx _ ih => exact dn_arc hx (ih hq)
theorem trim_run (hr : t.Rng m) (hk : kpS t t.start.toNat = true) {p q : Int} {xs ys : List Int} (h : Run t p xs ys q) : 0 ≤ p → Reach (stp t true) (· ∈ [t.start]) p → Reach (stp t false) (· ∈ t.finals) q → Run (TrimS t m) (rk (kpS t) p.toNat) xs ys (rk (kpS t) q.toNat) := by
  induction h with
  | nil => intro _ _ _; exact .nil _
  | @cons x us vs q hx hrun ih =>
    intro h0 hp hq
    have hxr := hr.arcs x hx
    have hd := up_arc hx hp
    have hcd := coreach_run hrun hq
    have h1 : kpS t x.src.toNat = true := kpS_iff.2 (by rw [Int.toNat_of_nonneg hxr.1.1]; exact ⟨hp, dn_arc hx hcd⟩)
    have h2 : kpS t x.dst.toNat = true := kpS_iff.2 (by rw [Int.toNat_of_nonneg hxr.2.1]; exact ⟨hd, hcd⟩)
    exact .cons' ((mem_trimA hk).2 ⟨x, hx, h1, h2, rfl⟩) rfl (ih hxr.2.1 hd hq) rfl rfl
theorem run_trim (hr : t.Rng m) (hk : kpS t t.start.toNat = true) {k l : Int} {xs ys : List Int} (h : Run (TrimS t m) k xs ys l) : ∀ p : Int, 0 ≤ p → kpS t p.toNat = true → k = (rk (kpS t) p.toNat : Int) → ∃ q : Int, 0 ≤ q ∧ kpS t q.toNat = true ∧ l = (rk (kpS t) q.toNat : Int) ∧ Run t p xs ys q := by
  induction h with
  | nil => intro p h0 h1 h2; exact ⟨p, h0, h1, h2, .nil _⟩
  | @cons z us vs l hz _ ih =>
    intro p h0 h1 h2
    obtain ⟨x, hx, k1, k2, rfl⟩ := (mem_trimA hk).1 hz
    have hxr := hr.arcs x hx
    simp only [] at h2
    have : x.src.toNat = p.toNat := rk_inj k1 h1 (by omega)
    have hp : x.src = p := by omega
    obtain ⟨q, q0, q1, q2, q3⟩ := ih x.dst hxr.2.1 k2 rfl
    exact ⟨q, q0, q1, q2, .cons' hx hp q3 rfl rfl⟩
theorem rel_one {xs ys : List Int} : ¬ Rel oneTra xs ys := by rintro ⟨f, hf, _⟩; simp [oneTra] at hf
theorem rel_trim (hr : t.Rng m) {xs ys : List Int} : Rel (TrimS t m) xs ys ↔ Rel t xs ys := by
  have hs0 : ((t.start.toNat : Nat) : Int) = t.start := Int.toNat_of_nonneg hr.start.1
  by_cases hk : kpS t t.start.toNat = true
  · have e1 : (TrimS t m).start = (rk (kpS t) t.start.toNat : Int) := by unfold TrimS; rw [if_pos hk]
    have e2 : (TrimS t m).finals = finS t m := by unfold TrimS; rw [if_pos hk]
    constructor
    · rintro ⟨f, hf, h⟩
      rw [e1] at h; rw [e2] at hf
      obtain ⟨i, hi, h1, h2, rfl⟩ := mem_finS.1 hf
      obtain ⟨q, q0, q1, q2, q3⟩ := run_trim hr hk h t.start hr.start.1 hk rfl
      have : q.toNat = i := rk_inj q1 h1 (by omega)
      have : q = (i : Int) := by omega
      subst this
      exact ⟨_, h2, q3⟩
    · rintro ⟨f, hf, h⟩
      have h1 : Reach (stp t false) (· ∈ t.finals) f := .base hf
      have hfr := hr.fin f hf
      have h2 := reach_run h (up_start t)
      refine ⟨(rk (kpS t) f.toNat : Int), ?_, by rw [e1]; exact trim_run hr hk h hr.start.1 (up_start t) h1⟩
      rw [e2]
      refine mem_finS.2 ⟨f.toNat, by omega, kpS_iff.2 ?_, ?_, rfl⟩ <;> rw [Int.toNat_of_nonneg hfr.1]
      · exact ⟨h2, h1⟩
      · exact hf
  · have e1 : TrimS t m = oneTra := by unfold TrimS; rw [if_neg hk]
    rw [e1]
    refine ⟨fun h => absurd h rel_one, ?_⟩
    rintro ⟨f, hf, h⟩
    refine absurd (kpS_iff.2 ?_) hk
    rw [hs0]
    exact ⟨up_start t, coreach_run h (.base hf)⟩
/-- A trimmed transducer that is small enough is valid. -/
theorem valid_trim (hr : t.Rng m) (hl : ∀ x ∈ t.arcs, vRune x.inp = true ∧ vRune x.out = true) (h1 : (TrimS t m).states ≤ 512) (h2 : (TrimS t m).arcs.length ≤ 4096) : validT (TrimS t m) = true := by
  by_cases hk : kpS t t.start.toNat = true
  · have e0 : (TrimS t m).states = (rk (kpS t) m : Int) := by unfold TrimS; rw [if_pos hk]
    have e1 : (TrimS t m).start = (rk (kpS t) t.start.toNat : Int) := by unfold TrimS; rw [if_pos hk]
    have e2 : (TrimS t m).finals = finS t m := by unfold TrimS; rw [if_pos hk]
    have hlt : ∀ i : Nat, i < m → kpS t i = true → rk (kpS t) i < rk (kpS t) m := fun i hi h => rk_lt h hi
    have hs := hr.start
    have hs1 := hlt t.start.toNat (by omega) hk
    have hsort := finS_sorted t m
    simp only [validT, Bool.and_eq_true, Bool.not_eq_true', Bool.or_eq_false_iff, decide_eq_false_iff_not]
    refine ⟨⟨⟨by rw [e0]; omega, by omega⟩, by omega⟩, ⟨?_, ?_⟩, ?_⟩
    · rw [List.all_eq_true]
      intro i hi
      have hi := List.mem_range.1 hi
      rw [e2] at hi ⊢
      obtain ⟨k, hk1, hk2, _, hk3⟩ := mem_finS.1 (List.getElem_mem hi)
      have := hlt k hk1 hk2
      rw [finAt_of (List.getElem?_eq_getElem hi)]
      simp only [Bool.not_eq_true', Bool.or_eq_false_iff, Bool.not_eq_false', inR, Bool.and_eq_true, decide_eq_true_eq, Bool.and_eq_false_imp, decide_eq_false_iff_not]
      refine ⟨by rw [e0]; omega, fun h0 => ?_⟩
      have h3 : i - 1 < (finS t m).length := by omega
      have := List.pairwise_iff_getElem.1 hsort (i - 1) i h3 hi (by omega)
      rw [getD_of (List.getElem?_eq_getElem h3)]
      omega
    · rw [List.all_eq_true]
      intro z hz
      obtain ⟨x, hx, k1, k2, rfl⟩ := (mem_trimA hk).1 hz
      have hxr := hr.arcs x hx
      have g1 := hlt x.src.toNat (by omega) k1
      have g2 := hlt x.dst.toNat (by omega) k2
      simp only [arcOk, Bool.not_eq_true', Bool.or_eq_false_iff, Bool.not_eq_false', inR, Bool.and_eq_true, decide_eq_true_eq]
      exact ⟨⟨⟨by rw [e0]; omega, by rw [e0]; omega⟩, (hl x hx).1⟩, (hl x hx).2⟩
    · simp only [inR, Bool.and_eq_true, decide_eq_true_eq]
      rw [e1, e0]; omega
  · have e1 : TrimS t m = oneTra := by unfold TrimS; rw [if_neg hk]
    rw [e1]; rfl
end
end Go.Proofs.YtmjieefhjmiagaaGreatDoor.G
