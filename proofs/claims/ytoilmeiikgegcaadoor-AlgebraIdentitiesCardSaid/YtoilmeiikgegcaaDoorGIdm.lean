/- Trimming inside unions, concatenations and repetitions; inversion commutes. Plain Lean. -/
/- Trimming inside unions and repetitions; the identities. Plain Lean. -/
import Derived.Test.YtoilmeiikgegcaaDoorGAsl
set_option linter.all false
namespace Go.Proofs.YtoilmeiikgegcaaDoor.G
open Go Go.RowKit
abbrev Up (t : Tra) (s : Int) : Prop := Reach (stp t true) (· ∈ [t.start]) s
abbrev Dn (t : Tra) (s : Int) : Prop := Reach (stp t false) (· ∈ t.finals) s
section
variable {t a b : Tra} {m n : Nat} {k s p : Int} {Q : Int → Prop}
theorem up_ind (h0 : Q t.start) (hs : ∀ x ∈ t.arcs, Q x.src → Q x.dst) (h : Up t s) : Q s := by
  induction h with
  | base h => rw [List.mem_singleton.1 h]; exact h0
  | tail _ hy ih =>
    obtain ⟨x, hx, h1, rfl⟩ := mem_stp.1 hy
    exact hs x hx (by rw [show x.src = _ from h1]; exact ih)
theorem dn_ind (h0 : ∀ f ∈ t.finals, Q f) (hs : ∀ x ∈ t.arcs, Q x.dst → Q x.src) (h : Dn t s) : Q s := by
  induction h with
  | base h => exact h0 _ h
  | tail _ hy ih =>
    obtain ⟨x, hx, h1, rfl⟩ := mem_stp.1 hy
    exact hs x hx (by rw [show x.dst = _ from h1]; exact ih)
theorem up_emb (hin : ∀ x ∈ a.arcs, shA k x ∈ t.arcs) (h0 : Up t (a.start + k)) (h : Up a p) : Up t (p + k) :=
  up_ind (Q := fun p => Up t (p + k)) h0 (fun x hx h => up_arc (hin x hx) h) h
theorem dn_emb (hin : ∀ x ∈ a.arcs, shA k x ∈ t.arcs) (h0 : ∀ f ∈ a.finals, Dn t (f + k)) (h : Dn a p) : Dn t (p + k) :=
  dn_ind (Q := fun p => Dn t (p + k)) h0 (fun x hx h => dn_arc (hin x hx) h) h
theorem up_rng (ha : a.Rng m) (h : Up a s) : 0 ≤ s ∧ s < m := stp_rng ha.arcs (fun f hf => by rw [List.mem_singleton.1 hf]; exact ha.start) h
theorem dn_rng (ha : a.Rng m) (h : Dn a s) : 0 ≤ s ∧ s < m := stp_rng ha.arcs ha.fin h
theorem up_fin (h : Dn a a.start) : ∃ f ∈ a.finals, Up a f := by
  obtain ⟨f, hf, xs, ys, r⟩ := reach_dn.1 h
  exact ⟨f, hf, reach_run r (up_start a)⟩
theorem kp_start (ha : a.Rng m) : kpS a a.start.toNat = true ↔ Dn a a.start := by
  rw [kpS_iff, Int.toNat_of_nonneg ha.start.1]
  exact ⟨fun h => h.2, fun h => ⟨up_start a, h⟩⟩
/-! ### the trimmed parts -/
theorem trimA_iff (hr : a.Rng m) (hk : kpS a a.start.toNat = true) {p q : Nat} {x y : Int} (kp : kpS a p = true) (kq : kpS a q = true) : (⟨(rk (kpS a) p : Int), (rk (kpS a) q : Int), x, y⟩ : Arc) ∈ (TrimS a m).arcs ↔ (⟨(p : Int), (q : Int), x, y⟩ : Arc) ∈ a.arcs := by
  rw [mem_trimA hk]
  constructor
  · rintro ⟨z, hz, h1, h2, e⟩
    have hzr := hr.arcs z hz
    simp only [Arc.mk.injEq] at e
    obtain ⟨s1, s2, s3, s4⟩ := e
    have g1 : p = z.src.toNat := rk_inj kp h1 (by omega)
    have g2 : q = z.dst.toNat := rk_inj kq h2 (by omega)
    have : (⟨(p : Int), (q : Int), x, y⟩ : Arc) = z := by
      rw [s3, s4, show (p : Int) = z.src by omega, show (q : Int) = z.dst by omega]
    rw [this]; exact hz
  · intro h
    exact ⟨_, h, by simpa using kp, by simpa using kq, by simp⟩
theorem trimF_iff (hk : kpS a a.start.toNat = true) {p : Nat} (hp : p < m) (kp : kpS a p = true) : (rk (kpS a) p : Int) ∈ (TrimS a m).finals ↔ (p : Int) ∈ a.finals := by
  have e2 : (TrimS a m).finals = finS a m := by unfold TrimS; rw [if_pos hk]
  rw [e2, mem_finS]
  constructor
  · rintro ⟨j, _, h2, h3, h4⟩
    have : p = j := rk_inj kp h2 (by omega)
    subst this; exact h3
  · intro h; exact ⟨p, hp, kp, h, rfl⟩
theorem trim_start (hk : kpS a a.start.toNat = true) : (TrimS a m).start = (rk (kpS a) a.start.toNat : Int) := by unfold TrimS; rw [if_pos hk]
theorem trim_size (hk : kpS a a.start.toNat = true) : (TrimS a m).states = (rk (kpS a) m : Int) := by unfold TrimS; rw [if_pos hk]
theorem trim_ne (hr : a.Rng m) (hk : kpS a a.start.toNat = true) : kpS (TrimS a m) (TrimS a m).start.toNat = true := by
  rw [trim_start hk, Int.toNat_natCast]; exact kp_trim hr hk
/-! ### concatenations -/
theorem con_up (ha : a.Rng m) (hb : b.Rng n) (hm : a.states = m) (h : Up (conT a b) s) : (s < m ∧ Up a s) ∨ ((m : Int) ≤ s ∧ Up b (s - m)) := by
  refine up_ind (t := conT a b) (Q := fun s => (s < m ∧ Up a s) ∨ ((m : Int) ≤ s ∧ Up b (s - m))) (.inl ⟨ha.start.2, up_start a⟩) (fun x hx h => ?_) h
  rcases mem_conA.1 hx with ⟨y, hy, rfl⟩ | ⟨y, hy, rfl⟩ | ⟨f, hf, rfl⟩
  · have := ha.arcs y hy
    simp only [shA, Int.add_zero] at h ⊢
    rcases h with ⟨_, h⟩ | ⟨h, _⟩
    · exact .inl ⟨this.2.2, up_arc hy h⟩
    · omega
  · have := hb.arcs y hy
    simp only [shA, hm, Int.add_sub_cancel] at h ⊢
    rcases h with ⟨h, _⟩ | ⟨_, h⟩
    · omega
    · exact .inr ⟨by omega, up_arc hy h⟩
  · have := hb.start
    simp only [epsA, hm]
    exact .inr ⟨by omega, by rw [show (m : Int) + b.start - m = b.start by omega]; exact up_start b⟩
theorem con_dn (ha : a.Rng m) (hb : b.Rng n) (hm : a.states = m) (h : Dn (conT a b) s) : (s < m ∧ Dn a s) ∨ ((m : Int) ≤ s ∧ Dn b (s - m)) := by
  refine dn_ind (t := conT a b) (Q := fun s => (s < m ∧ Dn a s) ∨ ((m : Int) ≤ s ∧ Dn b (s - m))) (fun f hf => ?_) (fun x hx h => ?_) h
  · obtain ⟨g, hg, rfl⟩ := mem_conF.1 hf
    have := hb.fin g hg
    exact .inr ⟨by omega, by rw [hm, show (m : Int) + g - m = g by omega]; exact .base hg⟩
  · rcases mem_conA.1 hx with ⟨y, hy, rfl⟩ | ⟨y, hy, rfl⟩ | ⟨f, hf, rfl⟩
    · have := ha.arcs y hy
      simp only [shA, Int.add_zero] at h ⊢
      rcases h with ⟨_, h⟩ | ⟨h, _⟩
      · exact .inl ⟨this.1.2, dn_arc hy h⟩
      · omega
    · have := hb.arcs y hy
      simp only [shA, hm, Int.add_sub_cancel] at h ⊢
      rcases h with ⟨h, _⟩ | ⟨_, h⟩
      · omega
      · exact .inr ⟨by omega, dn_arc hy h⟩
    · have := ha.fin f hf
      simp only [epsA]
      exact .inl ⟨this.2, .base hf⟩
theorem up_con_a (ha : a.Rng m) (hb : b.Rng n) (hm : a.states = m) (h : Up a s) : Up (conT a b) s := by
  have := up_emb (con_a ha hb hm).inn (by rw [Int.add_zero]; exact up_start (conT a b)) h
  rwa [Int.add_zero] at this
theorem up_con_b (ha : a.Rng m) (hb : b.Rng n) (hm : a.states = m) (hn : Dn a a.start) (h : Up b s) : Up (conT a b) (s + m) := by
  refine up_emb (con_b ha hb hm).inn ?_ h
  obtain ⟨f, hf, hu⟩ := up_fin hn
  have h1 : epsA f (a.states + b.start) ∈ (conT a b).arcs := mem_conA.2 (.inr (.inr ⟨f, hf, rfl⟩))
  have := up_arc h1 (up_con_a ha hb hm hu)
  simp only [epsA, hm] at this
  rw [Int.add_comm]; exact this
theorem dn_con_b (ha : a.Rng m) (hb : b.Rng n) (hm : a.states = m) (h : Dn b s) : Dn (conT a b) (s + m) :=
  dn_emb (con_b ha hb hm).inn (fun f hf => .base (mem_conF.2 ⟨f, hf, by rw [hm, Int.add_comm]⟩)) h
theorem dn_con_a (ha : a.Rng m) (hb : b.Rng n) (hm : a.states = m) (hn : Dn b b.start) (h : Dn a s) : Dn (conT a b) s := by
  have := dn_emb (con_a ha hb hm).inn (fun f hf => ?_) h
  · rwa [Int.add_zero] at this
  · rw [Int.add_zero]
    have h1 : epsA f (a.states + b.start) ∈ (conT a b).arcs := mem_conA.2 (.inr (.inr ⟨f, hf, rfl⟩))
    refine dn_arc h1 ?_
    simp only [epsA, hm]
    rw [Int.add_comm]; exact dn_con_b ha hb hm hn
theorem kp_con_a (ha : a.Rng m) (hb : b.Rng n) (hm : a.states = m) (nb : Dn b b.start) {i : Nat} (hi : i < m) : kpS (conT a b) i = kpS a i := by
  rw [Bool.eq_iff_iff, kpS_iff, kpS_iff]
  constructor
  · rintro ⟨h1, h2⟩
    exact ⟨((con_up ha hb hm h1).resolve_right (by omega)).2, ((con_dn ha hb hm h2).resolve_right (by omega)).2⟩
  · rintro ⟨h1, h2⟩; exact ⟨up_con_a ha hb hm h1, dn_con_a ha hb hm nb h2⟩
theorem kp_con_b (ha : a.Rng m) (hb : b.Rng n) (hm : a.states = m) (na : Dn a a.start) (i : Nat) : kpS (conT a b) (m + i) = kpS b i := by
  have e : ((m + i : Nat) : Int) = (i : Int) + m := by omega
  rw [Bool.eq_iff_iff, kpS_iff, kpS_iff, e]
  constructor
  · rintro ⟨h1, h2⟩
    have g1 := ((con_up ha hb hm h1).resolve_left (by omega)).2
    have g2 := ((con_dn ha hb hm h2).resolve_left (by omega)).2
    rw [Int.add_sub_cancel] at g1 g2
    exact ⟨g1, g2⟩
  · rintro ⟨h1, h2⟩; exact ⟨up_con_b ha hb hm na h1, dn_con_b ha hb hm h2⟩
theorem con_arc_a (hm : a.states = m) (ha : a.Rng m) (hb : b.Rng n) {p q : Nat} {x y : Int} (hp : p < m) (hq : q < m) : (⟨(p : Int), (q : Int), x, y⟩ : Arc) ∈ (conT a b).arcs ↔ (⟨(p : Int), (q : Int), x, y⟩ : Arc) ∈ a.arcs := by
  rw [mem_conA]
  constructor
  · rintro (⟨z, hz, e⟩ | ⟨z, hz, e⟩ | ⟨f, hf, e⟩)
    · simp only [shA, Int.add_zero] at e
      rw [e]; exact hz
    · have := hb.arcs z hz
      simp only [shA, Arc.mk.injEq] at e; omega
    · have := hb.start
      simp only [epsA, Arc.mk.injEq] at e; omega
  · intro h; exact .inl ⟨_, h, by simp [shA]⟩
theorem con_arc_b (hm : a.states = m) (ha : a.Rng m) (hb : b.Rng n) {p q : Nat} {x y : Int} : (⟨((m + p : Nat) : Int), ((m + q : Nat) : Int), x, y⟩ : Arc) ∈ (conT a b).arcs ↔ (⟨(p : Int), (q : Int), x, y⟩ : Arc) ∈ b.arcs := by
  rw [mem_conA]
  constructor
  · rintro (⟨z, hz, e⟩ | ⟨z, hz, e⟩ | ⟨f, hf, e⟩)
    · have := ha.arcs z hz
      simp only [shA, Arc.mk.injEq] at e; omega
    · simp only [shA, Arc.mk.injEq] at e
      obtain ⟨s1, s2, s3, s4⟩ := e
      rw [s3, s4, show (p : Int) = z.src by omega, show (q : Int) = z.dst by omega]; exact hz
    · have := ha.fin f hf
      simp only [epsA, Arc.mk.injEq] at e; omega
  · intro h
    refine .inr (.inl ⟨_, h, ?_⟩)
    simp only [shA, Arc.mk.injEq, hm, and_true]
    omega
theorem con_arc_x (hm : a.states = m) (ha : a.Rng m) (hb : b.Rng n) {p q : Nat} {x y : Int} (hp : p < m) : (⟨(p : Int), ((m + q : Nat) : Int), x, y⟩ : Arc) ∈ (conT a b).arcs ↔ (p : Int) ∈ a.finals ∧ (q : Int) = b.start ∧ x = 0 ∧ y = 0 := by
  rw [mem_conA]
  constructor
  · rintro (⟨z, hz, e⟩ | ⟨z, hz, e⟩ | ⟨f, hf, e⟩)
    · have := ha.arcs z hz
      simp only [shA, Arc.mk.injEq] at e; omega
    · have := hb.arcs z hz
      simp only [shA, Arc.mk.injEq] at e; omega
    · simp only [epsA, Arc.mk.injEq] at e
      obtain ⟨s1, s2, s3, s4⟩ := e
      rw [s1]; exact ⟨hf, by omega, s3, s4⟩
  · rintro ⟨h1, h2, rfl, rfl⟩
    refine .inr (.inr ⟨_, h1, ?_⟩)
    simp only [epsA, Arc.mk.injEq, hm, and_true, true_and]
    omega
theorem con_arc_n (hm : a.states = m) (ha : a.Rng m) (hb : b.Rng n) {p q : Nat} {x y : Int} (hq : q < m) : (⟨((m + p : Nat) : Int), (q : Int), x, y⟩ : Arc) ∉ (conT a b).arcs := by
  rw [mem_conA]
  rintro (⟨z, hz, e⟩ | ⟨z, hz, e⟩ | ⟨f, hf, e⟩)
  · have := ha.arcs z hz
    simp only [shA, Arc.mk.injEq] at e; omega
  · have := hb.arcs z hz
    simp only [shA, Arc.mk.injEq] at e; omega
  · have := ha.fin f hf
    simp only [epsA, Arc.mk.injEq] at e; omega
theorem nat_split {m i : Nat} : i < m ∨ ∃ j, i = m + j := by
  by_cases h : i < m
  · exact .inl h
  · exact .inr ⟨i - m, by omega⟩
def phC (kp kq : Nat → Bool) (m : Nat) (i : Nat) : Nat := if i < m then rk kp i else rk kp m + rk kq (i - m)
theorem phC_a {kp kq : Nat → Bool} {m i : Nat} (h : i < m) : phC kp kq m i = rk kp i := if_pos h
theorem phC_b {kp kq : Nat → Bool} {m i : Nat} : phC kp kq m (m + i) = rk kp m + rk kq i := by rw [phC, if_neg (by omega), Nat.add_sub_cancel_left]
theorem empty_one {m : Nat} (h : ¬ kpS t t.start.toNat = true) : TrimS t m = oneTra := by unfold TrimS; rw [if_neg h]
/-- Trimming before a concatenation makes no difference. -/
theorem trim_con (ha : a.Rng m) (hb : b.Rng n) (hm : a.states = m) (hn : b.states = n) : TrimS (conT (TrimS a m) (TrimS b n)) ((TrimS a m).states.toNat + (TrimS b n).states.toNat) = TrimS (conT a b) (m + n) := by
  have hr := con_rng ha hb hm hn
  have ha' := trim_rng ha
  have hb' := trim_rng hb
  have hr' := con_rng ha' hb' trim_states trim_states
  by_cases hne : kpS a a.start.toNat = true ∧ kpS b b.start.toNat = true
  · obtain ⟨hka, hkb⟩ := hne
    have na := (kp_start ha).1 hka
    have nb := (kp_start hb).1 hkb
    have na' := (kp_start ha').1 (trim_ne ha hka)
    have nb' := (kp_start hb').1 (trim_ne hb hkb)
    have sa : (TrimS a m).states.toNat = rk (kpS a) m := by rw [trim_size hka, Int.toNat_natCast]
    have sb : (TrimS b n).states.toNat = rk (kpS b) n := by rw [trim_size hkb, Int.toNat_natCast]
    have ta : (TrimS a m).states = ((rk (kpS a) m : Nat) : Int) := trim_size hka
    rw [sa, sb] at hr' ⊢
    rw [sa] at ha'
    rw [sb] at hb'
    have ka : ∀ i, i < m → kpS (conT a b) i = kpS a i := fun i hi => kp_con_a ha hb hm nb hi
    have kb : ∀ i, kpS (conT a b) (m + i) = kpS b i := kp_con_b ha hb hm na
    have ka' : ∀ i, i < rk (kpS a) m → kpS (conT (TrimS a m) (TrimS b n)) i = kpS (TrimS a m) i := fun i hi => kp_con_a ha' hb' ta nb' hi
    have kb' : ∀ i, kpS (conT (TrimS a m) (TrimS b n)) (rk (kpS a) m + i) = kpS (TrimS b n) i := kp_con_b ha' hb' ta na'
    refine (trim_iso (φ := phC (kpS a) (kpS b) m) hr hr' ⟨fun i hi hk => ?_, fun j hj hk => ?_, fun i i' hi' ki ki' hl => ?_, fun _ => ?_, fun _ => ?_, fun i hi hk => ?_, fun p q x y hp hq kp kq => ?_⟩).symm
    · rcases nat_split (m := m) (i := i) with h | ⟨j, rfl⟩
      · rw [ka i h] at hk
        have := rk_lt hk h
        rw [phC_a h, ka' _ this]
        exact ⟨by omega, kp_trim ha hk⟩
      · rw [kb] at hk
        have := rk_lt hk (show j < n by omega)
        rw [phC_b, kb']
        exact ⟨by omega, kp_trim hb hk⟩
    · rcases nat_split (m := rk (kpS a) m) (i := j) with h | ⟨i, rfl⟩
      · rw [ka' j h] at hk
        obtain ⟨_, i, h1, h2, h3⟩ := trim_kept ha hk
        exact ⟨i, by omega, by rw [ka i h1]; exact h2, by rw [phC_a h1]; exact h3⟩
      · rw [kb'] at hk
        obtain ⟨_, i, h1, h2, h3⟩ := trim_kept hb hk
        exact ⟨m + i, by omega, by rw [kb]; exact h2, by rw [phC_b, h3]⟩
    · rcases nat_split (m := m) (i := i) with h | ⟨j, rfl⟩ <;> rcases nat_split (m := m) (i := i') with h' | ⟨j', rfl⟩
      · rw [ka i h] at ki
        rw [phC_a h, phC_a h']
        exact rk_lt ki hl
      · rw [ka i h] at ki
        have := rk_lt ki h
        rw [phC_a h, phC_b]
        omega
      · omega
      · rw [kb] at ki
        have := rk_lt ki (show j < j' by omega)
        rw [phC_b, phC_b]
        omega
    · have := ha.start
      show phC _ _ _ a.start.toNat = (TrimS a m).start.toNat
      rw [phC_a (by omega), trim_start hka, Int.toNat_natCast]
    · have := ha.start
      show kpS (conT a b) a.start.toNat = true
      rw [ka _ (by omega)]; exact hka
    · rw [mem_conF, mem_conF]
      rcases nat_split (m := m) (i := i) with h | ⟨j, rfl⟩
      · rw [ka i h] at hk
        have h2 := rk_lt hk h
        rw [phC_a h, ta, hm]
        constructor
        · rintro ⟨g, hg, e⟩; have := hb.fin g hg; omega
        · rintro ⟨g, hg, e⟩; have := hb'.fin g hg; omega
      · rw [kb] at hk
        rw [phC_b, ta, hm]
        constructor
        · rintro ⟨g, hg, e⟩
          obtain rfl : g = (j : Int) := by omega
          exact ⟨_, (trimF_iff hkb (by omega) hk).2 hg, by omega⟩
        · rintro ⟨g, hg, e⟩
          obtain rfl : g = (rk (kpS b) j : Int) := by omega
          exact ⟨_, (trimF_iff hkb (by omega) hk).1 hg, by omega⟩
    · rcases nat_split (m := m) (i := p) with h | ⟨j, rfl⟩ <;> rcases nat_split (m := m) (i := q) with h' | ⟨j', rfl⟩
      · rw [ka p h] at kp
        rw [ka q h'] at kq
        rw [phC_a h, phC_a h', con_arc_a hm ha hb h h', con_arc_a ta ha' hb' (rk_lt kp h) (rk_lt kq h'), trimA_iff ha hka kp kq]
      · rw [ka p h] at kp
        rw [kb] at kq
        rw [phC_a h, phC_b, con_arc_x hm ha hb h, con_arc_x ta ha' hb' (rk_lt kp h), trimF_iff hka h kp, trim_start hkb]
        have hbs := hb.start
        refine and_congr Iff.rfl (and_congr ⟨fun e => by rw [show j' = b.start.toNat by omega], fun e => ?_⟩ Iff.rfl)
        have : j' = b.start.toNat := rk_inj kq hkb (by omega)
        omega
      · rw [kb] at kp
        rw [ka q h'] at kq
        rw [phC_a h', phC_b]
        exact ⟨fun h => absurd h (con_arc_n hm ha hb h'), fun h => absurd h (con_arc_n ta ha' hb' (rk_lt kq h'))⟩
      · rw [kb] at kp kq
        rw [phC_b, phC_b, con_arc_b hm ha hb, con_arc_b ta ha' hb', trimA_iff hb hkb kp kq]
  · have e1 : ¬ kpS (conT a b) (conT a b).start.toNat = true := by
      rw [kp_rel hr.start.1]
      rintro ⟨xs, ys, h⟩
      obtain ⟨x1, x2, y1, y2, _, _, r1, r2⟩ := (rel_con ha hb hm).1 h
      exact hne ⟨(kp_rel ha.start.1).2 ⟨_, _, r1⟩, (kp_rel hb.start.1).2 ⟨_, _, r2⟩⟩
    have e2 : ¬ kpS (conT (TrimS a m) (TrimS b n)) (conT (TrimS a m) (TrimS b n)).start.toNat = true := by
      rw [kp_rel hr'.start.1]
      rintro ⟨xs, ys, h⟩
      obtain ⟨x1, x2, y1, y2, _, _, r1, r2⟩ := (rel_con ha' hb' trim_states).1 h
      exact hne ⟨(kp_rel ha.start.1).2 ⟨_, _, (rel_trim ha).1 r1⟩, (kp_rel hb.start.1).2 ⟨_, _, (rel_trim hb).1 r2⟩⟩
    rw [empty_one e1, empty_one e2]
/-! ### unions -/
theorem uni_up (ha : a.Rng m) (hb : b.Rng n) (hm : a.states = m) (h : Up (uniT a b) s) : s = 0 ∨ (s < 1 + m ∧ Up a (s - 1)) ∨ ((1 + m : Int) ≤ s ∧ Up b (s - (1 + m))) := by
  refine up_ind (t := uniT a b) (Q := fun s => s = 0 ∨ (s < 1 + m ∧ Up a (s - 1)) ∨ ((1 + m : Int) ≤ s ∧ Up b (s - (1 + m)))) (.inl rfl) (fun x hx h => ?_) h
  have has := ha.start
  have hbs := hb.start
  rcases mem_uniA.1 hx with rfl | rfl | ⟨y, hy, rfl⟩ | ⟨y, hy, rfl⟩
  · simp only [epsA]
    exact .inr (.inl ⟨by omega, by rw [show 1 + a.start - 1 = a.start by omega]; exact up_start a⟩)
  · simp only [epsA, hm]
    exact .inr (.inr ⟨by omega, by rw [show 1 + (m : Int) + b.start - (1 + m) = b.start by omega]; exact up_start b⟩)
  · have := ha.arcs y hy
    simp only [shA, Int.add_sub_cancel] at h ⊢
    rcases h with h | ⟨_, h⟩ | ⟨h, _⟩
    · omega
    · exact .inr (.inl ⟨by omega, up_arc hy h⟩)
    · omega
  · have := hb.arcs y hy
    simp only [shA, hm, Int.add_sub_cancel] at h ⊢
    rcases h with h | ⟨h, _⟩ | ⟨_, h⟩
    · omega
    · omega
    · exact .inr (.inr ⟨by omega, up_arc hy h⟩)
theorem uni_dn (ha : a.Rng m) (hb : b.Rng n) (hm : a.states = m) (h : Dn (uniT a b) s) : s = 0 ∨ (s < 1 + m ∧ Dn a (s - 1)) ∨ ((1 + m : Int) ≤ s ∧ Dn b (s - (1 + m))) := by
  refine dn_ind (t := uniT a b) (Q := fun s => s = 0 ∨ (s < 1 + m ∧ Dn a (s - 1)) ∨ ((1 + m : Int) ≤ s ∧ Dn b (s - (1 + m)))) (fun f hf => ?_) (fun x hx h => ?_) h
  · rcases mem_uniF.1 hf with ⟨g, hg, rfl⟩ | ⟨g, hg, rfl⟩
    · have := ha.fin g hg
      exact .inr (.inl ⟨by omega, by rw [show 1 + g - 1 = g by omega]; exact .base hg⟩)
    · have := hb.fin g hg
      exact .inr (.inr ⟨by omega, by rw [hm, show 1 + (m : Int) + g - (1 + m) = g by omega]; exact .base hg⟩)
  · rcases mem_uniA.1 hx with rfl | rfl | ⟨y, hy, rfl⟩ | ⟨y, hy, rfl⟩
    · exact .inl rfl
    · exact .inl rfl
    · have := ha.arcs y hy
      simp only [shA, Int.add_sub_cancel] at h ⊢
      rcases h with h | ⟨_, h⟩ | ⟨h, _⟩
      · omega
      · exact .inr (.inl ⟨by omega, dn_arc hy h⟩)
      · omega
    · have := hb.arcs y hy
      simp only [shA, hm, Int.add_sub_cancel] at h ⊢
      rcases h with h | ⟨h, _⟩ | ⟨_, h⟩
      · omega
      · omega
      · exact .inr (.inr ⟨by omega, dn_arc hy h⟩)
theorem up_uni_a (ha : a.Rng m) (hb : b.Rng n) (hm : a.states = m) (h : Up a s) : Up (uniT a b) (s + 1) := by
  refine up_emb (uni_a ha hb hm).inn ?_ h
  have := up_arc (mem_uniA.2 (.inl rfl)) (up_start (uniT a b))
  simp only [epsA] at this
  rw [Int.add_comm]; exact this
theorem up_uni_b (ha : a.Rng m) (hb : b.Rng n) (hm : a.states = m) (h : Up b s) : Up (uniT a b) (s + (1 + m)) := by
  refine up_emb (uni_b ha hb hm).inn ?_ h
  have := up_arc (mem_uniA.2 (.inr (.inl rfl))) (up_start (uniT a b))
  simp only [epsA, hm] at this
  rw [Int.add_comm]; exact this
theorem dn_uni_a (ha : a.Rng m) (hb : b.Rng n) (hm : a.states = m) (h : Dn a s) : Dn (uniT a b) (s + 1) :=
  dn_emb (uni_a ha hb hm).inn (fun f hf => .base (mem_uniF.2 (.inl ⟨f, hf, Int.add_comm _ _⟩))) h
theorem dn_uni_b (ha : a.Rng m) (hb : b.Rng n) (hm : a.states = m) (h : Dn b s) : Dn (uniT a b) (s + (1 + m)) :=
  dn_emb (uni_b ha hb hm).inn (fun f hf => .base (mem_uniF.2 (.inr ⟨f, hf, by rw [hm, Int.add_comm]⟩))) h
theorem kp_uni_a (ha : a.Rng m) (hb : b.Rng n) (hm : a.states = m) {i : Nat} (hi : i < m) : kpS (uniT a b) (1 + i) = kpS a i := by
  have e : ((1 + i : Nat) : Int) = (i : Int) + 1 := by omega
  rw [Bool.eq_iff_iff, kpS_iff, kpS_iff, e]
  constructor
  · rintro ⟨h1, h2⟩
    have g1 := (((uni_up ha hb hm h1).resolve_left (by omega)).resolve_right (by omega)).2
    have g2 := (((uni_dn ha hb hm h2).resolve_left (by omega)).resolve_right (by omega)).2
    rw [Int.add_sub_cancel] at g1 g2
    exact ⟨g1, g2⟩
  · rintro ⟨h1, h2⟩; exact ⟨up_uni_a ha hb hm h1, dn_uni_a ha hb hm h2⟩
theorem kp_uni_b (ha : a.Rng m) (hb : b.Rng n) (hm : a.states = m) (i : Nat) : kpS (uniT a b) (1 + m + i) = kpS b i := by
  have e : ((1 + m + i : Nat) : Int) = (i : Int) + (1 + m) := by omega
  rw [Bool.eq_iff_iff, kpS_iff, kpS_iff, e]
  constructor
  · rintro ⟨h1, h2⟩
    have g1 := (((uni_up ha hb hm h1).resolve_left (by omega)).resolve_left (by omega)).2
    have g2 := (((uni_dn ha hb hm h2).resolve_left (by omega)).resolve_left (by omega)).2
    rw [Int.add_sub_cancel] at g1 g2
    exact ⟨g1, g2⟩
  · rintro ⟨h1, h2⟩; exact ⟨up_uni_b ha hb hm h1, dn_uni_b ha hb hm h2⟩
end
end Go.Proofs.YtoilmeiikgegcaaDoor.G

set_option linter.all false
namespace Go.Proofs.YtoilmeiikgegcaaDoor.G
open Go Go.RowKit
section
variable {t a b : Tra} {m n : Nat} {k s p : Int} {Q : Int → Prop}
theorem uni_arc_0 (hm : a.states = m) (ha : a.Rng m) (hb : b.Rng n) {q : Nat} {x y : Int} : (⟨0, (q : Int), x, y⟩ : Arc) ∈ (uniT a b).arcs ↔ ((q : Int) = 1 + a.start ∨ (q : Int) = 1 + m + b.start) ∧ x = 0 ∧ y = 0 := by
  rw [mem_uniA, hm]
  constructor
  · rintro (e | e | ⟨z, hz, e⟩ | ⟨z, hz, e⟩)
    · simp only [epsA, Arc.mk.injEq] at e; omega
    · simp only [epsA, Arc.mk.injEq] at e; omega
    · have := ha.arcs z hz; simp only [shA, Arc.mk.injEq] at e; omega
    · have := hb.arcs z hz; simp only [shA, Arc.mk.injEq] at e; omega
  · rintro ⟨h | h, rfl, rfl⟩
    · exact .inl (by simp only [epsA, Arc.mk.injEq, and_true, true_and]; omega)
    · exact .inr (.inl (by simp only [epsA, Arc.mk.injEq, and_true, true_and]; omega))
theorem uni_arc_n (hm : a.states = m) (ha : a.Rng m) (hb : b.Rng n) {p x y : Int} : (⟨p, 0, x, y⟩ : Arc) ∉ (uniT a b).arcs := by
  have has := ha.start
  have hbs := hb.start
  rw [mem_uniA, hm]
  rintro (e | e | ⟨z, hz, e⟩ | ⟨z, hz, e⟩)
  · simp only [epsA, Arc.mk.injEq] at e; omega
  · simp only [epsA, Arc.mk.injEq] at e; omega
  · have := ha.arcs z hz; simp only [shA, Arc.mk.injEq] at e; omega
  · have := hb.arcs z hz; simp only [shA, Arc.mk.injEq] at e; omega
theorem uni_arc_a (hm : a.states = m) (ha : a.Rng m) (hb : b.Rng n) {p q : Nat} {x y : Int} (hp : p < m) (hq : q < m) : (⟨((1 + p : Nat) : Int), ((1 + q : Nat) : Int), x, y⟩ : Arc) ∈ (uniT a b).arcs ↔ (⟨(p : Int), (q : Int), x, y⟩ : Arc) ∈ a.arcs := by
  rw [mem_uniA, hm]
  constructor
  · rintro (e | e | ⟨z, hz, e⟩ | ⟨z, hz, e⟩)
    · simp only [epsA, Arc.mk.injEq] at e; omega
    · simp only [epsA, Arc.mk.injEq] at e; omega
    · simp only [shA, Arc.mk.injEq] at e
      obtain ⟨s1, s2, s3, s4⟩ := e
      rw [s3, s4, show (p : Int) = z.src by omega, show (q : Int) = z.dst by omega]; exact hz
    · have := hb.arcs z hz; simp only [shA, Arc.mk.injEq] at e; omega
  · intro h; exact .inr (.inr (.inl ⟨_, h, by simp only [shA, Arc.mk.injEq, and_true, true_and]; omega⟩))
theorem uni_arc_b (hm : a.states = m) (ha : a.Rng m) (hb : b.Rng n) {p q : Nat} {x y : Int} : (⟨((1 + m + p : Nat) : Int), ((1 + m + q : Nat) : Int), x, y⟩ : Arc) ∈ (uniT a b).arcs ↔ (⟨(p : Int), (q : Int), x, y⟩ : Arc) ∈ b.arcs := by
  rw [mem_uniA, hm]
  constructor
  · rintro (e | e | ⟨z, hz, e⟩ | ⟨z, hz, e⟩)
    · simp only [epsA, Arc.mk.injEq] at e; omega
    · simp only [epsA, Arc.mk.injEq] at e; omega
    · have := ha.arcs z hz; simp only [shA, Arc.mk.injEq] at e; omega
    · simp only [shA, Arc.mk.injEq] at e
      obtain ⟨s1, s2, s3, s4⟩ := e
      rw [s3, s4, show (p : Int) = z.src by omega, show (q : Int) = z.dst by omega]; exact hz
  · intro h; exact .inr (.inr (.inr ⟨_, h, by simp only [shA, Arc.mk.injEq, and_true, true_and]; omega⟩))
theorem uni_arc_ab (hm : a.states = m) (ha : a.Rng m) (hb : b.Rng n) {p q : Nat} {x y : Int} (hp : p < m) : (⟨((1 + p : Nat) : Int), ((1 + m + q : Nat) : Int), x, y⟩ : Arc) ∉ (uniT a b).arcs := by
  rw [mem_uniA, hm]
  rintro (e | e | ⟨z, hz, e⟩ | ⟨z, hz, e⟩)
  · simp only [epsA, Arc.mk.injEq] at e; omega
  · simp only [epsA, Arc.mk.injEq] at e; omega
  · have := ha.arcs z hz; simp only [shA, Arc.mk.injEq] at e; omega
  · have := hb.arcs z hz; simp only [shA, Arc.mk.injEq] at e; omega
theorem uni_arc_ba (hm : a.states = m) (ha : a.Rng m) (hb : b.Rng n) {p q : Nat} {x y : Int} (hq : q < m) : (⟨((1 + m + p : Nat) : Int), ((1 + q : Nat) : Int), x, y⟩ : Arc) ∉ (uniT a b).arcs := by
  rw [mem_uniA, hm]
  rintro (e | e | ⟨z, hz, e⟩ | ⟨z, hz, e⟩)
  · simp only [epsA, Arc.mk.injEq] at e; omega
  · simp only [epsA, Arc.mk.injEq] at e; omega
  · have := ha.arcs z hz; simp only [shA, Arc.mk.injEq] at e; omega
  · have := hb.arcs z hz; simp only [shA, Arc.mk.injEq] at e; omega
theorem uni_split {m i : Nat} : i = 0 ∨ (∃ j, j < m ∧ i = 1 + j) ∨ ∃ j, i = 1 + m + j := by
  by_cases h0 : i = 0
  · exact .inl h0
  · by_cases h : i < 1 + m
    · exact .inr (.inl ⟨i - 1, by omega, by omega⟩)
    · exact .inr (.inr ⟨i - (1 + m), by omega⟩)
def phU (kp kq : Nat → Bool) (m : Nat) (i : Nat) : Nat := if i = 0 then 0 else if i < 1 + m then 1 + rk kp (i - 1) else 1 + rk kp m + rk kq (i - (1 + m))
theorem phU_0 {kp kq : Nat → Bool} {m : Nat} : phU kp kq m 0 = 0 := rfl
theorem phU_a {kp kq : Nat → Bool} {m i : Nat} (h : i < m) : phU kp kq m (1 + i) = 1 + rk kp i := by rw [phU, if_neg (by omega), if_pos (by omega), Nat.add_sub_cancel_left]
theorem phU_b {kp kq : Nat → Bool} {m i : Nat} : phU kp kq m (1 + m + i) = 1 + rk kp m + rk kq i := by rw [phU, if_neg (by omega), if_neg (by omega), Nat.add_sub_cancel_left]
theorem trim_sz (hr : a.Rng m) : (TrimS a m).states.toNat = (if kpS a a.start.toNat = true then rk (kpS a) m else 1) := by
  unfold TrimS
  split <;> simp [oneTra]
theorem kp_trim_iff (hr : a.Rng m) {i : Nat} (hi : kpS a i = true) : kpS a a.start.toNat = true := by
  obtain ⟨h1, h2⟩ := kpS_iff.1 hi
  obtain ⟨xs, ys, r⟩ := reach_up.1 h1
  rw [kp_start hr]
  exact coreach_run r h2
theorem kp_empty {m : Nat} (hr : a.Rng m) (h : ¬ kpS a a.start.toNat = true) (i : Nat) : kpS (TrimS a m) i = false := by
  rw [Bool.eq_false_iff]
  intro hk
  exact h (trim_kept hr hk).1
theorem kp_none {m : Nat} (hr : a.Rng m) (h : ¬ kpS a a.start.toNat = true) (i : Nat) : kpS a i = false := by
  rw [Bool.eq_false_iff]
  exact fun hk => h (kp_trim_iff hr hk)
/-- Trimming before a union makes no difference. -/
theorem trim_uni (ha : a.Rng m) (hb : b.Rng n) (hm : a.states = m) (hn : b.states = n) : TrimS (uniT (TrimS a m) (TrimS b n)) (1 + (TrimS a m).states.toNat + (TrimS b n).states.toNat) = TrimS (uniT a b) (1 + m + n) := by
  have hr := uni_rng ha hb hm hn
  have ha' := trim_rng ha
  have hb' := trim_rng hb
  have ta : (TrimS a m).states = ((TrimS a m).states.toNat : Int) := trim_states
  have hr' := uni_rng ha' hb' ta trim_states
  generalize hm' : (TrimS a m).states.toNat = m' at *
  generalize hn' : (TrimS b n).states.toNat = n' at *
  have ka : ∀ i, i < m → kpS (uniT a b) (1 + i) = kpS a i := fun i hi => kp_uni_a ha hb hm hi
  have kb : ∀ i, kpS (uniT a b) (1 + m + i) = kpS b i := kp_uni_b ha hb hm
  have ka' : ∀ i, i < m' → kpS (uniT (TrimS a m) (TrimS b n)) (1 + i) = kpS (TrimS a m) i := fun i hi => kp_uni_a ha' hb' ta hi
  have kb' : ∀ i, kpS (uniT (TrimS a m) (TrimS b n)) (1 + m' + i) = kpS (TrimS b n) i := kp_uni_b ha' hb' ta
  have sza : ∀ i, i < m → kpS a i = true → rk (kpS a) i < m' := fun i hi hk => by
    rw [← hm', trim_sz ha, if_pos (kp_trim_iff ha hk)]; exact rk_lt hk hi
  have szb : ∀ i, i < n → kpS b i = true → rk (kpS b) i < n' := fun i hi hk => by
    rw [← hn', trim_sz hb, if_pos (kp_trim_iff hb hk)]; exact rk_lt hk hi
  let φ : Nat → Nat := fun i => if i = 0 then 0 else if i < 1 + m then 1 + rk (kpS a) (i - 1) else 1 + m' + rk (kpS b) (i - (1 + m))
  have φ0 : φ 0 = 0 := rfl
  have φa : ∀ i, i < m → φ (1 + i) = 1 + rk (kpS a) i := fun i h => by
    show (if 1 + i = 0 then 0 else if 1 + i < 1 + m then _ else _) = _
    rw [if_neg (by omega), if_pos (by omega), Nat.add_sub_cancel_left]
  have φb : ∀ i, φ (1 + m + i) = 1 + m' + rk (kpS b) i := fun i => by
    show (if 1 + m + i = 0 then 0 else if 1 + m + i < 1 + m then _ else _) = _
    rw [if_neg (by omega), if_neg (by omega), Nat.add_sub_cancel_left]
  have st : ∀ {i : Nat}, kpS a i = true → (TrimS a m).start = (rk (kpS a) a.start.toNat : Int) := fun hk => trim_start (kp_trim_iff ha hk)
  have stb : ∀ {i : Nat}, kpS b i = true → (TrimS b n).start = (rk (kpS b) b.start.toNat : Int) := fun hk => trim_start (kp_trim_iff hb hk)
  have k0 : kpS (uniT a b) 0 = true ↔ kpS (uniT (TrimS a m) (TrimS b n)) 0 = true := by
    have e1 := kp_rel (t := uniT a b) (by simp [uniT])
    have e2 := kp_rel (t := uniT (TrimS a m) (TrimS b n)) (by simp [uniT])
    rw [show kpS (uniT a b) 0 = true ↔ _ from e1, show kpS (uniT (TrimS a m) (TrimS b n)) 0 = true ↔ _ from e2]
    refine exists_congr fun xs => exists_congr fun ys => ?_
    rw [rel_uni ha hb hm, rel_uni ha' hb' ta, rel_trim ha, rel_trim hb]
  have has := ha.start
  have hbs := hb.start
  refine (trim_iso (φ := φ) hr hr' ⟨fun i hi hk => ?_, fun j hj hk => ?_, fun i i' hi' ki ki' hl => ?_, fun _ => φ0, fun h => k0.2 h, fun i hi hk => ?_, fun p q x y hp hq kp kq => ?_⟩).symm
  · rcases uni_split (m := m) (i := i) with rfl | ⟨j, h, rfl⟩ | ⟨j, rfl⟩
    · rw [φ0]; exact ⟨by omega, k0.1 hk⟩
    · rw [ka j h] at hk
      have := sza j h hk
      rw [φa j h, ka' _ this]
      exact ⟨by omega, kp_trim ha hk⟩
    · rw [kb] at hk
      have := szb j (by omega) hk
      rw [φb, kb']
      exact ⟨by omega, kp_trim hb hk⟩
  · rcases uni_split (m := m') (i := j) with rfl | ⟨j, h, rfl⟩ | ⟨j, rfl⟩
    · exact ⟨0, by omega, k0.2 hk, rfl⟩
    · rw [ka' j h] at hk
      obtain ⟨_, i, h1, h2, h3⟩ := trim_kept ha hk
      exact ⟨1 + i, by omega, by rw [ka i h1]; exact h2, by rw [φa i h1, h3]⟩
    · rw [kb'] at hk
      obtain ⟨_, i, h1, h2, h3⟩ := trim_kept hb hk
      exact ⟨1 + m + i, by omega, by rw [kb]; exact h2, by rw [φb, h3]⟩
  · rcases uni_split (m := m) (i := i) with rfl | ⟨j, h, rfl⟩ | ⟨j, rfl⟩ <;> rcases uni_split (m := m) (i := i') with rfl | ⟨j', h', rfl⟩ | ⟨j', rfl⟩
    · omega
    · rw [φ0, φa j' h']; omega
    · rw [φ0, φb]; omega
    · omega
    · rw [ka j h] at ki
      have := rk_lt ki (show j < j' by omega)
      rw [φa j h, φa j' h']; omega
    · rw [ka j h] at ki
      have := sza j h ki
      rw [φa j h, φb]; omega
    · omega
    · omega
    · rw [kb] at ki
      have := rk_lt ki (show j < j' by omega)
      rw [φb, φb]; omega
  · rw [mem_uniF, mem_uniF, ta, hm]
    rcases uni_split (m := m) (i := i) with rfl | ⟨j, h, rfl⟩ | ⟨j, rfl⟩
    · rw [φ0]
      constructor
      · rintro (⟨g, hg, e⟩ | ⟨g, hg, e⟩)
        · have := ha.fin g hg; omega
        · have := hb.fin g hg; omega
      · rintro (⟨g, hg, e⟩ | ⟨g, hg, e⟩)
        · have := ha'.fin g hg; omega
        · have := hb'.fin g hg; omega
    · rw [ka j h] at hk
      have hs := sza j h hk
      rw [φa j h]
      constructor
      · rintro (⟨g, hg, e⟩ | ⟨g, hg, e⟩)
        · obtain rfl : g = (j : Int) := by omega
          exact .inl ⟨_, (trimF_iff (kp_trim_iff ha hk) h hk).2 hg, by omega⟩
        · have := hb.fin g hg; omega
      · rintro (⟨g, hg, e⟩ | ⟨g, hg, e⟩)
        · obtain rfl : g = (rk (kpS a) j : Int) := by omega
          exact .inl ⟨_, (trimF_iff (kp_trim_iff ha hk) h hk).1 hg, by omega⟩
        · have := hb'.fin g hg; omega
    · rw [kb] at hk
      rw [φb]
      constructor
      · rintro (⟨g, hg, e⟩ | ⟨g, hg, e⟩)
        · have := ha.fin g hg; omega
        · obtain rfl : g = (j : Int) := by omega
          exact .inr ⟨_, (trimF_iff (kp_trim_iff hb hk) (by omega) hk).2 hg, by omega⟩
      · rintro (⟨g, hg, e⟩ | ⟨g, hg, e⟩)
        · have := ha'.fin g hg; omega
        · obtain rfl : g = (rk (kpS b) j : Int) := by omega
          exact .inr ⟨_, (trimF_iff (kp_trim_iff hb hk) (by omega) hk).1 hg, by omega⟩
  · rcases uni_split (m := m) (i := q) with rfl | ⟨j', h', rfl⟩ | ⟨j', rfl⟩
    · rw [φ0]
      exact ⟨fun h => absurd h (uni_arc_n hm ha hb), fun h => absurd h (uni_arc_n ta ha' hb')⟩
    · rw [ka j' h'] at kq
      have hs' := sza j' h' kq
      rw [φa j' h']
      rcases uni_split (m := m) (i := p) with rfl | ⟨j, h, rfl⟩ | ⟨j, rfl⟩
      · rw [φ0]
        simp only [Int.natCast_zero]
        rw [uni_arc_0 hm ha hb, uni_arc_0 ta ha' hb', st kq]
        have hbs' := hb'.start
        refine and_congr ⟨fun e => ?_, fun e => ?_⟩ Iff.rfl
        · have : j' = a.start.toNat := by omega
          subst this; left; omega
        · have : j' = a.start.toNat := rk_inj kq (kp_trim_iff ha kq) (by omega)
          subst this; left; omega
      · rw [ka j h] at kp
        rw [φa j h, uni_arc_a hm ha hb h h', uni_arc_a ta ha' hb' (sza j h kp) hs', trimA_iff ha (kp_trim_iff ha kp) kp kq]
      · rw [φb]
        exact ⟨fun e => absurd e (uni_arc_ba hm ha hb h'), fun e => absurd e (uni_arc_ba ta ha' hb' hs')⟩
    · rw [kb] at kq
      rw [φb]
      rcases uni_split (m := m) (i := p) with rfl | ⟨j, h, rfl⟩ | ⟨j, rfl⟩
      · rw [φ0]
        simp only [Int.natCast_zero]
        rw [uni_arc_0 hm ha hb, uni_arc_0 ta ha' hb', stb kq]
        have has' := ha'.start
        refine and_congr ⟨fun e => ?_, fun e => ?_⟩ Iff.rfl
        · have : j' = b.start.toNat := by omega
          subst this; right; omega
        · have : j' = b.start.toNat := rk_inj kq (kp_trim_iff hb kq) (by omega)
          subst this; right; omega
      · rw [ka j h] at kp
        rw [φa j h]
        exact ⟨fun e => absurd e (uni_arc_ab hm ha hb h), fun e => absurd e (uni_arc_ab ta ha' hb' (sza j h kp))⟩
      · rw [kb] at kp
        rw [φb, uni_arc_b hm ha hb, uni_arc_b ta ha' hb', trimA_iff hb (kp_trim_iff hb kp) kp kq]
/-! ### repetitions -/
theorem sta_up (ha : a.Rng m) (h : Up (staT a) s) : s = 0 ∨ (1 ≤ s ∧ Up a (s - 1)) := by
  refine up_ind (t := staT a) (Q := fun s => s = 0 ∨ (1 ≤ s ∧ Up a (s - 1))) (.inl rfl) (fun x hx h => ?_) h
  have has := ha.start
  rcases mem_staA.1 hx with rfl | ⟨y, hy, rfl⟩ | ⟨f, hf, rfl⟩
  · simp only [epsA]
    exact .inr ⟨by omega, by rw [show 1 + a.start - 1 = a.start by omega]; exact up_start a⟩
  · have := ha.arcs y hy
    simp only [shA, Int.add_sub_cancel] at h ⊢
    rcases h with h | ⟨_, h⟩
    · omega
    · exact .inr ⟨by omega, up_arc hy h⟩
  · exact .inl rfl
theorem sta_dn (ha : a.Rng m) (h : Dn (staT a) s) : s = 0 ∨ (1 ≤ s ∧ Dn a (s - 1)) := by
  refine dn_ind (t := staT a) (Q := fun s => s = 0 ∨ (1 ≤ s ∧ Dn a (s - 1))) (fun f hf => .inl (by simpa [staT] using hf)) (fun x hx h => ?_) h
  rcases mem_staA.1 hx with rfl | ⟨y, hy, rfl⟩ | ⟨f, hf, rfl⟩
  · exact .inl rfl
  · have := ha.arcs y hy
    simp only [shA, Int.add_sub_cancel] at h ⊢
    rcases h with h | ⟨_, h⟩
    · omega
    · exact .inr ⟨by omega, dn_arc hy h⟩
  · have := ha.fin f hf
    simp only [epsA]
    exact .inr ⟨by omega, by rw [show 1 + f - 1 = f by omega]; exact .base hf⟩
theorem up_sta (ha : a.Rng m) (h : Up a s) : Up (staT a) (s + 1) := by
  refine up_emb (sta_a ha).inn ?_ h
  have := up_arc (mem_staA.2 (.inl rfl)) (up_start (staT a))
  simp only [epsA] at this
  rw [Int.add_comm]; exact this
theorem dn_sta (ha : a.Rng m) (h : Dn a s) : Dn (staT a) (s + 1) := by
  refine dn_emb (sta_a ha).inn (fun f hf => ?_) h
  have h1 : epsA (1 + f) 0 ∈ (staT a).arcs := mem_staA.2 (.inr (.inr ⟨f, hf, rfl⟩))
  have := dn_arc h1 (.base (by simp [staT, epsA]))
  simp only [epsA] at this
  rw [Int.add_comm]; exact this
theorem kp_sta_0 : kpS (staT a) 0 = true := kpS_iff.2 ⟨up_start (staT a), .base (by simp [staT])⟩
theorem kp_sta (ha : a.Rng m) (i : Nat) : kpS (staT a) (1 + i) = kpS a i := by
  have e : ((1 + i : Nat) : Int) = (i : Int) + 1 := by omega
  rw [Bool.eq_iff_iff, kpS_iff, kpS_iff, e]
  constructor
  · rintro ⟨h1, h2⟩
    have g1 := ((sta_up ha h1).resolve_left (by omega)).2
    have g2 := ((sta_dn ha h2).resolve_left (by omega)).2
    rw [Int.add_sub_cancel] at g1 g2
    exact ⟨g1, g2⟩
  · rintro ⟨h1, h2⟩; exact ⟨up_sta ha h1, dn_sta ha h2⟩
theorem sta_arc_00 (ha : a.Rng m) {x y : Int} : (⟨0, 0, x, y⟩ : Arc) ∉ (staT a).arcs := by
  have has := ha.start
  rw [mem_staA]
  rintro (e | ⟨z, hz, e⟩ | ⟨f, hf, e⟩)
  · simp only [epsA, Arc.mk.injEq] at e; omega
  · have := ha.arcs z hz; simp only [shA, Arc.mk.injEq] at e; omega
  · have := ha.fin f hf; simp only [epsA, Arc.mk.injEq] at e; omega
theorem sta_arc_0 (ha : a.Rng m) {q : Nat} {x y : Int} : (⟨0, ((1 + q : Nat) : Int), x, y⟩ : Arc) ∈ (staT a).arcs ↔ (q : Int) = a.start ∧ x = 0 ∧ y = 0 := by
  rw [mem_staA]
  constructor
  · rintro (e | ⟨z, hz, e⟩ | ⟨f, hf, e⟩)
    · simp only [epsA, Arc.mk.injEq] at e; omega
    · have := ha.arcs z hz; simp only [shA, Arc.mk.injEq] at e; omega
    · simp only [epsA, Arc.mk.injEq] at e; omega
  · rintro ⟨h, rfl, rfl⟩; exact .inl (by simp only [epsA, Arc.mk.injEq, and_true, true_and]; omega)
theorem sta_arc_x (ha : a.Rng m) {p : Nat} {x y : Int} : (⟨((1 + p : Nat) : Int), 0, x, y⟩ : Arc) ∈ (staT a).arcs ↔ (p : Int) ∈ a.finals ∧ x = 0 ∧ y = 0 := by
  rw [mem_staA]
  constructor
  · rintro (e | ⟨z, hz, e⟩ | ⟨f, hf, e⟩)
    · simp only [epsA, Arc.mk.injEq] at e; omega
    · have := ha.arcs z hz; simp only [shA, Arc.mk.injEq] at e; omega
    · simp only [epsA, Arc.mk.injEq] at e
      obtain ⟨s1, _, s3, s4⟩ := e
      rw [show (p : Int) = f by omega]; exact ⟨hf, s3, s4⟩
  · rintro ⟨h, rfl, rfl⟩; exact .inr (.inr ⟨_, h, by simp only [epsA, Arc.mk.injEq, and_true, true_and]; omega⟩)
theorem sta_arc (ha : a.Rng m) {p q : Nat} {x y : Int} : (⟨((1 + p : Nat) : Int), ((1 + q : Nat) : Int), x, y⟩ : Arc) ∈ (staT a).arcs ↔ (⟨(p : Int), (q : Int), x, y⟩ : Arc) ∈ a.arcs := by
  rw [mem_staA]
  constructor
  · rintro (e | ⟨z, hz, e⟩ | ⟨f, hf, e⟩)
    · simp only [epsA, Arc.mk.injEq] at e; omega
    · simp only [shA, Arc.mk.injEq] at e
      obtain ⟨s1, s2, s3, s4⟩ := e
      rw [s3, s4, show (p : Int) = z.src by omega, show (q : Int) = z.dst by omega]; exact hz
    · simp only [epsA, Arc.mk.injEq] at e; omega
  · intro h; exact .inr (.inl ⟨_, h, by simp only [shA, Arc.mk.injEq, and_true, true_and]; omega⟩)
theorem sta_split {i : Nat} : i = 0 ∨ ∃ j, i = 1 + j := by
  by_cases h0 : i = 0
  · exact .inl h0
  · exact .inr ⟨i - 1, by omega⟩
def phS (kp : Nat → Bool) : Nat → Nat
  | 0 => 0
  | i + 1 => 1 + rk kp i
theorem phS_s {kp : Nat → Bool} {i : Nat} : phS kp (1 + i) = 1 + rk kp i := by rw [Nat.add_comm 1 i]; rfl
/-- Trimming before a repetition makes no difference. -/
theorem trim_sta (ha : a.Rng m) (hm : a.states = m) : TrimS (staT (TrimS a m)) (1 + (TrimS a m).states.toNat) = TrimS (staT a) (1 + m) := by
  have hr := sta_rng ha hm
  have ha' := trim_rng ha
  have hr' := sta_rng ha' trim_states
  have sza : ∀ i, i < m → kpS a i = true → rk (kpS a) i < (TrimS a m).states.toNat := fun i hi hk => by
    rw [trim_sz ha, if_pos (kp_trim_iff ha hk)]; exact rk_lt hk hi
  have has := ha.start
  refine (trim_iso (φ := phS (kpS a)) hr hr' ⟨fun i hi hk => ?_, fun j hj hk => ?_, fun i i' hi' ki ki' hl => ?_, fun _ => rfl, fun _ => kp_sta_0, fun i hi hk => ?_, fun p q x y hp hq kp kq => ?_⟩).symm
  · rcases sta_split (i := i) with rfl | ⟨j, rfl⟩
    · exact ⟨by show 0 < _; omega, kp_sta_0⟩
    · rw [kp_sta ha] at hk
      have := sza j (by omega) hk
      rw [phS_s, kp_sta ha']
      exact ⟨by omega, kp_trim ha hk⟩
  · rcases sta_split (i := j) with rfl | ⟨j, rfl⟩
    · exact ⟨0, by omega, kp_sta_0, rfl⟩
    · rw [kp_sta ha'] at hk
      obtain ⟨_, i, h1, h2, h3⟩ := trim_kept ha hk
      exact ⟨1 + i, by omega, by rw [kp_sta ha]; exact h2, by rw [phS_s, h3]⟩
  · rcases sta_split (i := i) with rfl | ⟨j, rfl⟩ <;> rcases sta_split (i := i') with rfl | ⟨j', rfl⟩
    · omega
    · rw [phS_s]; show 0 < _; omega
    · omega
    · rw [kp_sta ha] at ki
      have := rk_lt ki (show j < j' by omega)
      rw [phS_s, phS_s]; omega
  · simp only [staT, List.mem_singleton]
    rcases sta_split (i := i) with rfl | ⟨j, rfl⟩
    · exact ⟨fun _ => rfl, fun _ => rfl⟩
    · rw [phS_s]; omega
  · rcases sta_split (i := p) with rfl | ⟨j, rfl⟩ <;> rcases sta_split (i := q) with rfl | ⟨j', rfl⟩
    · exact ⟨fun h => absurd h (sta_arc_00 ha), fun h => absurd h (sta_arc_00 ha')⟩
    · rw [kp_sta ha] at kq
      rw [phS_s, show phS (kpS a) 0 = 0 from rfl]
      simp only [Int.natCast_zero]
      rw [sta_arc_0 ha, sta_arc_0 ha', trim_start (kp_trim_iff ha kq)]
      refine and_congr ⟨fun e => by rw [show j' = a.start.toNat by omega], fun e => ?_⟩ Iff.rfl
      have : j' = a.start.toNat := rk_inj kq (kp_trim_iff ha kq) (by omega)
      omega
    · rw [kp_sta ha] at kp
      rw [phS_s, show phS (kpS a) 0 = 0 from rfl]
      simp only [Int.natCast_zero]
      rw [sta_arc_x ha, sta_arc_x ha', trimF_iff (kp_trim_iff ha kp) (by omega) kp]
    · rw [kp_sta ha] at kp kq
      rw [phS_s, phS_s, sta_arc ha, sta_arc ha', trimA_iff ha (kp_trim_iff ha kp) kp kq]
/-! ### the identities -/
theorem inv_con (a b : Tra) : invT (conT a b) = conT (invT a) (invT b) := by
  simp only [invT, conT, List.map_append, List.map_map]
  rfl
theorem inv_uni (a b : Tra) : invT (uniT a b) = uniT (invT a) (invT b) := by
  simp only [invT, uniT, List.map_append, List.map_map]
  rfl
theorem inv_sta (a : Tra) : invT (staT a) = staT (invT a) := by
  simp only [invT, staT, List.map_append, List.map_map]
  rfl
theorem trim_small (hr : t.Rng m) : (TrimS t m).states ≤ max 1 m ∧ (TrimS t m).arcs.length ≤ t.arcs.length := by
  unfold TrimS
  split
  · have := rk_bound (kpS t) m
    refine ⟨by simp only []; omega, Nat.le_trans (canon_len _) ?_⟩
    have hB : ∀ x, (arcS t x).length ≤ 1 := fun x => by unfold arcS; split <;> simp
    have := flat_len hB t.arcs
    omega
  · exact ⟨by simp [oneTra]; omega, by simp [oneTra]⟩
theorem inv_eq (ha : validT a = true) (hm : a.states = m) : InvS a = (TrimS (invT a) m, 0) ∧ validT (TrimS (invT a) m) = true := by
  obtain ⟨m', hm', h5, hal, ra, la⟩ := valid_all ha
  obtain rfl : m = m' := by omega
  rw [inv_ok ha hm]
  exact fin_good (inv_rng ra) (inv_labs la) h5 (by simp only [invT, List.length_map]; exact hal)
theorem dom_eq (ha : validT a = true) (hm : a.states = m) : DomS a = (TrimS (domT a) m, 0) ∧ validT (TrimS (domT a) m) = true := by
  obtain ⟨m', hm', h5, hal, ra, la⟩ := valid_all ha
  obtain rfl : m = m' := by omega
  rw [dom_ok ha hm]
  exact fin_good (relab_rng ra) (dom_labs la) h5 (by simp only [domT, relab, List.length_map]; exact hal)
theorem ran_eq (ha : validT a = true) (hm : a.states = m) : RanS a = (TrimS (ranT a) m, 0) ∧ validT (TrimS (ranT a) m) = true := by
  obtain ⟨m', hm', h5, hal, ra, la⟩ := valid_all ha
  obtain rfl : m = m' := by omega
  rw [ran_ok ha hm]
  exact fin_good (relab_rng ra) (ran_labs la) h5 (by simp only [ranT, relab, List.length_map]; exact hal)
theorem con_eq (ha : validT a = true) (hb : validT b = true) (hm : a.states = m) (hn : b.states = n) (h : m + n ≤ 512) (hl : a.arcs.length + b.arcs.length ≤ 3000) : ConS a b = (TrimS (conT a b) (m + n), 0) ∧ validT (TrimS (conT a b) (m + n)) = true := by
  obtain ⟨m', hm', _, hal, ra, la⟩ := valid_all ha
  obtain ⟨n', hn', _, hbl, rb, lb⟩ := valid_all hb
  obtain rfl : m = m' := by omega
  obtain rfl : n = n' := by omega
  have := valid_fin ha
  have hlen : (conT a b).arcs.length = a.arcs.length + b.arcs.length + a.finals.length := by simp [conT]; omega
  rw [con_ok ha hb hm hn]
  exact fin_good (con_rng ra rb hm hn) (con_labs la lb) h (by omega)
theorem uni_eq (ha : validT a = true) (hb : validT b = true) (hm : a.states = m) (hn : b.states = n) (h : m + n ≤ 511) (hl : a.arcs.length + b.arcs.length ≤ 3000) : UniS a b = (TrimS (uniT a b) (1 + m + n), 0) ∧ validT (TrimS (uniT a b) (1 + m + n)) = true := by
  obtain ⟨m', hm', _, hal, ra, la⟩ := valid_all ha
  obtain ⟨n', hn', _, hbl, rb, lb⟩ := valid_all hb
  obtain rfl : m = m' := by omega
  obtain rfl : n = n' := by omega
  have hlen : (uniT a b).arcs.length = 2 + a.arcs.length + b.arcs.length := by simp [uniT]; omega
  rw [uni_ok ha hb hm hn]
  exact fin_good (uni_rng ra rb hm hn) (uni_labs la lb) (by omega) (by omega)
theorem sta_eq (ha : validT a = true) (hm : a.states = m) (h : m ≤ 511) (hl : a.arcs.length ≤ 3000) : StaS a = (TrimS (staT a) (1 + m), 0) ∧ validT (TrimS (staT a) (1 + m)) = true := by
  obtain ⟨m', hm', _, hal, ra, la⟩ := valid_all ha
  obtain rfl : m = m' := by omega
  have := valid_fin ha
  have hlen : (staT a).arcs.length = 1 + a.arcs.length + a.finals.length := by simp [staT]; omega
  rw [sta_ok ha hm]
  exact fin_good (sta_rng ra hm) (sta_labs la) (by omega) (by omega)
theorem fst_of {α : Type} {x y : α} {e f : Int} (h : (x, e) = (y, f)) : x = y := congrArg Prod.fst h
theorem snd_of {α : Type} {x y : α} {e f : Int} (h : (x, e) = (y, f)) : e = f := congrArg Prod.snd h
/-- Inversion commutes with trimming, union, concatenation and repetition, and exchanges the projections. -/
theorem identities_law {i j k c u s x1 y1 x2 y2 x3 y3 d r x4 y4 : Tra} {e f g e1 e2 e3 e4 e5 e6 e7 e8 e9 e10 e11 e12 e13 : Int} (ha : validT a = true) (hb : validT b = true) (hsa : a.states ≤ 40) (hsb : b.states ≤ 40) (hla : a.arcs.length ≤ 40) (hlb : b.arcs.length ≤ 40)
    (hi : (i, e) = InvS a) (hj : (j, f) = InvS b) (hk : (k, g) = InvS i) (hc : (c, e1) = ConS a b) (hu : (u, e2) = UniS a b) (hs : (s, e3) = StaS a) (hx1 : (x1, e4) = InvS c) (hy1 : (y1, e5) = ConS i j) (hx2 : (x2, e6) = InvS u) (hy2 : (y2, e7) = UniS i j) (hx3 : (x3, e8) = InvS s) (hy3 : (y3, e9) = StaS i)
    (hd : (d, e10) = DomS a) (hr : (r, e11) = RanS a) (hx4 : (x4, e12) = DomS i) (hy4 : (y4, e13) = DomS d) : (e = 0 ∧ f = 0 ∧ g = 0) ∧ k = TrimP a ∧ x1 = y1 ∧ x2 = y2 ∧ x3 = y3 ∧ x4 = r ∧ y4 = d := by
  obtain ⟨m, hm, hm5, hma, ra, la⟩ := valid_all ha
  obtain ⟨n, hn, hn5, hna, rb, lb⟩ := valid_all hb
  obtain ⟨qi, vi⟩ := inv_eq ha hm
  obtain ⟨qj, vj⟩ := inv_eq hb hn
  rw [qi] at hi
  rw [qj] at hj
  cases hi
  cases hj
  have ri := inv_rng ra
  have rj := inv_rng rb
  obtain ⟨si, ai⟩ := trim_small ri
  obtain ⟨sj, aj⟩ := trim_small rj
  have ai' : (TrimS (invT a) m).arcs.length ≤ 40 := Nat.le_trans ai (by simp only [invT, List.length_map]; exact hla)
  have aj' : (TrimS (invT b) n).arcs.length ≤ 40 := Nat.le_trans aj (by simp only [invT, List.length_map]; exact hlb)
  have ti : (TrimS (invT a) m).states = ((TrimS (invT a) m).states.toNat : Int) := trim_states
  have tj : (TrimS (invT b) n).states = ((TrimS (invT b) n).states.toNat : Int) := trim_states
  have zi : (TrimS (invT a) m).states.toNat ≤ 40 := by omega
  have zj : (TrimS (invT b) n).states.toNat ≤ 40 := by omega
  obtain ⟨qk, _⟩ := inv_eq vi ti
  rw [qk] at hk
  cases hk
  obtain ⟨qc, vc⟩ := con_eq ha hb hm hn (by omega) (by omega)
  rw [qc] at hc
  obtain ⟨qu, vu⟩ := uni_eq ha hb hm hn (by omega) (by omega)
  rw [qu] at hu
  obtain ⟨qs, vs⟩ := sta_eq ha hm (by omega) (by omega)
  rw [qs] at hs
  cases hc
  cases hu
  cases hs
  rw [(inv_eq vc trim_states).1] at hx1
  rw [(con_eq vi vj ti tj (by omega) (by omega)).1] at hy1
  rw [(inv_eq vu trim_states).1] at hx2
  rw [(uni_eq vi vj ti tj (by omega) (by omega)).1] at hy2
  rw [(inv_eq vs trim_states).1] at hx3
  rw [(sta_eq vi ti (by omega) (by omega)).1] at hy3
  obtain ⟨qd, vd⟩ := dom_eq ha hm
  rw [qd] at hd
  rw [(ran_eq ha hm).1] at hr
  cases hd
  rw [(dom_eq vi ti).1] at hx4
  rw [(dom_eq vd trim_states).1] at hy4
  have inner : ∀ {t : Tra} {q : Nat}, t.Rng q → TrimS (invT (TrimS t q)) (TrimS t q).states.toNat = TrimS (invT t) q := fun h => trim_relab (f := fun a b => (b, a)) h
  refine ⟨⟨rfl, rfl, rfl⟩, ?_, ?_, ?_, ?_, ?_, ?_⟩
  · rw [inner ri, inv_inv, TrimP, if_pos ha, hm]; rfl
  · rw [fst_of hx1, fst_of hy1, inner (con_rng ra rb hm hn), inv_con]
    exact (trim_con ri rj hm hn).symm
  · rw [fst_of hx2, fst_of hy2, inner (uni_rng ra rb hm hn), inv_uni]
    exact (trim_uni ri rj hm hn).symm
  · rw [fst_of hx3, fst_of hy3, inner (sta_rng ra hm), inv_sta]
    exact (trim_sta ri hm).symm
  · rw [fst_of hx4, fst_of hr]
    have h : TrimS (domT (TrimS (invT a) m)) (TrimS (invT a) m).states.toNat = TrimS (domT (invT a)) m := trim_relab ri
    rw [h]
    have : domT (invT a) = ranT a := relab_relab (fun x _ => (x, x)) (fun a b => (b, a)) a
    rw [this]
  · rw [fst_of hy4]
    have h : TrimS (domT (TrimS (domT a) m)) (TrimS (domT a) m).states.toNat = TrimS (domT (domT a)) m := trim_relab (relab_rng ra)
    rw [h]
    have : domT (domT a) = domT a := relab_relab (fun x _ => (x, x)) (fun x _ => (x, x)) a
    rw [this]
end
end Go.Proofs.YtoilmeiikgegcaaDoor.G
