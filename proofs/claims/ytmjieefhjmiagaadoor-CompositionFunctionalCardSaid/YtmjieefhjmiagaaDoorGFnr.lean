/- Functional's reference: grow and single. Plain Lean. -/
import Derived.Test.YtmjieefhjmiagaaDoorGFnc
import Derived.Test.YtmjieefhjmiagaaDoorGThr
set_option linter.all false
namespace Go.Proofs.YtmjieefhjmiagaaDoor.G
open Go Go.RowKit
def gE (l : List Int) (bk : Bool) (x : Arc) (i : Nat) : List (Nat × Nat) :=
  if fitB l (i : Int) x.inp = true then (if bk = true then [(x.dst.toNat * (l.length + 1) + (eatK i x.inp).toNat, x.src.toNat * (l.length + 1) + i)] else [(x.src.toNat * (l.length + 1) + i, x.dst.toNat * (l.length + 1) + (eatK i x.inp).toNat)]) else []
def gA (l : List Int) (bk : Bool) (x : Arc) : List (Nat × Nat) := if (!bk && !decide (x.out = 0)) = true then [] else (List.range (l.length + 1)).flatMap (gE l bk x)
def gD (t : Tra) (l : List Int) (bk : Bool) : List (Nat × Nat) := t.arcs.flatMap (gA l bk)
structure GrowOk (D : List (Nat × Nat)) (F G : List Bool) : Prop where
  len : G.length = F.length
  frm : ∀ k, on F k → on G k
  cl : ∀ e ∈ D, on G e.1 → on G e.2
  ind : ∀ P : Nat → Prop, (∀ k, on F k → P k) → (∀ e ∈ D, P e.1 → P e.2) → ∀ k, on G k → P k
def gR (D : List (Nat × Nat)) (F : List Bool) (k : Nat) : Prop := ∀ P : Nat → Prop, (∀ k, on F k → P k) → (∀ e ∈ D, P e.1 → P e.2) → P k
theorem gR_base {D : List (Nat × Nat)} {F : List Bool} {k : Nat} (h : on F k) : gR D F k := fun _ h1 _ => h1 k h
theorem gR_step {D : List (Nat × Nat)} {F : List Bool} {e : Nat × Nat} (he : e ∈ D) (h : gR D F e.1) : gR D F e.2 := fun P h1 h2 => h2 e he (h P h1 h2)
theorem grow_fin {D : List (Nat × Nat)} {F l0 l : List Bool} (h : PassN (gR D F) (on F) F.length l0 D l false) : GrowOk D F l :=
  ⟨h.len, h.frm, (h.cl rfl).2, fun P h1 h2 k hk => h.sub k hk P h1 h2⟩
theorem nI_inj {w s i s' i' : Nat} (hi : i < w) (hi' : i' < w) (e : s * w + i = s' * w + i') : s = s' ∧ i = i' := by
  have := plI_inj (w := w) (h := 1) (s := s) (s' := s') (i := i) (i' := i') (j := 0) (j' := 0) hi hi' (by omega) (by omega) (by omega)
  exact ⟨this.1, this.2.1⟩
theorem nI_lt {w N s i : Nat} (hs : s < N) (hi : i < w) : s * w + i < N * w := by
  have := plI_lt (w := w) (h := 1) (j := 0) hs hi (by omega)
  omega
theorem mem_gA {l : List Int} {bk : Bool} {x : Arc} {e : Nat × Nat} : e ∈ gA l bk x ↔ (bk = true ∨ x.out = 0) ∧ ∃ i, i ≤ l.length ∧ e ∈ gE l bk x i := by
  unfold gA
  cases bk <;> by_cases h : x.out = 0 <;> simp [h, List.mem_flatMap, List.mem_range, Nat.lt_succ_iff]
theorem on_rng {l : List Bool} {k : Nat} (h : on l k) : k < l.length := (List.getElem?_eq_some_iff.1 h).1
section
variable {t : Tra} {m : Nat} {l u v w xs ys : List Int}
/-- An arc that fits, as positions. -/
theorem fit_pos (ht : t.Ok m) {x : Arc} (hx : x ∈ t.arcs) {i : Nat} (hi : i ≤ l.length) (hf : fitB l (i : Int) x.inp = true) : ∃ s d k : Nat, x.src = (s : Int) ∧ x.dst = (d : Int) ∧ s < m ∧ d < m ∧ (eatK i x.inp).toNat = k ∧ k ≤ l.length ∧ i ≤ k ∧ l.take k = l.take i ++ lab x.inp ∧ l.drop i = lab x.inp ++ l.drop k := by
  obtain ⟨k, e1, e2, e3⟩ := fit_take hf hi
  have h := ht.arcs x hx
  have hik : i ≤ k := by unfold eatK at e1; split at e1 <;> omega
  refine ⟨x.src.toNat, x.dst.toNat, k, by omega, by omega, by omega, by omega, by rw [e1]; rfl, e2, hik, e3, ?_⟩
  have h1 : l.drop i = (l.take k).drop i ++ l.drop k := by
    have : l.drop i = (l.take k ++ l.drop k).drop i := by rw [List.take_append_drop]
    rw [this, List.drop_append_of_le_length (by rw [List.length_take]; omega)]
  rw [h1, e3, List.drop_left' (by rw [List.length_take]; omega)]
theorem gE_back {x : Arc} {i : Nat} {e : Nat × Nat} (h : e ∈ gE l true x i) : fitB l (i : Int) x.inp = true ∧ e = (x.dst.toNat * (l.length + 1) + (eatK i x.inp).toNat, x.src.toNat * (l.length + 1) + i) := by
  unfold gE at h
  split at h
  · rename_i hf; exact ⟨hf, by simpa using h⟩
  · simp at h
theorem gE_fore {x : Arc} {i : Nat} {e : Nat × Nat} (h : e ∈ gE l false x i) : fitB l (i : Int) x.inp = true ∧ e = (x.src.toNat * (l.length + 1) + i, x.dst.toNat * (l.length + 1) + (eatK i x.inp).toNat) := by
  unfold gE at h
  split at h
  · rename_i hf; exact ⟨hf, by simpa using h⟩
  · simp at h
theorem gD_back {x : Arc} (hx : x ∈ t.arcs) {i : Nat} (hi : i ≤ l.length) (hf : fitB l (i : Int) x.inp = true) : (x.dst.toNat * (l.length + 1) + (eatK i x.inp).toNat, x.src.toNat * (l.length + 1) + i) ∈ gD t l true :=
  List.mem_flatMap.2 ⟨x, hx, mem_gA.2 ⟨.inl rfl, i, hi, by rw [gE, if_pos hf]; simp⟩⟩
theorem gD_fore {x : Arc} (hx : x ∈ t.arcs) (h0 : x.out = 0) {i : Nat} (hi : i ≤ l.length) (hf : fitB l (i : Int) x.inp = true) : (x.src.toNat * (l.length + 1) + i, x.dst.toNat * (l.length + 1) + (eatK i x.inp).toNat) ∈ gD t l false :=
  List.mem_flatMap.2 ⟨x, hx, mem_gA.2 ⟨.inr h0, i, hi, by rw [gE, if_pos hf]; simp⟩⟩
/-- From a position the whole word can be read. -/
def LiveP (t : Tra) (l : List Int) (s : Int) (i : Nat) : Prop := ∃ f ∈ t.finals, ∃ v, Run t s (l.drop i) v f
def EndsOk (t : Tra) (l : List Int) (F : List Bool) : Prop := ∀ k, on F k ↔ ∃ f ∈ t.finals, k = f.toNat * (l.length + 1) + l.length
theorem live_iff (ht : t.Ok m) (hfin : ∀ p ∈ t.finals, 0 ≤ p ∧ p < (m : Int)) {F G : List Bool} (hF : EndsOk t l F) (hG : GrowOk (gD t l true) F G) {s i : Nat} (hs : s < m) (hi : i ≤ l.length) : on G (s * (l.length + 1) + i) ↔ LiveP t l s i := by
  constructor
  · intro h
    obtain ⟨s', i', e, _, h2, h3⟩ := hG.ind (fun k => ∃ s i : Nat, k = s * (l.length + 1) + i ∧ s < m ∧ i ≤ l.length ∧ LiveP t l s i) (fun k hk => by
      obtain ⟨f, hf, rfl⟩ := (hF k).1 hk
      have := hfin f hf
      exact ⟨f.toNat, l.length, rfl, by omega, Nat.le_refl _, f, hf, [], by rw [List.drop_length, Int.toNat_of_nonneg this.1]; exact .nil _⟩) (fun e he hp => by
      obtain ⟨x, hx, hxe⟩ := List.mem_flatMap.1 he
      obtain ⟨_, i, hi, hxe⟩ := mem_gA.1 hxe
      obtain ⟨hf, rfl⟩ := gE_back hxe
      obtain ⟨a, d, k, e1, e2, h1, h2, e3, h3, _, _, e4⟩ := fit_pos ht hx hi hf
      obtain ⟨s2, i2, e5, h5, h6, f, hff, v, hr⟩ := hp
      simp only [e3, e2, Int.toNat_natCast] at e5
      obtain ⟨rfl, rfl⟩ := nI_inj (by omega) (by omega) e5
      refine ⟨a, i, by simp only [e1, Int.toNat_natCast], h1, hi, f, hff, lab x.out ++ v, ?_⟩
      rw [e4]
      exact .cons' hx e1 (by rw [e2]; exact hr) rfl rfl) _ h
    obtain ⟨rfl, rfl⟩ := nI_inj (by omega) (by omega) e
    exact h3
  · rintro ⟨f, hf, v, hr⟩
    have key : ∀ {p q : Int} {xs ys : List Int}, Run t p xs ys q → ∀ {s i : Nat}, p = (s : Int) → s < m → i ≤ l.length → xs = l.drop i → q ∈ t.finals → on G (s * (l.length + 1) + i) := fun {p q xs ys} hr => by
      induction hr with
      | nil p =>
        intro s i hp hs hi hx hq
        have : i = l.length := by have := List.drop_eq_nil_iff.1 hx.symm; omega
        subst this
        exact hG.frm _ ((hF _).2 ⟨p, hq, by rw [hp]; simp⟩)
      | @cons x us vs q hx _ ih =>
        intro s i hp hs hi hd hq
        obtain ⟨hf, k, e1, e2⟩ := fit_drop (u := us) (u' := []) (by simpa using hd.symm)
        obtain ⟨a, d, k', g1, g2, g3, g4, g5, g6, _, _, g7⟩ := fit_pos ht hx hi hf
        have hk : k' = k := by rw [← g5, e1]; rfl
        subst hk
        have := ih g2 g4 g6 (by simpa using e2.symm) hq
        have h2 := hG.cl _ (gD_back hx hi hf) (by simp only [g2, g5, Int.toNat_natCast]; exact this)
        have e : a = s := by omega
        subst e
        simpa only [g1, Int.toNat_natCast] using h2
    exact key hr rfl hs hi rfl hf
/-- What the set of a step stands for: u has been written. -/
structure SetOk (t : Tra) (m : Nat) (l : List Int) (u : List Int) (G : List Bool) : Prop where
  sub : ∀ k, on G k → ∃ s i : Nat, k = s * (l.length + 1) + i ∧ s < m ∧ i ≤ l.length ∧ Run t t.start (l.take i) u s
  sup : ∀ s i : Nat, s < m → i ≤ l.length → Run t t.start (l.take i) u s → LiveP t l s i → on G (s * (l.length + 1) + i)
  pre : ∀ w, Rel t l w → ∃ v, w = u ++ v
theorem silent_run (ht : t.Ok m) {F G : List Bool} (hG : GrowOk (gD t l false) F G) {p q : Int} (hr : Run t p xs ys q) : ∀ {s i : Nat} {us : List Int}, p = (s : Int) → i ≤ l.length → l.drop i = xs ++ us → ys = [] → on G (s * (l.length + 1) + i) → ∃ s' i' : Nat, q = (s' : Int) ∧ i' ≤ l.length ∧ l.drop i' = us ∧ on G (s' * (l.length + 1) + i') := by
  induction hr with
  | nil p => intro s i us hp hi hd _ ho; exact ⟨s, i, hp, hi, by simpa using hd, ho⟩
  | @cons x us vs q hx _ ih =>
    intro s i us' hp hi hd hy ho
    obtain ⟨hf, k, e1, e2⟩ := fit_drop (u := us) (u' := us') hd
    obtain ⟨a, d, k', g1, g2, g3, g4, g5, g6, _, _, g7⟩ := fit_pos ht hx hi hf
    have hk : k' = k := by rw [← g5, e1]; rfl
    subst hk
    have h0 : x.out = 0 := by
      by_cases h0 : x.out = 0
      · exact h0
      · rw [lab_ne h0] at hy; simp at hy
    rw [h0] at hy
    have e : a = s := by omega
    subst e
    have h2 := hG.cl _ (gD_fore hx h0 hi hf) (by simp only [g1, Int.toNat_natCast]; exact ho)
    simp only [g2, g5, Int.toNat_natCast] at h2
    exact ih g2 g6 e2 (by simpa [lab] using hy) h2
theorem take_len_eq {i j : Nat} (hi : i ≤ l.length) (hj : j ≤ l.length) (h : l.drop i = l.drop j) : i = j := by
  have := congrArg List.length h
  simp only [List.length_drop] at this
  omega
theorem grow_sub (ht : t.Ok m) {F G : List Bool} (hG : GrowOk (gD t l false) F G) (hF : ∀ k, on F k → ∃ s i : Nat, k = s * (l.length + 1) + i ∧ s < m ∧ i ≤ l.length ∧ Run t t.start (l.take i) u s) : ∀ k, on G k → ∃ s i : Nat, k = s * (l.length + 1) + i ∧ s < m ∧ i ≤ l.length ∧ Run t t.start (l.take i) u s :=
  hG.ind _ hF fun e he ⟨s, i, e1, hs, hi, hr⟩ => by
    obtain ⟨x, hx, hxe⟩ := List.mem_flatMap.1 he
    obtain ⟨h0, i', hi', hxe⟩ := mem_gA.1 hxe
    obtain ⟨hf, rfl⟩ := gE_fore hxe
    obtain ⟨a, d, k', g1, g2, g3, g4, g5, g6, _, g7, _⟩ := fit_pos ht hx hi' hf
    simp only [g1, Int.toNat_natCast] at e1
    obtain ⟨rfl, rfl⟩ := nI_inj (by omega) (by omega) e1
    have h0 : x.out = 0 := by simpa using h0
    refine ⟨d, k', by simp only [g2, g5, Int.toNat_natCast], g4, g6, ?_⟩
    rw [g7]
    have := hr.snoc hx g1
    rw [h0, lab_zero, List.append_nil, g2] at this
    exact this
theorem set_init (ht : t.Ok m) {F G : List Bool} (hF : ∀ k, on F k ↔ k = t.start.toNat * (l.length + 1)) (hG : GrowOk (gD t l false) F G) : SetOk t m l [] G := by
  have h0 := ht.start
  refine ⟨grow_sub ht hG fun k hk => ⟨t.start.toNat, 0, by rw [(hF k).1 hk]; rfl, by omega, Nat.zero_le _, ?_⟩, fun s i hs hi hr _ => ?_, fun w _ => ⟨w, rfl⟩⟩
  · rw [Int.toNat_of_nonneg (by omega)]; exact .nil _
  · obtain ⟨s', i', e1, h1, h2, h3⟩ := silent_run ht hG hr (s := t.start.toNat) (i := 0) (us := l.drop i) (by omega) (Nat.zero_le _) (by rw [List.drop_zero, List.take_append_drop]) rfl (hG.frm _ ((hF _).2 (by omega)))
    have e : s' = s := by omega
    have e' := take_len_eq h1 hi h2
    subst e e'
    exact h3
theorem run_write {p q : Int} (h : Run t p xs ys q) : ∀ {u v : List Int} {r : Int}, r ≠ 0 → ys = u ++ r :: v → ∃ x1 x2 : List Int, ∃ y ∈ t.arcs, Run t p x1 u y.src ∧ y.out = r ∧ Run t y.dst x2 v q ∧ xs = x1 ++ (lab y.inp ++ x2) := by
  induction h with
  | nil => intro u v r _ h; simp at h
  | @cons y us vs q hy hr ih =>
    intro u v r hr0 he
    by_cases h0 : y.out = 0
    · rw [h0, lab_zero, List.nil_append] at he
      obtain ⟨x1, x2, y', hy', r1, r2, r3, rfl⟩ := ih hr0 he
      exact ⟨lab y.inp ++ x1, x2, y', hy', .cons' hy rfl r1 rfl (by rw [h0]; rfl), r2, r3, by simp⟩
    · rw [lab_ne h0] at he
      cases u with
      | nil =>
        simp only [List.nil_append, List.singleton_append, List.cons.injEq] at he
        exact ⟨[], us, y, hy, .nil _, he.1, by rw [← he.2]; exact hr, by simp⟩
      | cons z u =>
        simp only [List.cons_append, List.nil_append, List.cons.injEq] at he
        obtain ⟨x1, x2, y', hy', r1, r2, r3, rfl⟩ := ih hr0 he.2
        exact ⟨lab y.inp ++ x1, x2, y', hy', .cons' hy rfl r1 rfl (by rw [lab_ne h0, ← he.1]; rfl), r2, r3, by simp⟩
/-- What a step meets: an arc that writes, from the set to a live position. -/
def HitP (t : Tra) (l : List Int) (set live : List Bool) (x : Arc) (i : Nat) : Prop := x ∈ t.arcs ∧ i ≤ l.length ∧ x.out ≠ 0 ∧ fitB l (i : Int) x.inp = true ∧ on set (x.src.toNat * (l.length + 1) + i) ∧ on live (x.dst.toNat * (l.length + 1) + (eatK i x.inp).toNat)
section
variable {F set live : List Bool}
theorem hit_out (ht : t.Ok m) (hfin : ∀ p ∈ t.finals, 0 ≤ p ∧ p < (m : Int)) (hF : EndsOk t l F) (hL : GrowOk (gD t l true) F live) (hS : SetOk t m l u set) {x : Arc} {i : Nat} (h : HitP t l set live x i) : ∃ v, Rel t l (u ++ x.out :: v) := by
  obtain ⟨hx, hi, h0, hf, h1, h2⟩ := h
  obtain ⟨a, d, k, g1, g2, g3, g4, g5, g6, _, g7, g8⟩ := fit_pos ht hx hi hf
  rw [g2, g5, Int.toNat_natCast, live_iff ht hfin hF hL g4 g6] at h2
  obtain ⟨f, hff, v, hr⟩ := h2
  obtain ⟨s, i', e, hs, hi', hr1⟩ := hS.sub _ h1
  rw [g1, Int.toNat_natCast] at e
  obtain ⟨rfl, rfl⟩ := nI_inj (by omega) (by omega) e
  refine ⟨v, f, hff, ?_⟩
  have h3 := (hr1.snoc hx g1).trans (by rw [g2]; exact hr)
  rw [← g7, List.take_append_drop, lab_ne h0] at h3
  simpa using h3
theorem out_hit (ht : t.Ok m) (hfin : ∀ p ∈ t.finals, 0 ≤ p ∧ p < (m : Int)) (hF : EndsOk t l F) (hL : GrowOk (gD t l true) F live) (hS : SetOk t m l u set) {r : Int} (hr0 : r ≠ 0) {s i : Nat} (hs : s < m) (hi : i ≤ l.length) (hr : Run t t.start (l.take i) (u ++ r :: v) s) (hl : LiveP t l s i) : ∃ x j, HitP t l set live x j ∧ x.out = r ∧ ∃ x2, Run t x.dst x2 v s ∧ l.drop (eatK j x.inp).toNat = x2 ++ l.drop i := by
  obtain ⟨x1, x2, y, hy, r1, r2, r3, e⟩ := run_write hr hr0 rfl
  have hya := ht.arcs y hy
  have hl1 : l = x1 ++ (lab y.inp ++ (x2 ++ l.drop i)) := by
    have : l = l.take i ++ l.drop i := (List.take_append_drop i l).symm
    rw [e] at this
    simpa using this
  have hx1 : x1.length ≤ l.length := by rw [hl1]; simp
  have ht1 : l.take x1.length = x1 := by
    have : (x1 ++ (lab y.inp ++ (x2 ++ l.drop i))).take x1.length = x1 := List.take_left' rfl
    rw [← hl1] at this; exact this
  have hd1 : l.drop x1.length = (lab y.inp ++ x2) ++ l.drop i := by
    have : (x1 ++ (lab y.inp ++ (x2 ++ l.drop i))).drop x1.length = lab y.inp ++ (x2 ++ l.drop i) := List.drop_left' rfl
    rw [← hl1] at this; simpa using this
  obtain ⟨hf, k, e1, e2⟩ := fit_drop hd1
  obtain ⟨a, d, k', g1, g2, g3, g4, g5, g6, _, g7, g8⟩ := fit_pos ht hy hx1 hf
  have hk : k' = k := by rw [← g5, e1]; rfl
  subst hk
  obtain ⟨f, hff, z, hz⟩ := hl
  have hld : LiveP t l (d : Int) k' := ⟨f, hff, v ++ z, by rw [e2, ← g2]; exact r3.trans hz⟩
  have hls : LiveP t l (a : Int) x1.length := by
    obtain ⟨f, hff, z, hz⟩ := hld
    exact ⟨f, hff, lab y.out ++ z, by rw [g8]; exact .cons' hy g1 (by rw [g2]; exact hz) rfl rfl⟩
  refine ⟨y, x1.length, ⟨hy, hx1, by rw [r2]; exact hr0, hf, ?_, ?_⟩, r2, x2, r3, by rw [g5]; exact e2⟩
  · rw [g1, Int.toNat_natCast]
    exact hS.sup a _ g3 hx1 (by rw [ht1, ← g1]; exact r1) hls
  · rw [g2, g5, Int.toNat_natCast, live_iff ht hfin hF hL g4 g6]
    exact hld
theorem done_iff (ht : t.Ok m) (hfin : ∀ p ∈ t.finals, 0 ≤ p ∧ p < (m : Int)) (hS : SetOk t m l u set) : (∃ f ∈ t.finals, on set (f.toNat * (l.length + 1) + l.length)) ↔ Rel t l u := by
  constructor
  · rintro ⟨f, hf, h⟩
    obtain ⟨s, i, e, hs, hi, hr⟩ := hS.sub _ h
    obtain ⟨e1, rfl⟩ := nI_inj (by omega) (by omega) e
    have := hfin f hf
    rw [List.take_length, ← e1, Int.toNat_of_nonneg this.1] at hr
    exact ⟨f, hf, hr⟩
  · rintro ⟨f, hf, hr⟩
    have := hfin f hf
    have e : ((f.toNat : Nat) : Int) = f := Int.toNat_of_nonneg this.1
    exact ⟨f, hf, hS.sup _ _ (by omega) (Nat.le_refl _) (by rw [List.take_length, e]; exact hr) ⟨f, hf, [], by rw [List.drop_length, e]; exact .nil _⟩⟩
theorem rel_live {w : List Int} (hfin : ∀ p ∈ t.finals, 0 ≤ p ∧ p < (m : Int)) {f : Int} (hf : f ∈ t.finals) : ∃ s : Nat, s < m ∧ f = (s : Int) ∧ LiveP t l s l.length := by
  have := hfin f hf
  have e : ((f.toNat : Nat) : Int) = f := Int.toNat_of_nonneg this.1
  exact ⟨f.toNat, by omega, e.symm, f, hf, [], by rw [List.drop_length, e]; exact .nil _⟩
/-- No arc writes on: one output at most. -/
theorem ref_stop (ht : t.Ok m) (hfin : ∀ p ∈ t.finals, 0 ≤ p ∧ p < (m : Int)) (hz : ∀ x ∈ t.arcs, True) (hF : EndsOk t l F) (hL : GrowOk (gD t l true) F live) (hS : SetOk t m l u set) (hn : ∀ x i, ¬ HitP t l set live x i) (hne : ∀ w, Rel t l w → (0 : Int) ∉ w) : Single t l := by
  have key : ∀ w, Rel t l w → w = u := fun w hw => by
    obtain ⟨v, rfl⟩ := hS.pre w hw
    cases v with
    | nil => simp
    | cons r v =>
      have hr0 : r ≠ 0 := fun e => hne _ hw (by rw [e]; simp)
      obtain ⟨f, hf, hr⟩ := hw
      obtain ⟨s, hs, rfl, hl⟩ := rel_live (l := l) (w := []) hfin hf
      obtain ⟨x, j, h, _⟩ := out_hit ht hfin hF hL hS hr0 hs (Nat.le_refl _) (by rw [List.take_length]; exact hr) hl
      exact absurd h (hn x j)
  intro w w' h h'
  rw [key w h, key w' h']
/-- Two outputs. -/
theorem ref_done (ht : t.Ok m) (hfin : ∀ p ∈ t.finals, 0 ≤ p ∧ p < (m : Int)) (hF : EndsOk t l F) (hL : GrowOk (gD t l true) F live) (hS : SetOk t m l u set) {x : Arc} {i : Nat} (h : HitP t l set live x i) (hd : ∃ f ∈ t.finals, on set (f.toNat * (l.length + 1) + l.length)) : ¬ Single t l := fun hs => by
  obtain ⟨v, hv⟩ := hit_out ht hfin hF hL hS h
  have := hs _ _ ((done_iff ht hfin hS).1 hd) hv
  have := congrArg List.length this
  simp at this
theorem ref_two (ht : t.Ok m) (hfin : ∀ p ∈ t.finals, 0 ≤ p ∧ p < (m : Int)) (hF : EndsOk t l F) (hL : GrowOk (gD t l true) F live) (hS : SetOk t m l u set) {x y : Arc} {i j : Nat} (h : HitP t l set live x i) (k : HitP t l set live y j) (hne : x.out ≠ y.out) : ¬ Single t l := fun hs => by
  obtain ⟨v, hv⟩ := hit_out ht hfin hF hL hS h
  obtain ⟨z, hz⟩ := hit_out ht hfin hF hL hS k
  have := List.append_cancel_left (hs _ _ hv hz)
  exact hne (List.cons.inj this).1
/-- One rune is written next. -/
theorem ref_next (ht : t.Ok m) (hfin : ∀ p ∈ t.finals, 0 ≤ p ∧ p < (m : Int)) (hF : EndsOk t l F) (hL : GrowOk (gD t l true) F live) (hS : SetOk t m l u set) {r : Int} (hr0 : r ≠ 0) {A G : List Bool} (hA : ∀ k, on A k ↔ ∃ x i, HitP t l set live x i ∧ k = x.dst.toNat * (l.length + 1) + (eatK i x.inp).toNat) (hr : ∀ x i, HitP t l set live x i → x.out = r) (hd : ¬ ∃ f ∈ t.finals, on set (f.toNat * (l.length + 1) + l.length)) (hG : GrowOk (gD t l false) A G) (hne : ∀ w, Rel t l w → (0 : Int) ∉ w) : SetOk t m l (u ++ [r]) G := by
  refine ⟨grow_sub ht hG fun k hk => ?_, fun s i hs hi hrun hl => ?_, fun w hw => ?_⟩
  · obtain ⟨x, i, h, rfl⟩ := (hA k).1 hk
    have hxr := hr x i h
    obtain ⟨hx, hi, h0, hf, h1, h2⟩ := h
    obtain ⟨a, d, k, g1, g2, g3, g4, g5, g6, _, g7, g8⟩ := fit_pos ht hx hi hf
    obtain ⟨s, i', e, hs, hi', hr1⟩ := hS.sub _ h1
    rw [g1, Int.toNat_natCast] at e
    obtain ⟨rfl, rfl⟩ := nI_inj (by omega) (by omega) e
    refine ⟨d, k, by rw [g2, g5]; rfl, g4, g6, ?_⟩
    have := hr1.snoc hx g1
    rw [← g7, lab_ne h0, hxr, g2] at this
    exact this
  · obtain ⟨x, j, h, _, x2, r2, e2⟩ := out_hit ht hfin hF hL hS hr0 hs hi (v := []) hrun hl
    have hx := h.1
    obtain ⟨a, d, k, g1, g2, g3, g4, g5, g6, _, g7, g8⟩ := fit_pos ht hx h.2.1 h.2.2.2.1
    have h3 := hG.frm _ ((hA _).2 ⟨x, j, h, rfl⟩)
    rw [g2, g5, Int.toNat_natCast] at h3
    rw [g5] at e2
    obtain ⟨s', i', e3, h4, h5, h6⟩ := silent_run ht hG r2 g2 g6 e2 rfl h3
    have e : s' = s := by omega
    have e' := take_len_eq h4 hi h5
    subst e e'
    exact h6
  · obtain ⟨v, rfl⟩ := hS.pre w hw
    cases v with
    | nil => exact absurd ((done_iff ht hfin hS).2 (by simpa using hw)) hd
    | cons r' v =>
      have hr0' : r' ≠ 0 := fun e => hne _ hw (by rw [e]; simp)
      obtain ⟨f, hf, hrun⟩ := hw
      obtain ⟨s, hs, rfl, hl⟩ := rel_live (l := l) (w := []) hfin hf
      obtain ⟨x, j, h, e, _⟩ := out_hit ht hfin hF hL hS hr0' hs (Nat.le_refl _) (by rw [List.take_length]; exact hrun) hl
      have : r' = r := by rw [← e]; exact hr x j h
      exact ⟨v, by rw [this]; simp⟩
end
theorem run_nz {p q : Int} (h : Run t p xs ys q) : (0 : Int) ∉ ys := by
  induction h with
  | nil => simp
  | @cons x us vs q hx _ ih =>
    intro hm
    rcases List.mem_append.1 hm with hm | hm
    · unfold lab at hm; split at hm
      · simp at hm
      · rename_i h0; exact h0 (List.mem_singleton.1 hm).symm
    · exact ih hm
theorem rel_nz (h : Rel t l w) : (0 : Int) ∉ w := by obtain ⟨f, _, hr⟩ := h; exact run_nz hr
/-! ### a short output -/
def VP (t : Tra) (l : List Int) (k : Nat) (s i : Nat) : Prop := ∃ f ∈ t.finals, ∃ v, Run t s (l.drop i) v f ∧ v.length ≤ k
theorem vp_all (ht : t.Ok m) (hfin : ∀ p ∈ t.finals, 0 ≤ p ∧ p < (m : Int)) {k : Nat} (h : ∀ s i : Nat, s < m → i ≤ l.length → VP t l (k + 1) s i → VP t l k s i) {p q : Int} (hr : Run t p xs ys q) : ∀ {s i : Nat}, p = (s : Int) → s < m → i ≤ l.length → xs = l.drop i → q ∈ t.finals → VP t l k s i := by
  induction hr with
  | nil p =>
    intro s i hp hs hi hx hq
    exact ⟨p, hq, [], by rw [← hx, hp]; exact .nil _, by simp⟩
  | @cons x us vs q hx _ ih =>
    intro s i hp hs hi hd hq
    obtain ⟨hf, k', e1, e2⟩ := fit_drop (u := us) (u' := []) (by simpa using hd.symm)
    obtain ⟨a, d, k2, g1, g2, g3, g4, g5, g6, _, _, g7⟩ := fit_pos ht hx hi hf
    have hk : k2 = k' := by rw [← g5, e1]; rfl
    subst hk
    obtain ⟨f, hf1, v, hv, hl⟩ := ih g2 g4 g6 (by simpa using e2.symm) hq
    have e : a = s := by omega
    subst e
    refine h a i hs hi ⟨f, hf1, lab x.out ++ v, by rw [g7]; exact .cons' hx g1 (by rw [g2]; exact hv) rfl rfl, ?_⟩
    have : (lab x.out).length ≤ 1 := by unfold lab; split <;> simp
    rw [List.length_append]; omega
theorem vp_grow (ht : t.Ok m) (hfin : ∀ p ∈ t.finals, 0 ≤ p ∧ p < (m : Int)) (hne : ∃ f, f ∈ t.finals) : ∀ k, (∀ s i : Nat, s < m → i ≤ l.length → LiveP t l s i → VP t l k s i) ∨ ∃ L : List Pos, L.Nodup ∧ L.length = k + 1 ∧ ∀ p ∈ L, p ∈ rectP m l.length ∧ ∃ s i : Nat, p = ⟨(s : Int), (i : Int)⟩ ∧ VP t l k s i
  | 0 => by
    obtain ⟨f, hf⟩ := hne
    have := hfin f hf
    have e : ((f.toNat : Nat) : Int) = f := Int.toNat_of_nonneg this.1
    exact .inr ⟨[⟨((f.toNat : Nat) : Int), (l.length : Int)⟩], by simp, rfl, fun p hp => by
      rw [List.mem_singleton.1 hp]
      exact ⟨mem_rectP.2 ⟨f.toNat, l.length, rfl, by omega, Nat.le_refl _⟩, f.toNat, l.length, rfl, f, hf, [], by rw [List.drop_length, e]; exact .nil _, by simp⟩⟩
  | k + 1 => by
    rcases vp_grow ht hfin hne k with h | ⟨L, h1, h2, h3⟩
    · exact .inl fun s i hs hi hl => by
        obtain ⟨f, hf, v, hv, hk⟩ := h s i hs hi hl
        exact ⟨f, hf, v, hv, by omega⟩
    · have up : ∀ {s i : Nat}, VP t l k s i → VP t l (k + 1) s i := fun ⟨f, hf, v, hv, hk⟩ => ⟨f, hf, v, hv, by omega⟩
      by_cases hc : ∀ s i : Nat, s < m → i ≤ l.length → VP t l (k + 1) s i → VP t l k s i
      · exact .inl fun s i hs hi ⟨f, hf, v, hv⟩ => up (vp_all ht hfin hc hv rfl hs hi rfl hf)
      · simp only [Classical.not_forall] at hc
        obtain ⟨s, i, hs, hi, h4, h5⟩ := hc
        refine .inr ⟨⟨(s : Int), (i : Int)⟩ :: L, List.nodup_cons.2 ⟨fun hm => ?_, h1⟩, by simp [h2], fun p hp => ?_⟩
        · obtain ⟨_, s', i', e, h6⟩ := h3 _ hm
          simp only [Pos.mk.injEq] at e
          have e1 : s' = s := by omega
          have e2 : i' = i := by omega
          subst e1 e2
          exact h5 h6
        · rcases List.mem_cons.1 hp with rfl | hp
          · exact ⟨mem_rectP.2 ⟨s, i, rfl, hs, hi⟩, s, i, rfl, h4⟩
          · obtain ⟨h6, s', i', e, h7⟩ := h3 p hp
            exact ⟨h6, s', i', e, up h7⟩
theorem short_out (ht : t.Ok m) (hfin : ∀ p ∈ t.finals, 0 ≤ p ∧ p < (m : Int)) (h : Rel t l w) : ∃ v, Rel t l v ∧ v.length ≤ m * (l.length + 1) := by
  obtain ⟨f, hf, hr⟩ := h
  have h0 := ht.start
  have e : ((t.start.toNat : Nat) : Int) = t.start := Int.toNat_of_nonneg (by omega)
  rcases vp_grow (l := l) ht hfin ⟨f, hf⟩ (m * (l.length + 1)) with h | ⟨L, h1, h2, h3⟩
  · obtain ⟨g, hg, v, hv, hk⟩ := h t.start.toNat 0 (by omega) (Nat.zero_le _) ⟨f, hf, w, by rw [e, List.drop_zero]; exact hr⟩
    rw [e, List.drop_zero] at hv
    exact ⟨v, ⟨g, hg, hv⟩, hk⟩
  · have := h1.length_le_of_subset (fun p hp => (h3 p hp).1)
    rw [rectP_len] at this
    omega
/-- The steps are used up: there is no output at all. -/
theorem ref_long (ht : t.Ok m) (hfin : ∀ p ∈ t.finals, 0 ≤ p ∧ p < (m : Int)) {G : List Bool} (hS : SetOk t m l u G) (hu : m * (l.length + 1) < u.length) : Single t l := fun w _ hw _ => by
  obtain ⟨v, hv, hk⟩ := short_out ht hfin hw
  obtain ⟨z, rfl⟩ := hS.pre v hv
  rw [List.length_append] at hk
  omega
end
/-! ### the pass over the arcs -/
theorem on_getD {l : List Bool} {k : Nat} : on l k ↔ l.getD k false = true := by
  unfold on
  rw [List.getD_eq_getElem?_getD]
  cases l[k]? <;> simp
structure NxtOk (H : Arc → Nat → Prop) (w : Nat) (D : List (Arc × Nat)) (d : Bool) (nx : Int) (A : List Bool) : Prop where
  non : nx = 0 → ∀ e ∈ D, ¬ H e.1 e.2
  som : nx ≠ 0 → (∃ e ∈ D, H e.1 e.2) ∧ ∀ e ∈ D, H e.1 e.2 → e.1.out = nx
  don : d = true → ∀ e ∈ D, ¬ H e.1 e.2
  aft : ∀ k, on A k ↔ ∃ e ∈ D, H e.1 e.2 ∧ k = e.1.dst.toNat * w + (eatK e.2 e.1.inp).toNat
section
variable {H : Arc → Nat → Prop} {w : Nat} {D : List (Arc × Nat)} {d : Bool} {nx : Int} {A : List Bool}
theorem NxtOk.init (n : Nat) : NxtOk H w [] d 0 (List.replicate n false) := ⟨fun _ _ h => absurd h List.not_mem_nil, fun h => absurd rfl h, fun _ _ h => absurd h List.not_mem_nil, fun k => ⟨fun h => absurd h on_rep, fun ⟨e, h, _⟩ => absurd h List.not_mem_nil⟩⟩
theorem NxtOk.skip (h : NxtOk H w D d nx A) (X : List (Arc × Nat)) (hn : ∀ e ∈ X, ¬ H e.1 e.2) : NxtOk H w (D ++ X) d nx A := by
  have key : ∀ {Q : Arc × Nat → Prop}, (∃ e ∈ D ++ X, H e.1 e.2 ∧ Q e) ↔ ∃ e ∈ D, H e.1 e.2 ∧ Q e := fun {Q} => by
    constructor
    · rintro ⟨e, he, h1, h2⟩
      rcases List.mem_append.1 he with he | he
      · exact ⟨e, he, h1, h2⟩
      · exact absurd h1 (hn e he)
    · rintro ⟨e, he, h1⟩; exact ⟨e, List.mem_append.2 (.inl he), h1⟩
  refine ⟨fun h0 e he h1 => ?_, fun h0 => ⟨?_, fun e he h1 => ?_⟩, fun h0 e he h1 => ?_, fun k => ?_⟩
  · rcases List.mem_append.1 he with he | he
    · exact h.non h0 e he h1
    · exact hn e he h1
  · obtain ⟨e, he, h1⟩ := (h.som h0).1
    exact ⟨e, List.mem_append.2 (.inl he), h1⟩
  · rcases List.mem_append.1 he with he | he
    · exact (h.som h0).2 e he h1
    · exact absurd h1 (hn e he)
  · rcases List.mem_append.1 he with he | he
    · exact h.don h0 e he h1
    · exact hn e he h1
  · rw [h.aft k, key]
theorem NxtOk.hit (h : NxtOk H w D d nx A) {x : Arc} {i : Nat} (hx : H x i) (hd : d = false) (hn : nx = 0 ∨ nx = x.out) (h0 : x.out ≠ 0) {j : Nat} (hj : j = x.dst.toNat * w + (eatK i x.inp).toNat) (hl : j < A.length) : NxtOk H w (D ++ [(x, i)]) d x.out (A.set j true) := by
  refine ⟨fun e => absurd e h0, fun _ => ⟨⟨(x, i), by simp, hx⟩, fun e he h1 => ?_⟩, fun e => absurd (hd.symm.trans e) (by decide), fun k => ?_⟩
  · rcases List.mem_append.1 he with he | he
    · by_cases hz : nx = 0
      · exact absurd h1 (h.non hz e he)
      · rw [(h.som hz).2 e he h1]; exact hn.resolve_left hz
    · rw [List.mem_singleton.1 he]
  · rw [on_set hl, h.aft k]
    constructor
    · rintro (rfl | ⟨e, he, h1⟩)
      · exact ⟨(x, i), by simp, hx, hj⟩
      · exact ⟨e, List.mem_append.2 (.inl he), h1⟩
    · rintro ⟨e, he, h1, h2⟩
      rcases List.mem_append.1 he with he | he
      · exact .inr ⟨e, he, h1, h2⟩
      · rw [List.mem_singleton.1 he] at h2; exact .inl (h2.trans hj.symm)
end
def pairsI (n : Nat) (x : Arc) : List (Arc × Nat) := (List.range n).map fun i => (x, i)
theorem pairsI_snoc (n : Nat) (x : Arc) : pairsI (n + 1) x = pairsI n x ++ [(x, n)] := by simp [pairsI, List.range_succ]
theorem mem_pairsI {n : Nat} {x : Arc} {e : Arc × Nat} : e ∈ pairsI n x ↔ e.1 = x ∧ e.2 < n := by
  simp only [pairsI, List.mem_map, List.mem_range]
  constructor
  · rintro ⟨i, hi, rfl⟩; exact ⟨rfl, hi⟩
  · rintro ⟨rfl, h⟩; exact ⟨e.2, h, rfl⟩
def AllP (t : Tra) (n : Nat) : List (Arc × Nat) := t.arcs.flatMap (pairsI n)
section
variable {t : Tra} {l u : List Int} {set live : List Bool}
theorem hit_mem {x : Arc} {i : Nat} (h : HitP t l set live x i) : (x, i) ∈ AllP t (l.length + 1) :=
  List.mem_flatMap.2 ⟨x, h.1, mem_pairsI.2 ⟨rfl, by have := h.2.1; simp only []; omega⟩⟩
theorem hit_eps {x : Arc} (h0 : x.out = 0) (n : Nat) : ∀ e ∈ pairsI n x, ¬ HitP t l set live e.1 e.2 := fun e he h => by
  rw [(mem_pairsI.1 he).1] at h; exact h.2.2.1 h0
/-- The rest of an arc's pairs, when it writes nothing. -/
theorem nxt_rest {D : List (Arc × Nat)} {d : Bool} {nx : Int} {A : List Bool} {x : Arc} {k n w : Nat} (h : NxtOk (HitP t l set live) w (D ++ pairsI k x) d nx A) (hk : k = n ∨ (x.out = 0 ∧ k ≤ n)) : NxtOk (HitP t l set live) w (D ++ pairsI n x) d nx A := by
  rcases hk with rfl | ⟨h0, hk⟩
  · exact h
  · have e : ∀ P : Arc × Nat → Prop, (∀ e ∈ pairsI k x, ¬ P e) → True := fun _ _ => trivial
    have h1 : ∀ e ∈ pairsI k x, ¬ HitP t l set live e.1 e.2 := hit_eps h0 k
    have h2 := hit_eps (t := t) (l := l) (set := set) (live := live) h0 n
    have key : ∀ {X : List (Arc × Nat)}, (∀ e ∈ X, ¬ HitP t l set live e.1 e.2) → ∀ {Q : Arc × Nat → Prop}, (∃ e ∈ D ++ X, HitP t l set live e.1 e.2 ∧ Q e) ↔ ∃ e ∈ D, HitP t l set live e.1 e.2 ∧ Q e := fun {X} hX {Q} => by
      constructor
      · rintro ⟨e, he, h1, h2⟩
        rcases List.mem_append.1 he with he | he
        · exact ⟨e, he, h1, h2⟩
        · exact absurd h1 (hX e he)
      · rintro ⟨e, he, h1⟩; exact ⟨e, List.mem_append.2 (.inl he), h1⟩
    have base : NxtOk (HitP t l set live) w D d nx A := by
      refine ⟨fun h0 e he => h.non h0 e (List.mem_append.2 (.inl he)), fun h0 => ⟨?_, fun e he => (h.som h0).2 e (List.mem_append.2 (.inl he))⟩, fun h0 e he => h.don h0 e (List.mem_append.2 (.inl he)), fun k => ?_⟩
      · obtain ⟨e, he, h3⟩ := (h.som h0).1
        rcases List.mem_append.1 he with he | he
        · exact ⟨e, he, h3⟩
        · exact absurd h3 (h1 e he)
      · rw [h.aft k, key h1]
    exact base.skip _ h2
/-- What the pass came to. -/
theorem nxt_zero {d : Bool} {A : List Bool} (h : NxtOk (HitP t l set live) (l.length + 1) (AllP t (l.length + 1)) d 0 A) : ∀ x i, ¬ HitP t l set live x i := fun x i hx => h.non rfl _ (hit_mem hx) hx
theorem nxt_one {d : Bool} {nx : Int} {A : List Bool} (h : NxtOk (HitP t l set live) (l.length + 1) (AllP t (l.length + 1)) d nx A) (h0 : nx ≠ 0) : (∀ k, on A k ↔ ∃ x i, HitP t l set live x i ∧ k = x.dst.toNat * (l.length + 1) + (eatK i x.inp).toNat) ∧ (∀ x i, HitP t l set live x i → x.out = nx) ∧ ¬ d = true := by
  refine ⟨fun k => ?_, fun x i hx => (h.som h0).2 _ (hit_mem hx) hx, fun hd => ?_⟩
  · rw [h.aft k]
    constructor
    · rintro ⟨e, _, h1, h2⟩; exact ⟨e.1, e.2, h1, h2⟩
    · rintro ⟨x, i, h1, h2⟩; exact ⟨(x, i), hit_mem h1, h1, h2⟩
  · obtain ⟨e, he, h1⟩ := (h.som h0).1
    exact h.don hd e he h1
theorem any_done {fs : List Int} {G : List Bool} : (fs.any fun f => G.getD (f.toNat * (l.length + 1) + l.length) false) = true ↔ ∃ f ∈ fs, on G (f.toNat * (l.length + 1) + l.length) := by
  rw [List.any_eq_true]
  exact exists_congr fun f => and_congr_right fun _ => on_getD.symm
theorem ends_snoc {fs : List Int} {A : List Bool} {n w i : Nat} {x : Int} (hE : ∀ k, on A k ↔ ∃ f ∈ fs.take n, k = f.toNat * w + i) (hx : fs[n]? = some x) (hl : x.toNat * w + i < A.length) : ∀ k, on (A.set (x.toNat * w + i) true) k ↔ ∃ f ∈ fs.take (n + 1), k = f.toNat * w + i := fun k => by
  rw [on_set hl, hE k, take_snoc hx]
  constructor
  · rintro (rfl | ⟨f, hf, h⟩)
    · exact ⟨x, by simp, rfl⟩
    · exact ⟨f, List.mem_append.2 (.inl hf), h⟩
  · rintro ⟨f, hf, h⟩
    rcases List.mem_append.1 hf with hf | hf
    · exact .inr ⟨f, hf, h⟩
    · rw [List.mem_singleton.1 hf] at h; exact .inl h
end
theorem fit_no2 {l : List Int} {i : Nat} {r k : Int} (h0 : ¬ r = 0) {W : Nat} (h : (decide ((W : Int) ≤ k) || (!decide (r = 0) && !decide (l.getD i 0 = r))) = true) (hk : k = (i : Int) + 1) (hW : W = l.length + 1) : fitB l (i : Int) r = false := by
  subst hk hW
  refine fit_no h0 ?_
  simp only [h0, decide_false, Bool.not_false, Bool.true_and] at h
  rw [← h]
  congr 1
  exact decide_eq_decide.2 (by omega)
theorem fit_yes2 {l : List Int} {i : Nat} {r k : Int} (h0 : ¬ r = 0) {W : Nat} (h : (decide ((W : Int) ≤ k) || (!decide (r = 0) && !decide (l.getD i 0 = r))) = false) (hk : k = (i : Int) + 1) (hW : W = l.length + 1) : fitB l (i : Int) r = true ∧ (eatK i r).toNat = i + 1 ∧ i < l.length := by
  subst hk hW
  obtain ⟨h1, h2, h3⟩ := fit_yes (l := l) (i := i) (r := r) h0 (by
    simp only [h0, decide_false, Bool.not_false, Bool.true_and] at h
    rw [← h]
    congr 1
    exact decide_eq_decide.2 (by omega))
  exact ⟨h1, by rw [h2]; rfl, h3⟩
theorem fit_eps2 {l : List Int} {i : Nat} {r : Int} (h0 : r = 0) : fitB l (i : Int) r = true ∧ (eatK i r).toNat = i := by
  obtain ⟨h1, h2⟩ := fit_eps (l := l) (i := i) h0
  exact ⟨h1, by rw [h2]; rfl⟩
theorem skip_on {l : List Bool} {x y : Nat} (h : (l.getD x false && !(l.getD y false)) = false) (hx : on l x) : on l y := by
  rw [on_getD] at hx ⊢
  rw [hx] at h
  simpa using h
/-! ### the reference's Functional -/
theorem all_okR (ws : List ByteArray) : ws.all okR = ws.all okS := by congr 1; funext s; exact okR_S s
theorem fnc_bad {t : Tra} {ws : List ByteArray} {k : Nat} {s : ByteArray} (hs : ws[k]? = some s) (h : okR s = false) : FncS t ws = (false, 1) := by
  unfold FncS
  split
  · have : chkS ws = 1 := by rw [chkS, if_neg (by rw [← all_okR, all_false_at hs h]; decide)]
    rw [this]; rfl
  · rfl
theorem long_any {ws : List ByteArray} (h : ws.all okR = true) : (ws.any fun s => decide (40 < ((runesR s).length : Int))) = !(ws.all fun s => !longS s) := by
  have : ∀ s ∈ ws, decide (40 < ((runesR s).length : Int)) = longS s := fun s hs => by
    rw [runesR, if_pos (List.all_eq_true.1 h s hs)]; rfl
  rw [List.not_all_eq_any_not]
  induction ws with
  | nil => rfl
  | cons w ws ih =>
    rw [List.all_cons, Bool.and_eq_true] at h
    rw [List.any_cons, List.any_cons, this w (by simp), ih h.2 (fun s hs => this s (List.mem_cons_of_mem _ hs)), Bool.not_not]
theorem fnc_long {t : Tra} {ws : List ByteArray} (hv : validT t = true) (h : ws.all okR = true) (hl : (ws.any fun s => decide (40 < ((runesR s).length : Int))) = true) : FncS t ws = (false, 2) := by
  rw [long_any h] at hl
  have : chkS ws = 2 := by rw [chkS, if_pos (by rw [← all_okR]; exact h), if_neg (by simpa using hl)]
  rw [FncS, if_pos hv, this]; rfl
theorem fnc_go {t : Tra} {ws : List ByteArray} (hv : validT t = true) (h : ws.all okR = true) (hl : (ws.any fun s => decide (40 < ((runesR s).length : Int))) = false) : FncS t ws = (ws.all fun w => sglB t (runesL w), 0) ∧ ∀ w ∈ ws, (runesL w).length ≤ 40 := by
  rw [long_any h] at hl
  have h1 : (ws.all fun s => !longS s) = true := by simpa using hl
  have : chkS ws = 0 := by rw [chkS, if_pos (by rw [← all_okR]; exact h), if_pos h1]
  refine ⟨by rw [FncS, if_pos hv, this]; rfl, fun w hw => ?_⟩
  have := List.all_eq_true.1 h1 w hw
  simp only [longS, Bool.not_eq_true', decide_eq_false_iff_not] at this
  omega
end Go.Proofs.YtmjieefhjmiagaaDoor.G
