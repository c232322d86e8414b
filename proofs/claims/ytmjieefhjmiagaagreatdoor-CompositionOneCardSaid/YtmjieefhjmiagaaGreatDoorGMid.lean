/- A search by levels: the words of a net, in shortlex order. Plain Lean. -/
/- Distances: the search from the ends in layers; silent closures by a queue. Plain Lean. -/
/- The search for outputs, level by level: what stands between two rounds. Plain Lean. -/
/- Middle: the net of configurations, and what its search stands for. Plain Lean. -/
import Derived.Test.YtmjieefhjmiagaaGreatDoorGRls
import Derived.Test.YtmjieefhjmiagaaGreatDoorGThr
set_option linter.all false
namespace Go.Proofs.YtmjieefhjmiagaaGreatDoor.G
open Go Go.RowKit
/-! ### orders -/
def lexL : List Int → List Int → Prop
  | [], [] => False
  | [], _ :: _ => True
  | _ :: _, [] => False
  | a :: u, b :: v => a < b ∨ (a = b ∧ lexL u v)
theorem lexL_irrefl : ∀ {u : List Int}, ¬ lexL u u
  | [] => id
  | a :: u => by
    rintro (h | ⟨_, h⟩)
    · omega
    · exact lexL_irrefl h
theorem lexL_trans : ∀ {u v w : List Int}, lexL u v → lexL v w → lexL u w
  | [], [], _, h, _ => h.elim
  | [], _ :: _, [], _, h => h.elim
  | [], _ :: _, _ :: _, _, _ => trivial
  | _ :: _, [], _, h, _ => h.elim
  | _ :: _, _ :: _, [], _, h => h.elim
  | a :: u, b :: v, c :: w, h, k => by
    rcases h with h | ⟨h1, h2⟩ <;> rcases k with k | ⟨k1, k2⟩
    · exact .inl (by omega)
    · exact .inl (by omega)
    · exact .inl (by omega)
    · exact .inr ⟨by omega, lexL_trans h2 k2⟩
theorem lexL_tri : ∀ (u v : List Int), lexL u v ∨ u = v ∨ lexL v u
  | [], [] => .inr (.inl rfl)
  | [], _ :: _ => .inl trivial
  | _ :: _, [] => .inr (.inr trivial)
  | a :: u, b :: v => by
    rcases Int.lt_trichotomy a b with h | h | h
    · exact .inl (.inl h)
    · subst h
      rcases lexL_tri u v with k | k | k
      · exact .inl (.inr ⟨rfl, k⟩)
      · subst k; exact .inr (.inl rfl)
      · exact .inr (.inr (.inr ⟨rfl, k⟩))
    · exact .inr (.inr (.inl h))
theorem lexL_snoc : ∀ {u v : List Int} (a b : Int), u.length = v.length → lexL u v → lexL (u ++ [a]) (v ++ [b])
  | [], [], _, _, _, h => h.elim
  | [], _ :: _, _, _, hl, _ => by simp at hl
  | _ :: _, [], _, _, _, h => h.elim
  | x :: u, y :: v, a, b, hl, h => by
    rcases h with h | ⟨h1, h2⟩
    · exact .inl h
    · exact .inr ⟨h1, lexL_snoc a b (by simpa using hl) h2⟩
theorem lexL_last : ∀ (u : List Int) {a b : Int}, a < b → lexL (u ++ [a]) (u ++ [b])
  | [], _, _, h => .inl h
  | x :: u, _, _, h => .inr ⟨rfl, lexL_last u h⟩
/-- Shortlex order. -/
def slx (u v : List Int) : Prop := u.length < v.length ∨ (u.length = v.length ∧ lexL u v)
theorem slx_irrefl {u : List Int} : ¬ slx u u := by
  rintro (h | ⟨_, h⟩)
  · omega
  · exact lexL_irrefl h
theorem slx_trans {u v w : List Int} (h : slx u v) (k : slx v w) : slx u w := by
  rcases h with h | ⟨h1, h2⟩ <;> rcases k with k | ⟨k1, k2⟩
  · exact .inl (by omega)
  · exact .inl (by omega)
  · exact .inl (by omega)
  · exact .inr ⟨by omega, lexL_trans h2 k2⟩
theorem slx_nd {l : List (List Int)} (h : l.Pairwise slx) : l.Nodup := by
  unfold List.Nodup
  exact h.imp fun {a b} (k : slx a b) (e : a = b) => slx_irrefl (e ▸ k)
theorem lexL_nd {l : List (List Int)} (h : l.Pairwise lexL) : l.Nodup := by
  unfold List.Nodup
  exact h.imp fun {a b} (k : lexL a b) (e : a = b) => lexL_irrefl (e ▸ k)
theorem slx_ext : ∀ {l m : List (List Int)}, l.Pairwise slx → m.Pairwise slx → (∀ w, w ∈ l ↔ w ∈ m) → l = m := fun {l m} hl hm h =>
  ((List.perm_ext_iff_of_nodup (slx_nd hl) (slx_nd hm)).2 h).eq_of_pairwise (fun a b _ _ x y => absurd (slx_trans x y) slx_irrefl) hl hm
/-! ### nets -/
structure Net (C : Type) where
  sil : C → List C
  spk : C → List (Int × C)
  dn : C → Bool
section
variable {C : Type} {N : Net C} {s c d e : C} {u v w : List Int} {n L : Nat}
inductive Wlk (N : Net C) : C → List Int → C → Prop
  | nil (c : C) : Wlk N c [] c
  | sil {c d e : C} {w : List Int} : d ∈ N.sil c → Wlk N d w e → Wlk N c w e
  | spk {c d e : C} {r : Int} {w : List Int} : (r, d) ∈ N.spk c → Wlk N d w e → Wlk N c (r :: w) e
theorem Wlk.trans (h : Wlk N c u d) (k : Wlk N d v e) : Wlk N c (u ++ v) e := by
  induction h with
  | nil => exact k
  | sil h1 _ ih => exact .sil h1 (ih k)
  | spk h1 _ ih => exact .spk h1 (ih k)
theorem Wlk.split' (h : Wlk N c w e) : ∀ {u v : List Int}, w = u ++ v → ∃ d, Wlk N c u d ∧ Wlk N d v e := by
  induction h with
  | nil c =>
    intro u v hw
    obtain ⟨rfl, rfl⟩ := List.append_eq_nil_iff.1 hw.symm
    exact ⟨c, .nil c, .nil c⟩
  | sil h1 _ ih =>
    intro u v hw
    obtain ⟨d, k1, k2⟩ := ih hw
    exact ⟨d, .sil h1 k1, k2⟩
  | @spk c d e r w h1 h2 ih =>
    intro u v hw
    cases u with
    | nil => rw [List.nil_append] at hw; subst hw; exact ⟨c, .nil c, .spk h1 h2⟩
    | cons a u =>
      rw [List.cons_append] at hw
      obtain ⟨e1, e2⟩ := List.cons.inj hw
      subst e1
      obtain ⟨d', k1, k2⟩ := ih e2
      exact ⟨d', .spk h1 k1, k2⟩
theorem Wlk.split (h : Wlk N c (u ++ v) e) : ∃ d, Wlk N c u d ∧ Wlk N d v e := h.split' rfl
theorem Wlk.one' (h : Wlk N c w e) : ∀ {r : Int}, w = [r] → ∃ c1 d, Wlk N c [] c1 ∧ (r, d) ∈ N.spk c1 ∧ Wlk N d [] e := by
  induction h with
  | nil => intro r h; cases h
  | sil h1 _ ih =>
    intro r h
    obtain ⟨c1, d, k1, k2, k3⟩ := ih h
    exact ⟨c1, d, .sil h1 k1, k2, k3⟩
  | spk h1 h2 _ =>
    intro r h
    obtain ⟨rfl, rfl⟩ := List.cons.inj h
    exact ⟨_, _, .nil _, h1, h2⟩
theorem Wlk.one {r : Int} (h : Wlk N c [r] e) : ∃ c1 d, Wlk N c [] c1 ∧ (r, d) ∈ N.spk c1 ∧ Wlk N d [] e := h.one' rfl
def Acc (N : Net C) (c : C) (w : List Int) : Prop := ∃ d, Wlk N c w d ∧ N.dn d = true
def Live (N : Net C) (s : C) (n : Nat) (u : List Int) (c : C) : Prop := Wlk N s u c ∧ ∃ w, Acc N c w ∧ u.length + w.length ≤ n
theorem Live.acc (h : Live N s n u c) : ∃ w, Acc N s (u ++ w) ∧ (u ++ w).length ≤ n := by
  obtain ⟨h1, w, ⟨d, h2, h3⟩, h4⟩ := h
  exact ⟨w, ⟨d, h1.trans h2, h3⟩, by rw [List.length_append]; exact h4⟩
theorem live_of (h : Acc N s (u ++ w)) (hn : (u ++ w).length ≤ n) : ∃ c, Live N s n u c := by
  obtain ⟨d, h1, h2⟩ := h
  obtain ⟨c, k1, k2⟩ := h1.split
  exact ⟨c, k1, w, ⟨d, k2, h2⟩, by rw [List.length_append] at hn; exact hn⟩
/-! ### distances -/
variable [DecidableEq C]
def okD (dist : List (C × Int)) (c : C) (k : Int) : Bool := match aget dist c with
  | none => false
  | some d => decide (d ≤ k)
/-- What a table of distances says of what the start reaches. -/
def DistOk (N : Net C) (s : C) (dist : List (C × Int)) : Prop := ∀ c, (∃ u, Wlk N s u c) → ∀ k : Int, okD dist c k = true ↔ ∃ w, Acc N c w ∧ (w.length : Int) ≤ k
/-- The silent closure within a distance. -/
def Clo (N : Net C) (dist : List (C × Int)) (k : Int) (fr : List C) (c : C) : Prop := Reach (fun c => (N.sil c).filter fun d => okD dist d k) (fun c => c ∈ fr ∧ okD dist c k = true) c
theorem clo_ok {dist : List (C × Int)} {k : Int} {fr : List C} (h : Clo N dist k fr c) : okD dist c k = true := by
  cases h with
  | base h => exact h.2
  | tail _ h => exact (List.mem_filter.1 h).2
theorem clo_wlk {dist : List (C × Int)} {k : Int} {fr : List C} (h : Clo N dist k fr c) : ∃ c0 ∈ fr, Wlk N c0 [] c := by
  induction h with
  | base h => exact ⟨_, h.1, .nil _⟩
  | tail _ hy ih =>
    obtain ⟨c0, h0, h1⟩ := ih
    have := h1.trans (.sil (List.mem_filter.1 hy).1 (.nil _))
    exact ⟨c0, h0, by simpa using this⟩
theorem wlk_clo {dist : List (C × Int)} {k : Int} {fr : List C} (hd : DistOk N s dist) (h : Wlk N c w e) : w = [] → (∃ u, Wlk N s u c) → (∃ w', Acc N e w' ∧ (w'.length : Int) ≤ k) → (c ∈ fr ∨ ∃ b, Clo N dist k fr b ∧ c ∈ N.sil b) → Clo N dist k fr e := by
  have fin : ∀ {c}, (∃ u, Wlk N s u c) → (∃ w', Acc N c w' ∧ (w'.length : Int) ≤ k) → (c ∈ fr ∨ ∃ b, Clo N dist k fr b ∧ c ∈ N.sil b) → Clo N dist k fr c := fun {c} hr ha hf => by
    have hok := (hd c hr k).2 ha
    rcases hf with hf | ⟨b, hb, hs⟩
    · exact .base ⟨hf, hok⟩
    · exact .tail hb (List.mem_filter.2 ⟨hs, hok⟩)
  induction h with
  | nil => intro _ hr ha hf; exact fin hr ha hf
  | @sil c d e w h1 h2 ih =>
    intro hw hr ha hf
    subst hw
    obtain ⟨u, hu⟩ := hr
    obtain ⟨w', ⟨f, a1, a2⟩, a3⟩ := ha
    have hc : Clo N dist k fr c := fin ⟨u, hu⟩ ⟨w', ⟨f, by have := (Wlk.sil h1 h2).trans a1; simpa using this, a2⟩, a3⟩ hf
    exact ih rfl ⟨u, by have := hu.trans (.sil h1 (.nil d)); simpa using this⟩ ⟨w', ⟨f, a1, a2⟩, a3⟩ (.inr ⟨c, hc, h1⟩)
  | spk => intro hw; cases hw
theorem clo_iff {dist : List (C × Int)} {k : Int} {fr : List C} (hd : DistOk N s dist) (hf : ∀ c ∈ fr, ∃ u, Wlk N s u c) : Clo N dist k fr c ↔ (∃ c0 ∈ fr, Wlk N c0 [] c) ∧ ∃ w, Acc N c w ∧ (w.length : Int) ≤ k := by
  constructor
  · intro h
    obtain ⟨c0, h0, h1⟩ := clo_wlk h
    obtain ⟨u, hu⟩ := hf c0 h0
    exact ⟨⟨c0, h0, h1⟩, (hd c ⟨_, hu.trans h1⟩ k).1 (clo_ok h)⟩
  · rintro ⟨⟨c0, h0, h1⟩, ha⟩
    exact wlk_clo hd h1 rfl (hf c0 h0) ha (.inl h0)
/-! ### levels -/
/-- A level: the prefixes of one length that lead to a word, in order, each with what it leads to. -/
structure Lev (N : Net C) (s : C) (n L : Nat) (ps : List (List Int × List C)) : Prop where
  sorted : (ps.map (·.1)).Pairwise lexL
  len : ∀ p ∈ ps, p.1.length = L
  set : ∀ p ∈ ps, ∀ c, c ∈ p.2 ↔ Live N s n p.1 c
  mem : ∀ u, u.length = L → (∃ c, Live N s n u c) → ∃ p ∈ ps, p.1 = u
  ne : ∀ p ∈ ps, ∃ c, c ∈ p.2
/-- The longer prefixes of one prefix. -/
structure Nxt (N : Net C) (s : C) (n : Nat) (u : List Int) (qs : List (List Int × List C)) : Prop where
  pre : ∀ q ∈ qs, ∃ r, q.1 = u ++ [r]
  sorted : (qs.map (·.1)).Pairwise lexL
  set : ∀ q ∈ qs, ∀ c, c ∈ q.2 ↔ Live N s n q.1 c
  mem : ∀ r c, Live N s n (u ++ [r]) c → ∃ q ∈ qs, q.1 = u ++ [r]
  ne : ∀ q ∈ qs, ∃ c, c ∈ q.2
theorem Lev.next {ps : List (List Int × List C)} {f : List Int × List C → List (List Int × List C)} (h : Lev N s n L ps) (hf : ∀ p ∈ ps, Nxt N s n p.1 (f p)) : Lev N s n (L + 1) (ps.flatMap f) := by
  refine ⟨?_, fun q hq => ?_, fun q hq => ?_, fun u hu hl => ?_, fun q hq => ?_⟩
  · rw [List.map_flatMap, List.pairwise_flatMap]
    refine ⟨fun p hp => (hf p hp).sorted, ?_⟩
    have hs := h.sorted
    rw [List.pairwise_map] at hs
    refine hs.imp_of_mem fun {a b} ha hb hab x hx y hy => ?_
    obtain ⟨q, hq, rfl⟩ := List.mem_map.1 hx
    obtain ⟨q', hq', rfl⟩ := List.mem_map.1 hy
    obtain ⟨r, e⟩ := (hf a ha).pre q hq
    obtain ⟨r', e'⟩ := (hf b hb).pre q' hq'
    rw [e, e']
    exact lexL_snoc r r' (by rw [h.len a ha, h.len b hb]) hab
  · obtain ⟨p, hp, hq⟩ := List.mem_flatMap.1 hq
    obtain ⟨r, e⟩ := (hf p hp).pre q hq
    rw [e, List.length_append, h.len p hp]; rfl
  · obtain ⟨p, hp, hq⟩ := List.mem_flatMap.1 hq
    exact (hf p hp).set q hq
  · obtain ⟨c, hc⟩ := hl
    have hne : u ≠ [] := by intro e; subst e; simp at hu
    have hu' := (List.dropLast_concat_getLast hne)
    rw [← hu'] at hc ⊢
    obtain ⟨w, ha, hn⟩ := hc.acc
    rw [List.append_assoc] at ha hn
    obtain ⟨p, hp, e⟩ := h.mem u.dropLast (by rw [List.length_dropLast]; omega) (live_of ha hn)
    rw [← e] at hc ⊢
    obtain ⟨q, hq, e2⟩ := (hf p hp).mem _ _ hc
    exact ⟨q, List.mem_flatMap.2 ⟨p, hp, hq⟩, e2⟩
  · obtain ⟨p, hp, hq⟩ := List.mem_flatMap.1 hq
    exact (hf p hp).ne q hq
theorem lev_zero {dist : List (C × Int)} (hd : DistOk N s dist) {K : List C} (hK : ∀ c, c ∈ K ↔ Clo N dist n [s] c) (hne : K ≠ []) : Lev N s n 0 [([], K)] := by
  have key : ∀ c, c ∈ K ↔ Live N s n [] c := fun c => by
    rw [hK, clo_iff hd (fun c hc => by rw [List.mem_singleton.1 hc]; exact ⟨[], .nil s⟩)]
    constructor
    · rintro ⟨⟨c0, h0, h1⟩, w, ha, hw⟩
      rw [List.mem_singleton.1 h0] at h1
      exact ⟨h1, w, ha, by simp only [List.length_nil]; omega⟩
    · rintro ⟨h1, w, ha, hw⟩
      simp only [List.length_nil] at hw
      exact ⟨⟨s, by simp, h1⟩, w, ha, by omega⟩
  refine ⟨by simp, by simp, fun p hp c => ?_, fun u hu _ => ⟨([], K), by simp, (List.eq_nil_of_length_eq_zero hu).symm⟩, fun p hp => ?_⟩
  · rw [List.mem_singleton.1 hp]; exact key c
  · rw [List.mem_singleton.1 hp]; exact List.exists_mem_of_ne_nil K hne
theorem lev_none {dist : List (C × Int)} (hd : DistOk N s dist) (hK : ∀ c, ¬ Clo N dist n [s] c) (hw : w.length ≤ n) : ¬ Acc N s w := fun h => by
  obtain ⟨c, hc⟩ := live_of (u := []) (w := w) h hw
  refine hK c ((clo_iff hd (fun c hc => by rw [List.mem_singleton.1 hc]; exact ⟨[], .nil s⟩)).2 ?_)
  obtain ⟨h1, w', ha, hw'⟩ := hc
  simp only [List.length_nil] at hw'
  exact ⟨⟨s, by simp, h1⟩, w', ha, by omega⟩
/-- What one prefix is followed by, out of the closures. -/
theorem nxt_of {dist : List (C × Int)} (hd : DistOk N s dist) {p : List Int × List C} (hset : ∀ c, c ∈ p.2 ↔ Live N s n p.1 c) {rs : List Int} {K : Int → List C} (hrs : rs.Pairwise (· < ·)) (hmem : ∀ r, r ∈ rs ↔ ∃ c ∈ p.2, ∃ d, (r, d) ∈ N.spk c)
    {by_ : Int → List C} (hby : ∀ r d, d ∈ by_ r ↔ ∃ c ∈ p.2, (r, d) ∈ N.spk c) (hK : ∀ r ∈ rs, ∀ c, c ∈ K r ↔ Clo N dist ((n : Int) - ((p.1.length : Int) + 1)) (by_ r) c) : Nxt N s n p.1 ((rs.filter fun r => !(K r).isEmpty).map fun r => (p.1 ++ [r], K r)) := by
  have key : ∀ r ∈ rs, ∀ c, c ∈ K r ↔ Live N s n (p.1 ++ [r]) c := fun r hr c => by
    rw [hK r hr, clo_iff hd fun d hd' => ?_]
    · constructor
      · rintro ⟨⟨d, h0, h1⟩, w, ha, hw⟩
        obtain ⟨c1, hc1, hs⟩ := (hby r d).1 h0
        obtain ⟨k1, _⟩ := (hset c1).1 hc1
        have h2 := k1.trans (.spk hs h1)
        exact ⟨h2, w, ha, by rw [List.length_append, List.length_singleton]; omega⟩
      · rintro ⟨h1, w, ha, hw⟩
        rw [List.length_append, List.length_singleton] at hw
        obtain ⟨c2, k1, k2⟩ := h1.split
        obtain ⟨c1, d, k3, k4, k5⟩ := k2.one
        have k6 : Wlk N s p.1 c1 := by have := k1.trans k3; simpa using this
        obtain ⟨f, a1, a2⟩ := ha
        have hl : Live N s n p.1 c1 := ⟨k6, r :: w, ⟨f, by have := (Wlk.spk k4 k5).trans a1; simpa using this, a2⟩, by simp only [List.length_cons]; omega⟩
        exact ⟨⟨d, (hby r d).2 ⟨c1, (hset c1).2 hl, k4⟩, k5⟩, w, ⟨f, a1, a2⟩, by omega⟩
    · obtain ⟨c1, hc1, hs⟩ := (hby r d).1 hd'
      obtain ⟨k1, _⟩ := (hset c1).1 hc1
      exact ⟨_, k1.trans (.spk hs (.nil d))⟩
  have hin : ∀ q ∈ ((rs.filter fun r => !(K r).isEmpty).map fun r => (p.1 ++ [r], K r)), ∃ r ∈ rs, (!(K r).isEmpty) = true ∧ q = (p.1 ++ [r], K r) := fun q hq => by
    obtain ⟨r, hr, rfl⟩ := List.mem_map.1 hq
    exact ⟨r, (List.mem_filter.1 hr).1, (List.mem_filter.1 hr).2, rfl⟩
  refine ⟨fun q hq => ?_, ?_, fun q hq c => ?_, fun r c hl => ?_, fun q hq => ?_⟩
  · obtain ⟨r, _, _, rfl⟩ := hin q hq; exact ⟨r, rfl⟩
  · rw [List.map_map, List.pairwise_map]
    exact (hrs.filter _).imp fun h => lexL_last _ h
  · obtain ⟨r, hr, _, rfl⟩ := hin q hq; exact key r hr c
  · have hr : r ∈ rs := by
      rw [hmem]
      obtain ⟨h1, w, ha, hw⟩ := hl
      rw [List.length_append, List.length_singleton] at hw
      obtain ⟨c2, k1, k2⟩ := h1.split
      obtain ⟨c1, d, k3, k4, k5⟩ := k2.one
      have k6 : Wlk N s p.1 c1 := by have := k1.trans k3; simpa using this
      obtain ⟨f, a1, a2⟩ := ha
      exact ⟨c1, (hset c1).2 ⟨k6, r :: w, ⟨f, by have := (Wlk.spk k4 k5).trans a1; simpa using this, a2⟩, by simp only [List.length_cons]; omega⟩, d, k4⟩
    have hc : c ∈ K r := (key r hr c).2 hl
    refine ⟨(p.1 ++ [r], K r), List.mem_map.2 ⟨r, List.mem_filter.2 ⟨hr, ?_⟩, rfl⟩, rfl⟩
    cases hk : K r with
    | nil => rw [hk] at hc; simp at hc
    | cons => rfl
  · obtain ⟨r, _, h2, rfl⟩ := hin q hq
    refine List.exists_mem_of_ne_nil _ fun e => ?_
    simp only [] at e
    rw [e] at h2; simp at h2
/-! ### the words -/
/-- All words of at most n runes, in shortlex order. -/
structure Wds (N : Net C) (s : C) (n : Nat) (W : List (List Int)) : Prop where
  sorted : W.Pairwise slx
  mem : ∀ w, w ∈ W ↔ w.length ≤ n ∧ Acc N s w
theorem Wds.uniq {W W' : List (List Int)} (h : Wds N s n W) (h' : Wds N s n W') : W = W' := slx_ext h.sorted h'.sorted fun w => by rw [h.mem, h'.mem]
/-- The words of fewer than L runes. -/
structure Outs (N : Net C) (s : C) (n L : Nat) (out : List (List Int)) : Prop where
  sorted : out.Pairwise slx
  mem : ∀ w, w ∈ out ↔ w.length < L ∧ w.length ≤ n ∧ Acc N s w
theorem out_zero : Outs N s n 0 [] := ⟨by simp, fun w => by simp⟩
def accP (N : Net C) (p : List Int × List C) : Bool := p.2.any N.dn
theorem lev_acc {ps : List (List Int × List C)} (h : Lev N s n L ps) {p : List Int × List C} (hp : p ∈ ps) (hL : L ≤ n) : accP N p = true ↔ Acc N s p.1 := by
  unfold accP
  rw [List.any_eq_true]
  constructor
  · rintro ⟨c, hc, hd⟩
    exact ⟨c, ((h.set p hp c).1 hc).1, hd⟩
  · rintro ⟨d, h1, h2⟩
    exact ⟨d, (h.set p hp d).2 ⟨h1, [], ⟨d, .nil d, h2⟩, by rw [h.len p hp]; simpa using hL⟩, h2⟩
theorem Outs.next {ps : List (List Int × List C)} {out : List (List Int)} (h : Outs N s n L out) (hl : Lev N s n L ps) (hL : L ≤ n) : Outs N s n (L + 1) (out ++ (ps.filter (accP N)).map (·.1)) := by
  refine ⟨List.pairwise_append.2 ⟨h.sorted, ?_, fun a ha b hb => ?_⟩, fun w => ?_⟩
  · have hs := hl.sorted
    rw [List.pairwise_map] at hs ⊢
    exact (hs.filter _).imp_of_mem fun {a b} ha hb hab => .inr ⟨by rw [hl.len a (List.mem_filter.1 ha).1, hl.len b (List.mem_filter.1 hb).1], hab⟩
  · obtain ⟨p, hp, rfl⟩ := List.mem_map.1 hb
    have h1 := ((h.mem a).1 ha).1
    exact .inl (by rw [hl.len p (List.mem_filter.1 hp).1]; exact h1)
  · rw [List.mem_append, h.mem]
    constructor
    · rintro (⟨h1, h2⟩ | hm)
      · exact ⟨by omega, h2⟩
      · obtain ⟨p, hp, rfl⟩ := List.mem_map.1 hm
        obtain ⟨hp1, hp2⟩ := List.mem_filter.1 hp
        exact ⟨by rw [hl.len p hp1]; omega, by rw [hl.len p hp1]; exact hL, (lev_acc hl hp1 hL).1 hp2⟩
    · rintro ⟨h1, h2, h3⟩
      by_cases e : w.length < L
      · exact .inl ⟨e, h2, h3⟩
      · right
        obtain ⟨c, hc⟩ := live_of (u := w) (w := []) (by simpa using h3) (by simpa using h2)
        obtain ⟨p, hp, rfl⟩ := hl.mem w (by omega) ⟨c, hc⟩
        exact List.mem_map.2 ⟨p, List.mem_filter.2 ⟨hp, (lev_acc hl hp hL).2 h3⟩, rfl⟩
theorem Outs.fin {out W : List (List Int)} (h : Outs N s n (n + 1) out) (hW : Wds N s n W) : out = W := slx_ext h.sorted hW.sorted fun w => by
  rw [h.mem, hW.mem]
  exact ⟨fun k => k.2, fun k => ⟨by omega, k⟩⟩
/-- Levels that have run dry. -/
theorem Outs.dry {out W : List (List Int)} (h : Outs N s n L out) (hl : Lev N s n L []) (hW : Wds N s n W) : out = W := slx_ext h.sorted hW.sorted fun w => by
  rw [h.mem, hW.mem]
  refine ⟨fun k => k.2, fun k => ⟨?_, k⟩⟩
  refine Nat.lt_of_not_le fun hle => ?_
  have e := List.take_append_drop L w
  obtain ⟨c, hc⟩ := live_of (u := w.take L) (w := w.drop L) (by rw [e]; exact k.2) (by rw [e]; exact k.1)
  obtain ⟨p, hp, _⟩ := hl.mem _ (by rw [List.length_take]; omega) ⟨c, hc⟩
  simp at hp
theorem Outs.le {out W : List (List Int)} (h : Outs N s n L out) (hW : Wds N s n W) : out.length ≤ W.length := by
  have hn : out.Nodup := slx_nd h.sorted
  exact hn.length_le_of_subset fun w hw => (hW.mem w).2 ((h.mem w).1 hw).2
theorem Lev.le {ps : List (List Int × List C)} {W : List (List Int)} (h : Lev N s n L ps) (hW : Wds N s n W) : ps.length ≤ W.length := by
  have hn : (ps.map (·.1)).Nodup := lexL_nd h.sorted
  have hsub : ∀ u ∈ ps.map (·.1), u ∈ W.map fun w => w.take L := fun u hu => by
    obtain ⟨p, hp, rfl⟩ := List.mem_map.1 hu
    obtain ⟨c, hc⟩ := h.ne p hp
    obtain ⟨w, ha, hw⟩ := ((h.set p hp c).1 hc).acc
    exact List.mem_map.2 ⟨_, (hW.mem _).2 ⟨hw, ha⟩, List.take_left' (h.len p hp)⟩
  have := hn.length_le_of_subset hsub
  simpa using this
end
end Go.Proofs.YtmjieefhjmiagaaGreatDoor.G

set_option linter.all false
namespace Go.Proofs.YtmjieefhjmiagaaGreatDoor.G
open Go Go.RowKit
section
variable {C : Type}
/-- How many runes it takes from a configuration to an end; B c: who leads to c, and whether that takes a rune. -/
inductive Far (B : C → List (C × Bool)) (ends : List C) : C → Nat → Prop
  | base {c : C} : c ∈ ends → Far B ends c 0
  | tail {c b : C} {n : Nat} {k : Bool} : Far B ends c n → (b, k) ∈ B c → Far B ends b (n + k.toNat)
variable [DecidableEq C] {B : C → List (C × Bool)} {ends : List C} {d : Nat} {dist : List (C × Int)} {q n ds' : List C} {x b c : C} {ds : List (C × Bool)}
theorem okD_iff {k : Int} : okD dist c k = true ↔ ∃ v, aget dist c = some v ∧ v ≤ k := by
  unfold okD
  cases aget dist c <;> simp
theorem okD_mono {k l : Int} (h : okD dist c k = true) (hl : k ≤ l) : okD dist c l = true := by
  obtain ⟨v, h1, h2⟩ := okD_iff.1 h
  exact okD_iff.2 ⟨v, h1, by omega⟩
/-- The search from the ends: d the layer's number, q the layer, n the next one; g: which links have been gone through. -/
structure Ds (B : C → List (C × Bool)) (ends : List C) (d : Nat) (dist : List (C × Int)) (q n : List C) (g : C → C × Bool → Prop) : Prop where
  nd : (dist.map (·.1)).Nodup
  val : ∀ c v, aget dist c = some v → 0 ≤ v ∧ v ≤ d ∧ Far B ends c v.toNat
  qf : ∀ c ∈ q, Far B ends c d
  nf : ∀ c ∈ n, Far B ends c (d + 1)
  ef : ∀ c ∈ ends, okD dist c 0 = true ∨ (d = 0 ∧ c ∈ q)
  c0 : ∀ c v, aget dist c = some v → ∀ b, (b, false) ∈ B c → g c (b, false) → okD dist b v = true ∨ (v = d ∧ b ∈ q)
  c1 : ∀ c v, aget dist c = some v → ∀ b, (b, true) ∈ B c → g c (b, true) → okD dist b (v + 1) = true ∨ (v + 1 = d ∧ b ∈ q) ∨ (v = d ∧ b ∈ n)
def gT : C → C × Bool → Prop := fun _ _ => True
def gX (x : C) (ds : List (C × Bool)) : C → C × Bool → Prop := fun c e => c ≠ x ∨ e ∈ ds
theorem Ds.init : Ds B ends 0 [] ends [] gT :=
  ⟨by simp, fun c v h => by simp [aget] at h, fun c h => .base h, by simp, fun c h => .inr ⟨rfl, h⟩, fun c v h => by simp [aget] at h, fun c v h => by simp [aget] at h⟩
theorem Ds.known (h : Ds B ends d dist (x :: q) n gT) {v : Int} (hx : aget dist x = some v) : Ds B ends d dist q n gT := by
  have hv := (h.val x v hx).2.1
  have key : ∀ k : Int, (d : Int) ≤ k → okD dist x k = true := fun k hk => okD_iff.2 ⟨v, hx, by omega⟩
  refine ⟨h.nd, h.val, fun c hc => h.qf c (List.mem_cons_of_mem _ hc), h.nf, fun c hc => ?_, fun c v' hc b hb hg => ?_, fun c v' hc b hb hg => ?_⟩
  · rcases h.ef c hc with h1 | ⟨h1, h2⟩
    · exact .inl h1
    · rcases List.mem_cons.1 h2 with rfl | h2
      · exact .inl (key 0 (by omega))
      · exact .inr ⟨h1, h2⟩
  · rcases h.c0 c v' hc b hb hg with h1 | ⟨h1, h2⟩
    · exact .inl h1
    · rcases List.mem_cons.1 h2 with rfl | h2
      · exact .inl (key v' (by omega))
      · exact .inr ⟨h1, h2⟩
  · rcases h.c1 c v' hc b hb hg with h1 | ⟨h1, h2⟩ | h1
    · exact .inl h1
    · rcases List.mem_cons.1 h2 with rfl | h2
      · exact .inl (key (v' + 1) (by omega))
      · exact .inr (.inl ⟨h1, h2⟩)
    · exact .inr (.inr h1)
theorem okD_put {k v : Int} (hx : aget dist x = none) : okD (aput dist x v) c k = true ↔ okD dist c k = true ∨ (c = x ∧ v ≤ k) := by
  rw [okD_iff, okD_iff]
  constructor
  · rintro ⟨u, h1, h2⟩
    rw [aget_aput] at h1
    split at h1
    · rename_i e; cases h1; exact .inr ⟨e.symm, h2⟩
    · exact .inl ⟨u, h1, h2⟩
  · rintro (⟨u, h1, h2⟩ | ⟨rfl, h2⟩)
    · refine ⟨u, ?_, h2⟩
      rw [aget_aput, if_neg]
      · exact h1
      · rintro rfl; rw [hx] at h1; cases h1
    · exact ⟨v, by rw [aget_aput, if_pos rfl], h2⟩
theorem keys_put {κ β : Type} [DecidableEq κ] : ∀ {l : List (κ × β)} {k : κ} {v : β}, aget l k = none → (aput l k v).map (·.1) = l.map (·.1) ++ [k]
  | [], k, v, _ => rfl
  | (a, b) :: l, k, v, h => by
    have hne : ¬ a = k := by rintro rfl; simp [aget] at h
    have h' : aget l k = none := by simpa [aget, hne] using h
    unfold aput
    simp only [hne, if_false, List.map_cons, List.cons_append]
    rw [keys_put h']
theorem Ds.opn (h : Ds B ends d dist (x :: q) n gT) (hx : aget dist x = none) : Ds B ends d (aput dist x d) q n (gX x []) := by
  refine ⟨?_, fun c v hc => ?_, fun c hc => h.qf c (List.mem_cons_of_mem _ hc), h.nf, fun c hc => ?_, fun c v' hc b hb hg => ?_, fun c v' hc b hb hg => ?_⟩
  · rw [keys_put hx]
    refine List.nodup_append.2 ⟨h.nd, by simp, fun a ha b hb e => ?_⟩
    rw [List.mem_singleton.1 hb] at e
    subst e
    exact aget_none.1 hx ha
  · rw [aget_aput] at hc
    split at hc
    · rename_i e; cases hc; subst e
      exact ⟨by omega, by omega, by rw [Int.toNat_natCast]; exact h.qf _ (by simp)⟩
    · exact h.val c v hc
  · rcases h.ef c hc with h1 | ⟨h1, h2⟩
    · exact .inl ((okD_put hx).2 (.inl h1))
    · rcases List.mem_cons.1 h2 with rfl | h2
      · exact .inl ((okD_put hx).2 (.inr ⟨rfl, by omega⟩))
      · exact .inr ⟨h1, h2⟩
  · rw [aget_aput] at hc
    split at hc
    · rename_i e; rcases hg with hg | hg
      · exact absurd e.symm hg
      · simp at hg
    · rcases h.c0 c v' hc b hb trivial with h1 | ⟨h1, h2⟩
      · exact .inl ((okD_put hx).2 (.inl h1))
      · rcases List.mem_cons.1 h2 with rfl | h2
        · exact .inl ((okD_put hx).2 (.inr ⟨rfl, by omega⟩))
        · exact .inr ⟨h1, h2⟩
  · rw [aget_aput] at hc
    split at hc
    · rename_i e; rcases hg with hg | hg
      · exact absurd e.symm hg
      · simp at hg
    · rcases h.c1 c v' hc b hb trivial with h1 | ⟨h1, h2⟩ | h1
      · exact .inl ((okD_put hx).2 (.inl h1))
      · rcases List.mem_cons.1 h2 with rfl | h2
        · exact .inl ((okD_put hx).2 (.inr ⟨rfl, by omega⟩))
        · exact .inr (.inl ⟨h1, h2⟩)
      · exact .inr (.inr h1)
theorem Ds.push0 (h : Ds B ends d dist q n (gX x ds)) (hx : aget dist x = some (d : Int)) (hb : (b, false) ∈ B x) : Ds B ends d dist (q ++ [b]) n (gX x (ds ++ [(b, false)])) := by
  have hf : Far B ends b d := by
    have := (h.val x _ hx).2.2
    rw [Int.toNat_natCast] at this
    exact .tail this hb
  refine ⟨h.nd, h.val, fun c hc => ?_, h.nf, fun c hc => ?_, fun c v hc b' hb' hg => ?_, fun c v hc b' hb' hg => ?_⟩
  · rcases List.mem_append.1 hc with h1 | h1
    · exact h.qf c h1
    · rw [List.mem_singleton.1 h1]; exact hf
  · rcases h.ef c hc with h1 | ⟨h1, h2⟩
    · exact .inl h1
    · exact .inr ⟨h1, List.mem_append_left _ h2⟩
  · rcases hg with hg | hg
    · rcases h.c0 c v hc b' hb' (.inl hg) with h1 | ⟨h1, h2⟩
      · exact .inl h1
      · exact .inr ⟨h1, List.mem_append_left _ h2⟩
    · rcases List.mem_append.1 hg with hg | hg
      · rcases h.c0 c v hc b' hb' (.inr hg) with h1 | ⟨h1, h2⟩
        · exact .inl h1
        · exact .inr ⟨h1, List.mem_append_left _ h2⟩
      · have e := List.mem_singleton.1 hg
        simp only [Prod.mk.injEq, and_true] at e
        subst e
        by_cases hcx : c = x
        · subst hcx
          rw [hx] at hc
          cases hc
          exact .inr ⟨rfl, List.mem_append_right _ (by simp)⟩
        · rcases h.c0 c v hc b' hb' (.inl hcx) with h1 | ⟨h1, h2⟩
          · exact .inl h1
          · exact .inr ⟨h1, List.mem_append_left _ h2⟩
  · have hg' : gX x ds c (b', true) := by
      rcases hg with hg | hg
      · exact .inl hg
      · rcases List.mem_append.1 hg with hg | hg
        · exact .inr hg
        · have := List.mem_singleton.1 hg
          simp at this
    rcases h.c1 c v hc b' hb' hg' with h1 | ⟨h1, h2⟩ | h1
    · exact .inl h1
    · exact .inr (.inl ⟨h1, List.mem_append_left _ h2⟩)
    · exact .inr (.inr h1)
theorem Ds.push1 (h : Ds B ends d dist q n (gX x ds)) (hx : aget dist x = some (d : Int)) (hb : (b, true) ∈ B x) : Ds B ends d dist q (n ++ [b]) (gX x (ds ++ [(b, true)])) := by
  have hf : Far B ends b (d + 1) := by
    have := (h.val x _ hx).2.2
    rw [Int.toNat_natCast] at this
    exact .tail this hb
  refine ⟨h.nd, h.val, h.qf, fun c hc => ?_, h.ef, fun c v hc b' hb' hg => ?_, fun c v hc b' hb' hg => ?_⟩
  · rcases List.mem_append.1 hc with h1 | h1
    · exact h.nf c h1
    · rw [List.mem_singleton.1 h1]; exact hf
  · have hg' : gX x ds c (b', false) := by
      rcases hg with hg | hg
      · exact .inl hg
      · rcases List.mem_append.1 hg with hg | hg
        · exact .inr hg
        · have := List.mem_singleton.1 hg
          simp at this
    exact h.c0 c v hc b' hb' hg'
  · have lift : gX x ds c (b', true) → okD dist b' (v + 1) = true ∨ (v + 1 = d ∧ b' ∈ q) ∨ (v = d ∧ b' ∈ n ++ [b]) := fun hg => by
      rcases h.c1 c v hc b' hb' hg with h1 | h1 | ⟨h1, h2⟩
      · exact .inl h1
      · exact .inr (.inl h1)
      · exact .inr (.inr ⟨h1, List.mem_append_left _ h2⟩)
    rcases hg with hg | hg
    · exact lift (.inl hg)
    · rcases List.mem_append.1 hg with hg | hg
      · exact lift (.inr hg)
      · have e := List.mem_singleton.1 hg
        simp only [Prod.mk.injEq, and_true] at e
        subst e
        by_cases hcx : c = x
        · subst hcx
          rw [hx] at hc
          cases hc
          exact .inr (.inr ⟨rfl, List.mem_append_right _ (by simp)⟩)
        · exact lift (.inl hcx)
theorem Ds.close (h : Ds B ends d dist q n (gX x ds)) (hd : ∀ e ∈ B x, e ∈ ds) : Ds B ends d dist q n gT := by
  refine ⟨h.nd, h.val, h.qf, h.nf, h.ef, fun c v hc b hb _ => h.c0 c v hc b hb ?_, fun c v hc b hb _ => h.c1 c v hc b hb ?_⟩
  · by_cases e : c = x
    · subst e; exact .inr (hd _ hb)
    · exact .inl e
  · by_cases e : c = x
    · subst e; exact .inr (hd _ hb)
    · exact .inl e
theorem Ds.turn (h : Ds B ends d dist [] n gT) : Ds B ends (d + 1) dist n [] gT := by
  refine ⟨h.nd, fun c v hc => ?_, h.nf, by simp, fun c hc => ?_, fun c v hc b hb _ => ?_, fun c v hc b hb _ => ?_⟩
  · obtain ⟨h1, h2, h3⟩ := h.val c v hc
    exact ⟨h1, by omega, h3⟩
  · rcases h.ef c hc with h1 | ⟨_, h2⟩
    · exact .inl h1
    · simp at h2
  · rcases h.c0 c v hc b hb trivial with h1 | ⟨_, h2⟩
    · exact .inl h1
    · simp at h2
  · rcases h.c1 c v hc b hb trivial with h1 | ⟨_, h2⟩ | ⟨h1, h2⟩
    · exact .inl h1
    · simp at h2
    · exact .inr (.inl ⟨by omega, h2⟩)
theorem Ds.fin (h : Ds B ends d dist [] [] gT) (c : C) (k : Int) : okD dist c k = true ↔ ∃ m : Nat, Far B ends c m ∧ (m : Int) ≤ k := by
  constructor
  · intro hk
    obtain ⟨v, h1, h2⟩ := okD_iff.1 hk
    obtain ⟨g1, g2, g3⟩ := h.val c v h1
    exact ⟨v.toNat, g3, by omega⟩
  · rintro ⟨m, hm, hk⟩
    refine okD_mono ?_ hk
    clear hk
    induction hm with
    | base hc => exact (h.ef _ hc).resolve_right (by simp)
    | @tail c b n k _ hb ih =>
      obtain ⟨v, h1, h2⟩ := okD_iff.1 ih
      cases k with
      | false =>
        have := (h.c0 c v h1 b hb trivial).resolve_right (by simp)
        exact okD_mono this (by simpa using h2)
      | true =>
        have := (h.c1 c v h1 b hb trivial).resolve_right (by simp)
        refine okD_mono this ?_
        simp only [Bool.toNat_true, Int.natCast_add, Int.natCast_one]
        omega
theorem Ds.len {g : C → C × Bool → Prop} {U : List C} (h : Ds B ends d dist q n g) (hU : ∀ c k, Far B ends c k → c ∈ U) : dist.length ≤ U.length := by
  have := h.nd.length_le_of_subset fun c hc => by
    obtain ⟨p, hp, rfl⟩ := List.mem_map.1 hc
    cases hg : aget dist p.1 with
    | none => exact absurd (List.mem_map.2 ⟨p, hp, rfl⟩) (aget_none.1 hg)
    | some v => exact hU _ _ (h.val p.1 v hg).2.2
  simpa using this
theorem Ds.room {U : List C} (h : Ds B ends d dist (x :: q) n gT) (hx : aget dist x = none) (hU : ∀ c k, Far B ends c k → c ∈ U) : dist.length + 1 ≤ U.length := by
  have := (h.opn hx).len hU
  have e := congrArg List.length (keys_put (v := (d : Int)) hx)
  rw [List.length_map, List.length_append, List.length_map, List.length_singleton] at e
  omega
end
/-! ### silent closures by a queue -/
section
variable {C : Type} [DecidableEq C] {S : C → List C} {ok : C → Bool} {fr K q : List C} {x c : C}
/-- K what is known, q what is to be looked at. -/
structure Cq (S : C → List C) (ok : C → Bool) (fr K q : List C) : Prop where
  nd : K.Nodup
  kf : ∀ c ∈ K, Reach (fun c => (S c).filter ok) (fun c => c ∈ fr ∧ ok c = true) c
  qf : ∀ c ∈ q, ok c = true → Reach (fun c => (S c).filter ok) (fun c => c ∈ fr ∧ ok c = true) c
  ff : ∀ c ∈ fr, ok c = true → c ∈ K ∨ c ∈ q
  cl : ∀ b ∈ K, ∀ c ∈ S b, ok c = true → c ∈ K ∨ c ∈ q
theorem Cq.init : Cq S ok fr [] fr := ⟨by simp, by simp, fun c h k => .base ⟨h, k⟩, fun c h _ => .inr h, by simp⟩
theorem Cq.skip (h : Cq S ok fr K (x :: q)) (hx : ok x = false ∨ x ∈ K) : Cq S ok fr K q := by
  have key : ∀ c, ok c = true → c ∈ x :: q → c ∈ K ∨ c ∈ q := fun c hc h => by
    rcases List.mem_cons.1 h with rfl | h
    · rcases hx with hx | hx
      · rw [hx] at hc; cases hc
      · exact .inl hx
    · exact .inr h
  refine ⟨h.nd, h.kf, fun c hc => h.qf c (List.mem_cons_of_mem _ hc), fun c hc hk => ?_, fun b hb c hc hk => ?_⟩
  · rcases h.ff c hc hk with h1 | h1
    · exact .inl h1
    · exact key c hk h1
  · rcases h.cl b hb c hc hk with h1 | h1
    · exact .inl h1
    · exact key c hk h1
theorem Cq.push (h : Cq S ok fr K (x :: q)) (hx : ok x = true) (hn : x ∉ K) : Cq S ok fr (K ++ [x]) (q ++ S x) := by
  have hr := h.qf x (by simp) hx
  have key : ∀ c, c ∈ K ∨ c ∈ x :: q → c ∈ K ++ [x] ∨ c ∈ q ++ S x := fun c h => by
    rcases h with h | h
    · exact .inl (List.mem_append_left _ h)
    · rcases List.mem_cons.1 h with rfl | h
      · exact .inl (by simp)
      · exact .inr (List.mem_append_left _ h)
  refine ⟨List.nodup_append.2 ⟨h.nd, by simp, fun a ha b hb e => by rw [List.mem_singleton.1 hb] at e; exact hn (e ▸ ha)⟩, fun c hc => ?_, fun c hc hk => ?_, fun c hc hk => key c (h.ff c hc hk), fun b hb c hc hk => ?_⟩
  · rcases List.mem_append.1 hc with h1 | h1
    · exact h.kf c h1
    · rw [List.mem_singleton.1 h1]; exact hr
  · rcases List.mem_append.1 hc with h1 | h1
    · exact h.qf c (List.mem_cons_of_mem _ h1) hk
    · exact .tail hr (List.mem_filter.2 ⟨h1, hk⟩)
  · rcases List.mem_append.1 hb with h1 | h1
    · exact key c (h.cl b h1 c hc hk)
    · rw [List.mem_singleton.1 h1] at hc
      exact .inr (List.mem_append_right _ hc)
theorem Cq.fin (h : Cq S ok fr K []) (c : C) : c ∈ K ↔ Reach (fun c => (S c).filter ok) (fun c => c ∈ fr ∧ ok c = true) c := by
  refine ⟨h.kf c, fun hr => ?_⟩
  induction hr with
  | base hb => exact (h.ff _ hb.1 hb.2).resolve_right (by simp)
  | tail _ hy ih =>
    have := List.mem_filter.1 hy
    exact (h.cl _ ih _ this.1 this.2).resolve_right (by simp)
theorem Cq.ok_mem (h : Cq S ok fr K q) : ∀ c ∈ K, ok c = true := fun c hc => by
  cases h.kf c hc with
  | base h => exact h.2
  | tail _ h => exact (List.mem_filter.1 h).2
theorem Cq.len {U : List C} (h : Cq S ok fr K q) (hU : ∀ c, ok c = true → c ∈ U) : K.length ≤ U.length := h.nd.length_le_of_subset fun c hc => hU c (h.ok_mem c hc)
theorem Cq.room {U : List C} (h : Cq S ok fr K (x :: q)) (hx : ok x = true) (hn : x ∉ K) (hU : ∀ c, ok c = true → c ∈ U) : K.length + 1 ≤ U.length := by
  have := (h.push hx hn).len hU
  simpa using this
end
theorem okD_key {C : Type} [DecidableEq C] {dist : List (C × Int)} {c : C} {k : Int} (h : okD dist c k = true) : c ∈ dist.map (·.1) := by
  obtain ⟨v, h1, _⟩ := okD_iff.1 h
  refine Decidable.byContradiction fun hn => ?_
  rw [aget_none.2 hn] at h1; cases h1
theorem aput_nw {κ β : Type} [DecidableEq κ] {l : List (κ × β)} {k : κ} {v : β} (h : aget l k = none) : (aput l k v).length = l.length + 1 := by
  have e := congrArg List.length (keys_put (v := v) h)
  rw [List.length_map, List.length_append, List.length_map, List.length_singleton] at e
  exact e
theorem aget_of {κ β : Type} [DecidableEq κ] {l : List (κ × β)} {k : κ} (h : (aget l k).isSome = true) : aget l k = some ((aget l k).get h) := by simp
theorem okD_neg {C : Type} [DecidableEq C] {dist : List (C × Int)} {c : C} {k : Int} : (!(aget dist c).isSome || decide (k < (aget dist c).getD 0)) = !okD dist c k := by
  unfold okD
  cases aget dist c with
  | none => rfl
  | some v =>
    simp only [Option.isSome_some, Bool.not_true, Bool.false_or, Option.getD_some]
    cases h : decide (v ≤ k) <;> simp at h ⊢ <;> omega
theorem clo_skip {a : Bool} {p : Prop} [Decidable p] (h : (!a || decide p) = true) : a = false ∨ p := by
  cases a
  · exact .inl rfl
  · right; simpa using h
theorem clo_push {a : Bool} {p : Prop} [Decidable p] (h : (!a || decide p) = false) : a = true ∧ ¬ p := by
  cases a
  · simp at h
  · exact ⟨rfl, by simpa using h⟩
end Go.Proofs.YtmjieefhjmiagaaGreatDoor.G

set_option linter.all false
namespace Go.Proofs.YtmjieefhjmiagaaGreatDoor.G
open Go Go.RowKit
section
variable {C : Type} [DecidableEq C] {N : Net C} {s : C} {n L : Nat} {ps qs : List (List Int × List C)} {out out0 W : List (List Int)} {k : Nat}
def Dead (N : Net C) (s : C) (n : Nat) (ps : List (List Int × List C)) : Prop := (∀ p ∈ ps, p.2 = []) ∧ ∀ w, w.length ≤ n → ¬ Acc N s w
/-- What the longer prefixes of a prefix are, whatever it is. -/
def Nx (N : Net C) (s : C) (n : Nat) (p : List Int × List C) (qs : List (List Int × List C)) : Prop := (p.2 = [] → qs = []) ∧ ((∀ c, c ∈ p.2 ↔ Live N s n p.1 c) → Nxt N s n p.1 qs)
def Sr (N : Net C) (s : C) (n L : Nat) (ps : List (List Int × List C)) (out : List (List Int)) : Prop := (Lev N s n L ps ∧ Outs N s n L out) ∨ (Dead N s n ps ∧ out = [])
structure SrIn (N : Net C) (s : C) (n : Nat) (ps : List (List Int × List C)) (out0 : List (List Int)) (k : Nat) (out : List (List Int)) (qs : List (List Int × List C)) : Prop where
  out_eq : out = out0 ++ ((ps.take k).filter (accP N)).map (·.1)
  nx : ∃ qss : List (List (List Int × List C)), qss.length = k ∧ qs = qss.flatten ∧ ∀ (i : Nat) p q, ps[i]? = some p → qss[i]? = some q → Nx N s n p q
theorem SrIn.init : SrIn N s n ps out 0 out [] := ⟨by simp, [], rfl, rfl, fun i p q _ h => by simp at h⟩
theorem SrIn.nx_step {p : List Int × List C} {q : List (List Int × List C)} (h : SrIn N s n ps out0 k out qs) (hp : ps[k]? = some p) (hq : Nx N s n p q) : ∃ qss : List (List (List Int × List C)), qss.length = k + 1 ∧ qs ++ q = qss.flatten ∧ ∀ (i : Nat) p q, ps[i]? = some p → qss[i]? = some q → Nx N s n p q := by
  obtain ⟨qss, h1, h2, h3⟩ := h.nx
  refine ⟨qss ++ [q], by simp [h1], by simp [h2], fun i p' q' hp' hq' => ?_⟩
  rw [List.getElem?_append] at hq'
  split at hq'
  · exact h3 i p' q' hp' hq'
  · have hi : i - qss.length = 0 := by
      have := (List.getElem?_eq_some_iff.1 hq').1
      simp at this; omega
    have e : i = k := by omega
    rw [hi] at hq'
    simp at hq'
    subst e hq'
    rw [hp] at hp'
    cases hp'
    exact hq
theorem SrIn.yes {p : List Int × List C} {q : List (List Int × List C)} (h : SrIn N s n ps out0 k out qs) (hp : ps[k]? = some p) (ha : accP N p = true) (hq : Nx N s n p q) : SrIn N s n ps out0 (k + 1) (out ++ [p.1]) (qs ++ q) := by
  refine ⟨?_, h.nx_step hp hq⟩
  rw [take_snoc hp, List.filter_append, List.map_append, ← List.append_assoc, ← h.out_eq]
  simp [ha]
theorem SrIn.no {p : List Int × List C} {q : List (List Int × List C)} (h : SrIn N s n ps out0 k out qs) (hp : ps[k]? = some p) (ha : accP N p = false) (hq : Nx N s n p q) : SrIn N s n ps out0 (k + 1) out (qs ++ q) := by
  refine ⟨?_, h.nx_step hp hq⟩
  rw [take_snoc hp, List.filter_append, List.map_append, ← List.append_assoc, ← h.out_eq]
  simp [ha]
theorem Lev.nd (h : Lev N s n L ps) : ps.Nodup := by
  have := lexL_nd h.sorted
  rw [List.Nodup, List.pairwise_map] at this
  exact this.imp fun h e => h (by rw [e])
theorem nx_fun (hn : ps.Nodup) (hk : k ≤ ps.length) {qss : List (List (List Int × List C))} (hl : qss.length = k) : qss.flatten = (ps.take k).flatMap fun p => qss.getD (ps.idxOf p) [] := by
  have : qss = (ps.take k).map fun p => qss.getD (ps.idxOf p) [] := by
    refine List.ext_getElem (by rw [List.length_map, List.length_take]; omega) fun i h1 h2 => ?_
    rw [List.getElem_map, List.getElem_take, hn.idxOf_getElem i (by omega)]
    simp [List.getD, List.getElem?_eq_getElem h1]
  rw [List.flatMap_def, ← this]
theorem nx_sorted {ps' : List (List Int × List C)} {f : List Int × List C → List (List Int × List C)} (hs : (ps'.map (·.1)).Pairwise lexL) (hlen : ∀ p ∈ ps', p.1.length = L) (hf : ∀ p ∈ ps', Nxt N s n p.1 (f p)) : ((ps'.flatMap f).map (·.1)).Pairwise lexL := by
  rw [List.map_flatMap, List.pairwise_flatMap]
  refine ⟨fun p hp => (hf p hp).sorted, ?_⟩
  rw [List.pairwise_map] at hs
  refine hs.imp_of_mem fun {a b} ha hb hab x hx y hy => ?_
  obtain ⟨q, hq, rfl⟩ := List.mem_map.1 hx
  obtain ⟨q', hq', rfl⟩ := List.mem_map.1 hy
  obtain ⟨r, e⟩ := (hf a ha).pre q hq
  obtain ⟨r', e'⟩ := (hf b hb).pre q' hq'
  rw [e, e']
  exact lexL_snoc r r' (by rw [hlen a ha, hlen b hb]) hab
theorem nx_all (hl : Lev N s n L ps) (hk : k ≤ ps.length) {qss : List (List (List Int × List C))} (hql : qss.length = k) (h : ∀ (i : Nat) p q, ps[i]? = some p → qss[i]? = some q → Nx N s n p q) : ∀ p ∈ ps.take k, Nxt N s n p.1 (qss.getD (ps.idxOf p) []) := fun p hp => by
  obtain ⟨i, hi⟩ := List.getElem?_of_mem hp
  have hik := (List.getElem?_eq_some_iff.1 hi).1
  rw [List.length_take] at hik
  rw [List.getElem?_take, if_pos (by omega)] at hi
  obtain ⟨h1, rfl⟩ := List.getElem?_eq_some_iff.1 hi
  rw [hl.nd.idxOf_getElem i h1]
  have hq : qss[i]? = some (qss[i]'(by omega)) := List.getElem?_eq_getElem (by omega)
  have := (h i _ _ hi hq).2 (hl.set _ (List.getElem_mem h1))
  rw [List.getD, hq]
  exact this
theorem SrIn.done (h : SrIn N s n ps out0 ps.length out qs) (h0 : Sr N s n L ps out0) (hL : L ≤ n) : Sr N s n (L + 1) qs out := by
  obtain ⟨qss, h1, h2, h3⟩ := h.nx
  have ho := h.out_eq
  rw [List.take_length] at ho
  rcases h0 with ⟨hl, hO⟩ | ⟨⟨hd1, hd2⟩, rfl⟩
  · left
    refine ⟨?_, by rw [ho]; exact hO.next hl hL⟩
    rw [h2, nx_fun hl.nd (Nat.le_refl _) h1, List.take_length]
    exact hl.next fun p hp => nx_all hl (Nat.le_refl _) h1 h3 p (by rw [List.take_length]; exact hp)
  · right
    have hq : ∀ q ∈ qss, q = [] := fun q hq => by
      obtain ⟨i, hi⟩ := List.getElem?_of_mem hq
      have hik := (List.getElem?_eq_some_iff.1 hi).1
      have hp : ps[i]? = some (ps[i]'(by omega)) := List.getElem?_eq_getElem (by omega)
      exact (h3 i _ _ hp hi).1 (hd1 _ (List.getElem_mem (by omega)))
    refine ⟨⟨fun p hp => ?_, hd2⟩, ?_⟩
    · rw [h2, List.mem_flatten] at hp
      obtain ⟨q, hq1, hq2⟩ := hp
      rw [hq q hq1] at hq2; simp at hq2
    · rw [ho, List.filter_eq_nil_iff.2 fun p hp => by rw [accP, hd1 p hp]; simp]; rfl
theorem Sr.le (h : Sr N s n L ps out) (hW : Wds N s n W) : out.length ≤ W.length := by
  rcases h with ⟨_, hO⟩ | ⟨_, rfl⟩
  · exact hO.le hW
  · simp
theorem Sr.fin (h : Sr N s n (n + 1) ps out) (hW : Wds N s n W) : out = W := by
  rcases h with ⟨_, hO⟩ | ⟨⟨_, hd⟩, rfl⟩
  · exact hO.fin hW
  · cases W with
    | nil => rfl
    | cons w W => have := (hW.mem w).1 (by simp); exact absurd this.2 (hd w this.1)
theorem SrIn.big (h : SrIn N s n ps out0 k out qs) (hk : k ≤ ps.length) (h0 : Sr N s n L ps out0) (hL : L ≤ n) (hW : Wds N s n W) : out.length ≤ W.length ∧ qs.length ≤ W.length := by
  obtain ⟨qss, h1, h2, h3⟩ := h.nx
  have ho := h.out_eq
  rcases h0 with ⟨hl, hO⟩ | ⟨⟨hd1, hd2⟩, rfl⟩
  · constructor
    · have := (hO.next hl hL).le hW
      rw [ho, List.length_append, List.length_map]
      rw [List.length_append, List.length_map] at this
      have hs : ((ps.take k).filter (accP N)).length ≤ (ps.filter (accP N)).length := ((List.take_sublist k ps).filter _).length_le
      omega
    · have hx := nx_all hl hk h1 h3
      rw [h2, nx_fun hl.nd hk h1]
      have hlen : ∀ p ∈ ps.take k, p.1.length = L := fun p hp => hl.len p (List.mem_of_mem_take hp)
      have hs : ((ps.take k).map (·.1)).Pairwise lexL := by
        rw [List.map_take]; exact hl.sorted.sublist (List.take_sublist _ _)
      have hn := lexL_nd (nx_sorted hs hlen hx)
      have hsub : ∀ u ∈ (((ps.take k).flatMap fun p => qss.getD (ps.idxOf p) []).map (·.1)), u ∈ W.map fun w => w.take (L + 1) := fun u hu => by
        obtain ⟨q, hq, rfl⟩ := List.mem_map.1 hu
        obtain ⟨p, hp, hq⟩ := List.mem_flatMap.1 hq
        obtain ⟨c, hc⟩ := (hx p hp).ne q hq
        obtain ⟨r, e⟩ := (hx p hp).pre q hq
        obtain ⟨w, ha, hw⟩ := (((hx p hp).set q hq c).1 hc).acc
        exact List.mem_map.2 ⟨_, (hW.mem _).2 ⟨hw, ha⟩, List.take_left' (by rw [e, List.length_append, hlen p hp]; rfl)⟩
      have := hn.length_le_of_subset hsub
      simpa using this
  · have hq : ∀ q ∈ qss, q = [] := fun q hq => by
      obtain ⟨i, hi⟩ := List.getElem?_of_mem hq
      have hik := (List.getElem?_eq_some_iff.1 hi).1
      have hp : ps[i]? = some (ps[i]'(by omega)) := List.getElem?_eq_getElem (by omega)
      exact (h3 i _ _ hp hi).1 (hd1 _ (List.getElem_mem (by omega)))
    have e1 : qs = [] := by rw [h2]; exact List.flatten_eq_nil_iff.2 hq
    have e2 : out = [] := by
      rw [ho, List.filter_eq_nil_iff.2 fun p hp => by rw [accP, hd1 p (List.mem_of_mem_take hp)]; simp]; rfl
    rw [e1, e2]; simp
end
end Go.Proofs.YtmjieefhjmiagaaGreatDoor.G

set_option linter.all false
namespace Go.Proofs.YtmjieefhjmiagaaGreatDoor.G
open Go Go.RowKit
def bnet (a b : Tra) (xs zs : List Int) : Net Config := ⟨silL a b xs zs, spkL a b xs zs, doneB a b xs zs⟩
/-- The links that a configuration has got. -/
def lnkL (ev : List (Config × Lnk)) (c : Config) : List Lnk := (ev.filter fun e => e.1 = c).map fun e => e.2
theorem grp_lnk {ev : List (Config × Lnk)} {c : Config} : (aget (grp (fun e : Config × Lnk => e.1) (fun e : Config × Lnk => e.2) ev) c).getD [] = lnkL ev c := grp_look _ _ _ _
theorem lnkL_len (ev : List (Config × Lnk)) (c : Config) : (lnkL ev c).length ≤ ev.length := by
  rw [lnkL, List.length_map]; exact List.length_filter_le _ _
def lnkB (l : Lnk) : Config × Bool := (l.src, !decide (l.cost = 0))
def preE (ev : List (Config × Lnk)) (c : Config) : List (Config × Bool) := (lnkL ev c).map lnkB
theorem mem_preE {ev : List (Config × Lnk)} {c b : Config} {k : Bool} : (b, k) ∈ preE ev c ↔ ∃ e ∈ ev, e.1 = c ∧ e.2.src = b ∧ (!decide (e.2.cost = 0)) = k := by
  simp only [preE, lnkL, lnkB, List.map_map, List.mem_map, List.mem_filter, decide_eq_true_eq, Function.comp, Prod.mk.injEq, and_assoc]
/-- What the links say, once the configurations of vs have been gone through. -/
def EvOk (a b : Tra) (xs zs : List Int) (vs : List Config) (ev : List (Config × Lnk)) : Prop := ∀ d s k, (d, Lnk.mk s k) ∈ ev ↔ s ∈ vs ∧ ((k = 0 ∧ d ∈ silL a b xs zs s) ∨ (k = 1 ∧ ∃ r, (r, d) ∈ spkL a b xs zs s))
section
variable {a b : Tra} {m n : Nat} {xs zs : List Int} {vs : List Config} {ev : List (Config × Lnk)} {c d s : Config} {w : List Int}
theorem evOk_nil : EvOk a b xs zs [] [] := fun d s k => by simp
def ev0 (c : Config) (l : List Config) : List (Config × Lnk) := l.map fun d => (d, ⟨c, 0⟩)
def ev1 (c : Config) (l : List Config) : List (Config × Lnk) := l.map fun d => (d, ⟨c, 1⟩)
theorem ev0_len (c : Config) (l : List Config) : (ev0 c l).length = l.length := by simp [ev0]
theorem ev1_len (c : Config) (l : List Config) : (ev1 c l).length = l.length := by simp [ev1]
theorem ev0_snoc (c x : Config) (l : List Config) : ev0 c (l ++ [x]) = ev0 c l ++ [(x, ⟨c, 0⟩)] := by simp [ev0]
theorem ev1_snoc (c x : Config) (l : List Config) : ev1 c (l ++ [x]) = ev1 c l ++ [(x, ⟨c, 1⟩)] := by simp [ev1]
theorem evOk_next {l1 : List Config} (h : EvOk a b xs zs vs ev) (h1 : ∀ d, d ∈ l1 ↔ ∃ r, (r, d) ∈ spkL a b xs zs c) (hc : c ∉ vs) : EvOk a b xs zs (vs ++ [c]) (ev ++ ev0 c (silL a b xs zs c) ++ ev1 c l1) := fun d s k => by
  simp only [List.mem_append, h d s k, ev0, ev1, List.mem_map, Prod.mk.injEq, Lnk.mk.injEq, List.mem_singleton]
  constructor
  · rintro ((⟨h2, h3⟩ | ⟨y, hy, rfl, rfl, rfl⟩) | ⟨y, hy, rfl, rfl, rfl⟩)
    · exact ⟨.inl h2, h3⟩
    · exact ⟨.inr rfl, .inl ⟨rfl, hy⟩⟩
    · exact ⟨.inr rfl, .inr ⟨rfl, (h1 _).1 hy⟩⟩
  · rintro ⟨h2 | rfl, h3⟩
    · exact .inl (.inl ⟨h2, h3⟩)
    · rcases h3 with ⟨rfl, h4⟩ | ⟨rfl, h4⟩
      · exact .inl (.inr ⟨d, h4, rfl, rfl, rfl⟩)
      · exact .inr ⟨d, (h1 d).2 h4, rfl, rfl, rfl⟩
theorem wlk_cfg (h : Wlk (bnet a b xs zs) s w c) {P : Config → Prop} (hs : Reach (cfgN a b xs zs) P s) : Reach (cfgN a b xs zs) P c := by
  induction h with
  | nil => exact hs
  | sil h1 _ ih => exact ih (.tail hs (List.mem_append_left _ h1))
  | @spk _ _ _ r _ h1 _ ih => exact ih (.tail hs (List.mem_append_right _ (List.mem_map.2 ⟨(r, _), h1, rfl⟩)))
theorem farE_acc (he : EvOk a b xs zs vs ev) {c : Config} {n : Nat} (h : Far (preE ev) (vs.filter (doneB a b xs zs)) c n) : ∃ w, Acc (bnet a b xs zs) c w ∧ w.length = n := by
  induction h with
  | base h => exact ⟨[], ⟨_, .nil _, (List.mem_filter.1 h).2⟩, rfl⟩
  | @tail c b' n k _ hb ih =>
    obtain ⟨w, ⟨d, h1, h2⟩, h3⟩ := ih
    obtain ⟨⟨t, ⟨s, q⟩⟩, hm, rfl, rfl, hk⟩ := mem_preE.1 hb
    obtain ⟨_, ⟨rfl, h4⟩ | ⟨rfl, r, h4⟩⟩ := (he _ _ _).1 hm
    · have : k = false := by rw [← hk]; rfl
      subst this
      exact ⟨w, ⟨d, .sil h4 h1, h2⟩, by simpa using h3⟩
    · have : k = true := by rw [← hk]; rfl
      subst this
      exact ⟨r :: w, ⟨d, .spk h4 h1, h2⟩, by simp [h3]⟩
theorem acc_farE (he : EvOk a b xs zs vs ev) (hK : Closure (cfgN a b xs zs) (· = ⟨a.start, 0, b.start, 0⟩) vs) (h : Wlk (bnet a b xs zs) c w d) (hd : doneB a b xs zs d = true) : c ∈ vs → Far (preE ev) (vs.filter (doneB a b xs zs)) c w.length := by
  induction h with
  | nil c => intro hc; exact .base (List.mem_filter.2 ⟨hc, hd⟩)
  | @sil c e f w h1 _ ih =>
    intro hc
    have := ih hd ((hK.mem _).2 (.tail ((hK.mem _).1 hc) (List.mem_append_left _ h1)))
    have k := Far.tail this (mem_preE.2 ⟨(e, ⟨c, 0⟩), (he _ _ _).2 ⟨hc, .inl ⟨rfl, h1⟩⟩, rfl, rfl, rfl⟩)
    simpa using k
  | @spk c e f r w h1 _ ih =>
    intro hc
    have := ih hd ((hK.mem _).2 (.tail ((hK.mem _).1 hc) (List.mem_append_right _ (List.mem_map.2 ⟨(r, e), h1, rfl⟩))))
    have k := Far.tail this (mem_preE.2 ⟨(e, ⟨c, 1⟩), (he _ _ _).2 ⟨hc, .inr ⟨rfl, r, h1⟩⟩, rfl, rfl, rfl⟩)
    simpa using k
/-- The table that the search leaves is right. -/
theorem dist_okE {dist : List (Config × Int)} (he : EvOk a b xs zs vs ev) (hK : Closure (cfgN a b xs zs) (· = ⟨a.start, 0, b.start, 0⟩) vs) (h : ∀ c k, okD dist c k = true ↔ ∃ m : Nat, Far (preE ev) (vs.filter (doneB a b xs zs)) c m ∧ (m : Int) ≤ k) : DistOk (bnet a b xs zs) ⟨a.start, 0, b.start, 0⟩ dist := fun c ⟨u, hu⟩ k => by
  rw [h]
  constructor
  · rintro ⟨m, hm, hk⟩
    obtain ⟨w, ha, hw⟩ := farE_acc he hm
    exact ⟨w, ha, by omega⟩
  · rintro ⟨w, ⟨d, h1, h2⟩, hk⟩
    exact ⟨w.length, acc_farE he hK h1 h2 ((hK.mem _).2 (wlk_cfg hu (.base rfl))), hk⟩
theorem farE_in {es : List Config} {k : Nat} (h : Far (preE ev) es c k) (he : ∀ d s k, (d, Lnk.mk s k) ∈ ev → s ∈ vs) (hs : ∀ e ∈ es, e ∈ vs) : c ∈ vs := by
  cases h with
  | base h => exact hs _ h
  | tail _ hb =>
    obtain ⟨⟨t, ⟨s, q⟩⟩, hm, _, rfl, _⟩ := mem_preE.1 hb
    exact he _ _ _ hm
/-! ### what the net accepts -/
theorem mem_silL {p i q j : Nat} : d ∈ silL a b xs zs ⟨(p : Int), (i : Int), (q : Int), (j : Int)⟩ ↔ (∃ x ∈ a.arcs, x.src = (p : Int) ∧ fitB xs (i : Int) x.inp = true ∧ x.out = 0 ∧ d = ⟨x.dst, eatK i x.inp, q, j⟩) ∨ ∃ y ∈ b.arcs, y.src = (q : Int) ∧ fitB zs (j : Int) y.out = true ∧ y.inp = 0 ∧ d = ⟨p, i, y.dst, eatK j y.out⟩ := by
  rw [silL_of, List.mem_append, List.mem_flatMap, List.mem_flatMap]
  constructor
  · rintro (⟨x, hx, h⟩ | ⟨y, hy, h⟩)
    · obtain ⟨h1, h2⟩ := mem_outs.1 hx
      unfold silA at h
      split at h
      · rename_i hc
        rw [Bool.and_eq_true, decide_eq_true_eq, eatB_fit] at hc
        exact .inl ⟨x, h1, h2, hc.1, hc.2, List.mem_singleton.1 h⟩
      · simp at h
    · obtain ⟨h1, h2⟩ := mem_outs.1 hy
      unfold silB at h
      split at h
      · rename_i hc
        rw [Bool.and_eq_true, decide_eq_true_eq, eatB_fit] at hc
        exact .inr ⟨y, h1, h2, hc.1, hc.2, List.mem_singleton.1 h⟩
      · simp at h
  · rintro (⟨x, hx, h1, h2, h3, rfl⟩ | ⟨y, hy, h1, h2, h3, rfl⟩)
    · exact .inl ⟨x, mem_outs.2 ⟨hx, h1⟩, by rw [silA, if_pos (by rw [Bool.and_eq_true, decide_eq_true_eq, eatB_fit]; exact ⟨h2, h3⟩)]; simp⟩
    · exact .inr ⟨y, mem_outs.2 ⟨hy, h1⟩, by rw [silB, if_pos (by rw [Bool.and_eq_true, decide_eq_true_eq, eatB_fit]; exact ⟨h2, h3⟩)]; simp⟩
theorem mem_spkL {p i q j : Nat} {r : Int} : (r, d) ∈ spkL a b xs zs ⟨(p : Int), (i : Int), (q : Int), (j : Int)⟩ ↔ ∃ x ∈ a.arcs, ∃ y ∈ b.arcs, x.src = (p : Int) ∧ y.src = (q : Int) ∧ fitB xs (i : Int) x.inp = true ∧ fitB zs (j : Int) y.out = true ∧ x.out ≠ 0 ∧ y.inp = x.out ∧ r = x.out ∧ d = ⟨x.dst, eatK i x.inp, y.dst, eatK j y.out⟩ := by
  rw [spkL_of, List.mem_flatMap]
  constructor
  · rintro ⟨x, hx, h⟩
    obtain ⟨h1, h2⟩ := mem_outs.1 hx
    unfold spkA at h
    split at h
    · simp at h
    · rename_i hc
      simp only [Bool.or_eq_true, Bool.not_eq_true', not_or, Bool.not_eq_false, decide_eq_true_eq] at hc
      rw [eatB_fit] at hc
      obtain ⟨y, hy, h⟩ := List.mem_flatMap.1 h
      obtain ⟨h3, h4⟩ := mem_outs.1 hy
      unfold spkB at h
      split at h
      · rename_i hc2
        rw [Bool.and_eq_true, decide_eq_true_eq, eatB_fit] at hc2
        have := List.mem_singleton.1 h
        simp only [Prod.mk.injEq] at this
        exact ⟨x, h1, y, h3, h2, h4, hc.1, hc2.1, hc.2, hc2.2, this.1, this.2⟩
      · simp at h
  · rintro ⟨x, hx, y, hy, h1, h2, h3, h4, h5, h6, rfl, rfl⟩
    refine ⟨x, mem_outs.2 ⟨hx, h1⟩, ?_⟩
    rw [spkA, if_neg (by simp only [Bool.or_eq_true, Bool.not_eq_true', not_or, Bool.not_eq_false, decide_eq_true_eq, eatB_fit]; exact ⟨h3, h5⟩)]
    refine List.mem_flatMap.2 ⟨y, mem_outs.2 ⟨hy, h2⟩, ?_⟩
    rw [spkB, if_pos (by rw [Bool.and_eq_true, decide_eq_true_eq, eatB_fit]; exact ⟨h4, h6⟩)]
    simp
theorem arc_nat {t : Tra} {m : Nat} (ht : t.Ok m) {x : Arc} (hx : x ∈ t.arcs) : ∃ k : Nat, x.dst = (k : Int) := ⟨x.dst.toNat, by have := (ht.arcs x hx).2; omega⟩
theorem wlk_mid (ha : a.Ok m) (hb : b.Ok n) (h : Wlk (bnet a b xs zs) c w d) : ∀ {p i q j : Nat}, c = ⟨(p : Int), (i : Int), (q : Int), (j : Int)⟩ → i ≤ xs.length → j ≤ zs.length →
    ∃ (p' i' q' j' : Nat) (u v : List Int), d = ⟨(p' : Int), (i' : Int), (q' : Int), (j' : Int)⟩ ∧ i' ≤ xs.length ∧ j' ≤ zs.length ∧ xs.take i' = xs.take i ++ u ∧ zs.take j' = zs.take j ++ v ∧ Run a p u w p' ∧ Run b q w v q' := by
  induction h with
  | nil c => intro p i q j e hi hj; exact ⟨p, i, q, j, [], [], e, hi, hj, by simp, by simp, .nil _, .nil _⟩
  | sil h1 _ ih =>
    intro p i q j e hi hj
    subst e
    rcases mem_silL.1 h1 with ⟨x, hx, hs, hf, h0, rfl⟩ | ⟨y, hy, hs, hf, h0, rfl⟩
    · obtain ⟨k, e1, e2, e3⟩ := fit_take hf hi
      obtain ⟨p1, e4⟩ := arc_nat ha hx
      obtain ⟨p', i', q', j', u, v, g1, g2, g3, g4, g5, g6, g7⟩ := ih (p := p1) (i := k) (q := q) (j := j) (by rw [e1, e4]) e2 hj
      exact ⟨p', i', q', j', lab x.inp ++ u, v, g1, g2, g3, by rw [g4, e3, List.append_assoc], g5, .cons' hx hs (e4 ▸ g6) rfl (by rw [h0]; rfl), g7⟩
    · obtain ⟨k, e1, e2, e3⟩ := fit_take hf hj
      obtain ⟨q1, e4⟩ := arc_nat hb hy
      obtain ⟨p', i', q', j', u, v, g1, g2, g3, g4, g5, g6, g7⟩ := ih (p := p) (i := i) (q := q1) (j := k) (by rw [e1, e4]) hi e2
      exact ⟨p', i', q', j', u, lab y.out ++ v, g1, g2, g3, g4, by rw [g5, e3, List.append_assoc], g6, .cons' hy hs (e4 ▸ g7) (by rw [h0]; rfl) rfl⟩
  | spk h1 _ ih =>
    intro p i q j e hi hj
    subst e
    obtain ⟨x, hx, y, hy, hs, hs', hf, hf', h0, h3, rfl, rfl⟩ := mem_spkL.1 h1
    obtain ⟨k, e1, e2, e3⟩ := fit_take hf hi
    obtain ⟨l, e1', e2', e3'⟩ := fit_take hf' hj
    obtain ⟨p1, e4⟩ := arc_nat ha hx
    obtain ⟨q1, e4'⟩ := arc_nat hb hy
    obtain ⟨p', i', q', j', u, v, g1, g2, g3, g4, g5, g6, g7⟩ := ih (p := p1) (i := k) (q := q1) (j := l) (by rw [e1, e4, e1', e4']) e2 e2'
    exact ⟨p', i', q', j', lab x.inp ++ u, lab y.out ++ v, g1, g2, g3, by rw [g4, e3, List.append_assoc], by rw [g5, e3', List.append_assoc], .cons' hx hs (e4 ▸ g6) rfl (by rw [lab_ne h0]; rfl), .cons' hy hs' (e4' ▸ g7) (by rw [h3, lab_ne h0]; rfl) rfl⟩
theorem wlk_silB (hb : b.Ok n) {q q' : Int} {l v : List Int} (h : Run b q l v q') : l = [] → ∀ {p i j qn : Nat} {v' : List Int}, q = (qn : Int) → zs.drop j = v ++ v' → ∃ (j' q1 : Nat), q' = (q1 : Int) ∧ Wlk (bnet a b xs zs) ⟨(p : Int), (i : Int), q, (j : Int)⟩ [] ⟨(p : Int), (i : Int), q', (j' : Int)⟩ ∧ zs.drop j' = v' := by
  induction h with
  | nil q => intro _ p i j qn v' hq hz; exact ⟨j, qn, hq, .nil _, by simpa using hz⟩
  | @cons x us vs q'' hx _ ih =>
    intro hl p i j qn v' hq hz
    obtain ⟨h1, h2⟩ := List.append_eq_nil_iff.1 hl
    have h0 : x.inp = 0 := by
      apply Classical.byContradiction
      intro h0; rw [lab_ne h0] at h1; cases h1
    obtain ⟨f1, k, e1, e2⟩ := fit_drop hz
    obtain ⟨q1, e4⟩ := arc_nat hb hx
    obtain ⟨j', q2, g0, g1, g2⟩ := ih h2 (p := p) (i := i) (j := k) e4 e2
    refine ⟨j', q2, g0, .sil (d := ⟨(p : Int), (i : Int), x.dst, (k : Int)⟩) ?_ g1, g2⟩
    show _ ∈ silL a b xs zs _
    rw [hq]
    exact mem_silL.2 (.inr ⟨x, hx, hq, f1, h0, by rw [e1]⟩)
theorem mid_wlk (ha : a.Ok m) (hb : b.Ok n) {p p' : Int} {u w : List Int} (h : Run a p u w p') : ∀ {q q' : Int} {v : List Int} {pn i qn j : Nat} {u' v' : List Int}, Run b q w v q' → p = (pn : Int) → q = (qn : Int) → xs.drop i = u ++ u' → zs.drop j = v ++ v' →
    ∃ (i' j' : Nat), Wlk (bnet a b xs zs) ⟨p, (i : Int), q, (j : Int)⟩ w ⟨p', (i' : Int), q', (j' : Int)⟩ ∧ xs.drop i' = u' ∧ zs.drop j' = v' := by
  induction h with
  | nil p =>
    intro q q' v pn i qn j u' v' k hp hq hx hz
    subst hp
    obtain ⟨j', _, _, g1, g2⟩ := wlk_silB (a := a) (xs := xs) hb k rfl (p := pn) (i := i) hq hz
    exact ⟨i, j', g1, by simpa using hx, g2⟩
  | @cons x us vs p'' hx _ ih =>
    intro q q' v pn i qn j u' v' k hp hq hxs hzs
    obtain ⟨f1, i1, e1, e2⟩ := fit_drop hxs
    obtain ⟨p1, e4⟩ := arc_nat ha hx
    by_cases h0 : x.out = 0
    · rw [h0, lab_zero, List.nil_append] at k ⊢
      obtain ⟨i', j', g1, g2, g3⟩ := ih k e4 hq e2 hzs
      refine ⟨i', j', .sil (d := ⟨x.dst, (i1 : Int), q, (j : Int)⟩) ?_ g1, g2, g3⟩
      show _ ∈ silL a b xs zs _
      rw [hq, hp]
      exact mem_silL.2 (.inl ⟨x, hx, hp, f1, h0, by rw [e1]⟩)
    · rw [lab_ne h0, List.singleton_append] at k ⊢
      obtain ⟨z1, z2, y, hy, k1, k2, k3, k4⟩ := run_read k h0 rfl
      subst k4
      have hzs' : zs.drop j = z1 ++ (lab y.out ++ z2 ++ v') := by rw [hzs]; simp [List.append_assoc]
      obtain ⟨j1, q1, e5, g1, g2⟩ := wlk_silB (a := a) (xs := xs) hb k1 rfl (p := pn) (i := i) hq hzs'
      obtain ⟨f2, j2, e6, e7⟩ := fit_drop g2
      obtain ⟨q2, e8⟩ := arc_nat hb hy
      obtain ⟨i', j', g3, g4, g5⟩ := ih k3 e4 e8 e2 e7
      refine ⟨i', j', ?_, g4, g5⟩
      rw [hp]
      have step : Wlk (bnet a b xs zs) ⟨(pn : Int), (i : Int), y.src, (j1 : Int)⟩ (x.out :: vs) ⟨p'', (i' : Int), q', (j' : Int)⟩ := by
        refine .spk (d := ⟨x.dst, (i1 : Int), y.dst, (j2 : Int)⟩) ?_ g3
        show _ ∈ spkL a b xs zs _
        rw [e5]
        exact mem_spkL.2 ⟨x, hx, y, hy, hp, e5, f1, f2, h0, k2, rfl, by rw [e1, e6]⟩
      have := g1.trans step
      simpa using this
theorem acc_mid (ha : a.Ok m) (hb : b.Ok n) : Acc (bnet a b xs zs) ⟨a.start, 0, b.start, 0⟩ w ↔ Rel a xs w ∧ Rel b w zs := by
  have h1 := ha.start
  have h2 := hb.start
  constructor
  · rintro ⟨d, h, hd⟩
    obtain ⟨p', i', q', j', u, v, rfl, g2, g3, g4, g5, g6, g7⟩ := wlk_mid ha hb h (p := a.start.toNat) (i := 0) (q := b.start.toNat) (j := 0) (by rw [Int.toNat_of_nonneg (by omega), Int.toNat_of_nonneg (by omega)]; rfl) (by omega) (by omega)
    change doneB a b xs zs _ = true at hd
    simp only [doneB, Bool.and_eq_true, decide_eq_true_eq] at hd
    obtain ⟨⟨⟨k1, k2⟩, k3⟩, k4⟩ := hd
    have e1 : i' = xs.length := by omega
    have e2 : j' = zs.length := by omega
    subst e1 e2
    rw [List.take_length, List.take_zero, List.nil_append] at g4 g5
    subst g4 g5
    rw [Int.toNat_of_nonneg (by omega)] at g6 g7
    exact ⟨⟨_, k3, g6⟩, ⟨_, k4, g7⟩⟩
  · rintro ⟨⟨f, hf, r1⟩, ⟨g, hg, r2⟩⟩
    obtain ⟨i', j', g1, g2, g3⟩ := mid_wlk (xs := xs) (zs := zs) ha hb r1 (i := 0) (j := 0) (u' := []) (v' := []) r2 (Int.toNat_of_nonneg (by omega)).symm (Int.toNat_of_nonneg (by omega)).symm (by simp) (by simp)
    obtain ⟨p'', i'', q'', j'', u, v, e, l2, l3, _⟩ := wlk_mid ha hb g1 (p := a.start.toNat) (i := 0) (q := b.start.toNat) (j := 0) (by rw [Int.toNat_of_nonneg (by omega), Int.toNat_of_nonneg (by omega)]) (by omega) (by omega)
    simp only [Config.mk.injEq] at e
    have e1 : xs.length ≤ i' := by simpa using g2
    have e2 : zs.length ≤ j' := by simpa using g3
    refine ⟨_, g1, ?_⟩
    show doneB a b xs zs _ = true
    simp only [doneB, Bool.and_eq_true, decide_eq_true_eq]
    exact ⟨⟨⟨by omega, by omega⟩, hf⟩, hg⟩
/-! ### levels that end -/
theorem nx_last {N : Net Config} {L : Nat} {p : List Int × List Config} (hp : p.1.length = L) : Nx N s L p [] := by
  refine ⟨fun _ => rfl, fun _ => ⟨by simp, by simp, by simp, fun r c h => ?_, by simp⟩⟩
  obtain ⟨_, w, _, hw⟩ := h
  rw [List.length_append, List.length_singleton] at hw
  omega
theorem sr_dry {N : Net Config} {L n : Nat} {out W : List (List Int)} (h : Sr N s n L [] out) (hW : Wds N s n W) : out = W := by
  rcases h with ⟨hl, hO⟩ | ⟨⟨_, hd⟩, rfl⟩
  · exact hO.dry hl hW
  · cases W with
    | nil => rfl
    | cons w W => have := (hW.mem w).1 (by simp); exact absurd this.2 (hd w this.1)
theorem sr_big {N : Net Config} {L n : Nat} {ps : List (List Int × List Config)} {out W : List (List Int)} (h : Sr N s n L ps out) (hW : Wds N s n W) (hp : ∀ p ∈ ps, p.2 ≠ []) : ps.length ≤ W.length := by
  rcases h with ⟨hl, _⟩ | ⟨⟨hd, _⟩, _⟩
  · exact hl.le hW
  · cases ps with
    | nil => simp
    | cons p ps => exact absurd (hd p (by simp)) (hp p (by simp))
theorem sr_zeroE {dist : List (Config × Int)} {n : Nat} (hd : DistOk (bnet a b xs zs) s dist) {cs : List Config} (h : ∀ c, c ∈ cs ↔ Clo (bnet a b xs zs) dist n [s] c) : Sr (bnet a b xs zs) s n 0 [([], cs)] [] := by
  cases cs with
  | nil => exact .inr ⟨⟨fun p hp => by rw [List.mem_singleton.1 hp], fun w hw => lev_none hd (fun c hc => by have := (h c).2 hc; simp at this) hw⟩, rfl⟩
  | cons c cs => exact .inl ⟨lev_zero hd h (by simp), out_zero⟩
theorem far_mu2 {U D D' A q q' k : Nat} (hroom : D + 1 ≤ U) (hp : D' = D + 1) (hl : q' + 1 ≤ q + k) (hk : k ≤ A) (hq : 1 ≤ q) : (U - D') * (A + 1) + q' < (U - D) * (A + 1) + q := by
  obtain ⟨E, hE⟩ : ∃ E, U - D = E + 1 := ⟨U - D - 1, by omega⟩
  have e : U - D' = E := by omega
  rw [hE, e, Nat.add_mul, Nat.one_mul]
  omega
/-! ### the closure add -/
def addQ (l : List (Config × Bool)) (qs : List Config) (d : Config) : List Config := if (aget l d).getD false = true then qs else qs ++ [d]
def addK (l : List (Config × Bool)) (d : Config) : List (Config × Bool) := if (aget l d).getD false = true then l else aput l d true
theorem addQ_old {l : List (Config × Bool)} {qs : List Config} (h : (aget l d).getD false = true) : addQ l qs d = qs := if_pos h
theorem addQ_new {l : List (Config × Bool)} {qs : List Config} (h : (aget l d).getD false = false) : addQ l qs d = qs ++ [d] := if_neg (by rw [h]; decide)
theorem addK_old {l : List (Config × Bool)} (h : (aget l d).getD false = true) : addK l d = l := if_pos h
theorem addK_new {l : List (Config × Bool)} (h : (aget l d).getD false = false) : addK l d = aput l d true := if_neg (by rw [h]; decide)
section
variable {N : Config → List Config} {P : Config → Prop} {qs ds : List Config} {l : List (Config × Bool)}
theorem addK_tr {K : List Config} (hl : l = tr (K ++ qs)) : addK l d = tr (K ++ addQ l qs d) := by
  have e := aget_tr (K ++ qs) d
  by_cases h : d ∈ K ++ qs
  · rw [decide_eq_true h] at e
    rw [addK_old (by rw [hl]; exact e), addQ_old (by rw [hl]; exact e), hl]
  · rw [decide_eq_false h] at e
    rw [addK_new (by rw [hl]; exact e), addQ_new (by rw [hl]; exact e), hl, aput_tr h, List.append_assoc]
theorem add_bfs (h : BfsIn N P vs c ds qs) (hl : l = tr (vs ++ c :: qs)) (hd : d ∈ N c) : BfsIn N P vs c (ds ++ [d]) (addQ l qs d) := by
  have e := aget_tr (vs ++ c :: qs) d
  by_cases hk : d ∈ vs ++ c :: qs
  · rw [decide_eq_true hk] at e
    rw [addQ_old (by rw [hl]; exact e)]
    exact h.known hk
  · rw [decide_eq_false hk] at e
    rw [addQ_new (by rw [hl]; exact e)]
    exact h.push hk hd
theorem addQ_len (l : List (Config × Bool)) (qs : List Config) (d : Config) : (addQ l qs d).length ≤ qs.length + 1 := by
  unfold addQ; split <;> simp
end
/-! ### what Middle answers -/
def MidOut (a b : Tra) (x z : ByteArray) (n : Int) (out : List ByteArray) (e : Int) : Prop :=
  ((n < 0 ∨ 40 < n) → out = [] ∧ e = 1) ∧ (¬ (n < 0 ∨ 40 < n) → (btwE a b x z ≠ 0 → out = [] ∧ e = btwE a b x z) ∧
    (btwE a b x z = 0 → ∀ W, Wds (bnet a b (runesL x) (runesL z)) ⟨a.start, 0, b.start, 0⟩ n.toNat W → (W.length ≤ 256 → out = W.map strL ∧ e = 0) ∧ (256 < W.length → out = [] ∧ e = 2)))
theorem rect_few {m n lx lz : Nat} (hm : m ≤ 5) (hn : n ≤ 5) (hx : lx ≤ 40) (hz : lz ≤ 40) : (rect4 m lx n lz).length ≤ 42025 := by
  rw [rect4_len]
  exact Nat.mul_le_mul hm (Nat.mul_le_mul (show lx + 1 ≤ 41 by omega) (Nat.mul_le_mul hn (show lz + 1 ≤ 41 by omega)))
/-! ### what next gathers -/
structure Gs (g : List (Int × List Config)) (ls : List (Int × Config)) : Prop where
  nd : (gk g).Nodup
  keys : ∀ r, r ∈ gk g ↔ ∃ d, (r, d) ∈ ls
  mem : ∀ r d, d ∈ (aget g r).getD [] ↔ (r, d) ∈ ls
  len : ∀ r, ((aget g r).getD []).length ≤ ls.length
theorem Gs.init : Gs [] [] := ⟨by simp [gk], by simp [gk], by simp [aget], by simp [aget]⟩
theorem Gs.add {g : List (Int × List Config)} {ls : List (Int × Config)} {r : Int} {L : List Config} (h : Gs g ls) (hL : L ≠ []) : Gs (aput g r ((aget g r).getD [] ++ L)) (ls ++ L.map fun d => (r, d)) := by
  refine ⟨nodup_aput h.nd _ _, fun k => ?_, fun k d => ?_, fun k => ?_⟩
  · have hk : k ∈ gk (aput g r ((aget g r).getD [] ++ L)) ↔ k ∈ gk g ∨ k = r := by
      unfold gk; rw [keys_aput]
      split
      · rename_i h1; exact ⟨.inl, fun h2 => h2.elim id fun e => e ▸ h1⟩
      · rw [List.mem_append, List.mem_singleton]
    rw [hk, h.keys]
    constructor
    · rintro (⟨d, hd⟩ | rfl)
      · exact ⟨d, List.mem_append_left _ hd⟩
      · obtain ⟨d, hd⟩ := List.exists_mem_of_ne_nil L hL
        exact ⟨d, List.mem_append_right _ (List.mem_map.2 ⟨d, hd, rfl⟩)⟩
    · rintro ⟨d, hd⟩
      rcases List.mem_append.1 hd with hd | hd
      · exact .inl ⟨d, hd⟩
      · obtain ⟨d', _, e⟩ := List.mem_map.1 hd
        exact .inr (congrArg Prod.fst e).symm
  · rw [aget_aput, List.mem_append, List.mem_map]
    split
    · rename_i e; subst e
      rw [Option.getD_some, List.mem_append, h.mem]
      constructor
      · rintro (h1 | h1)
        · exact .inl h1
        · exact .inr ⟨d, h1, rfl⟩
      · rintro (h1 | ⟨d', h1, e⟩)
        · exact .inl h1
        · cases e; exact .inr h1
    · rename_i e
      rw [h.mem]
      constructor
      · exact .inl
      · rintro (h1 | ⟨d', _, e2⟩)
        · exact h1
        · exact absurd (congrArg Prod.fst e2) e
  · rw [aget_aput, List.length_append, List.length_map]
    split
    · rename_i e; subst e
      rw [Option.getD_some, List.length_append]
      have := h.len r; omega
    · have := h.len k; omega
def extC (Kf : Int → List Config) (x : Int) (K : List Config) : Int → List Config := fun z => if z = x then K else Kf z
def qsC (txt : List Int) (l : List Int) (Kf : Int → List Config) : List (List Int × List Config) := (l.filter fun r => !(Kf r).isEmpty).map fun r => (txt ++ [r], Kf r)
theorem qsC_ext {txt l : List Int} {Kf : Int → List Config} {x : Int} {K : List Config} (hx : x ∉ l) : qsC txt l (extC Kf x K) = qsC txt l Kf := by
  have e : ∀ r ∈ l, extC Kf x K r = Kf r := fun r hr => if_neg (fun e : r = x => hx (e ▸ hr))
  unfold qsC
  rw [show (l.filter fun r => !(extC Kf x K r).isEmpty) = l.filter fun r => !(Kf r).isEmpty from List.filter_congr fun r hr => by rw [e r hr]]
  exact List.map_congr_left fun r hr => by rw [e r (List.mem_filter.1 hr).1]
theorem qsC_yes {txt l : List Int} {Kf : Int → List Config} {x : Int} {K : List Config} (hx : x ∉ l) (hK : 0 < K.length) : qsC txt (l ++ [x]) (extC Kf x K) = qsC txt l Kf ++ [(txt ++ [x], K)] := by
  have h1 : extC Kf x K x = K := if_pos rfl
  have h2 : (!(K.isEmpty)) = true := by cases K with | nil => simp at hK | cons => rfl
  have : qsC txt (l ++ [x]) (extC Kf x K) = qsC txt l (extC Kf x K) ++ [(txt ++ [x], K)] := by simp [qsC, h1, h2]
  rw [this, qsC_ext hx]
theorem qsC_no {txt l : List Int} {Kf : Int → List Config} {x : Int} {K : List Config} (hx : x ∉ l) (hK : ¬ 0 < K.length) : qsC txt (l ++ [x]) (extC Kf x K) = qsC txt l Kf := by
  have h1 : extC Kf x K x = K := if_pos rfl
  have h2 : K.isEmpty = true := by cases K with | nil => rfl | cons => simp at hK
  have : qsC txt (l ++ [x]) (extC Kf x K) = qsC txt l (extC Kf x K) := by simp [qsC, h1, h2]
  rw [this, qsC_ext hx]
theorem qsC_len {txt ys : List Int} {k : Nat} {Kf : Int → List Config} : (qsC txt (ys.take k) Kf).length ≤ ys.length := by
  rw [qsC, List.length_map]
  exact Nat.le_trans (List.length_filter_le _ _) (by rw [List.length_take]; omega)
end
theorem gs_step {dn : List (Int × SV)} {p : Int × SV} {ls ls2 : List (Int × Config)} {f : Int × SV → List Config} (h : ∀ r d, (r, d) ∈ ls2 ↔ (r, d) ∈ ls ∨ ∃ q ∈ dn, q.1 = r ∧ d ∈ f q) : ∀ r d, (r, d) ∈ ls2 ++ (f p).map (fun d_ => (p.1, d_)) ↔ (r, d) ∈ ls ∨ ∃ q ∈ dn ++ [p], q.1 = r ∧ d ∈ f q := fun r d => by
  rw [List.mem_append, h, List.mem_map]
  constructor
  · rintro ((h1 | ⟨q, hq, h2⟩) | ⟨d', hd, e⟩)
    · exact .inl h1
    · exact .inr ⟨q, List.mem_append_left _ hq, h2⟩
    · cases e; exact .inr ⟨p, by simp, rfl, hd⟩
  · rintro (h1 | ⟨q, hq, h2, h3⟩)
    · exact .inl (.inl h1)
    · rcases List.mem_append.1 hq with hq | hq
      · exact .inl (.inr ⟨q, hq, h2, h3⟩)
      · rw [List.mem_singleton.1 hq] at h2 h3; exact .inr ⟨d, h3, by rw [h2]⟩
theorem gs_ne {ls : List (Int × Config)} {lm : List (Int × SV)} (hlk : lm.map (·.1) = gk (grp (fun e : Int × Config => e.1) (fun e : Int × Config => e.2) ls)) {p : Int × SV} (hp : p ∈ lm) : (aget (grp (fun e : Int × Config => e.1) (fun e : Int × Config => e.2) ls) p.1).getD [] ≠ [] := by
  have : p.1 ∈ lm.map (·.1) := List.mem_map.2 ⟨p, hp, rfl⟩
  rw [hlk, mem_gk_grp] at this
  obtain ⟨e, he, h1⟩ := this
  intro h
  rw [grp_look] at h
  have : e.2 ∈ (ls.filter fun e => e.1 = p.1).map fun e => e.2 := List.mem_map.2 ⟨e, List.mem_filter.2 ⟨he, by simpa using h1⟩, rfl⟩
  rw [h] at this; simp at this
theorem gs_all {ls : List (Int × Config)} {lm dn : List (Int × SV)} (hlk : lm.map (·.1) = gk (grp (fun e : Int × Config => e.1) (fun e : Int × Config => e.2) ls)) (hp : dn.Perm lm) (r : Int) (d : Config) : (∃ p ∈ dn, p.1 = r ∧ d ∈ (aget (grp (fun e : Int × Config => e.1) (fun e : Int × Config => e.2) ls) p.1).getD []) ↔ (r, d) ∈ ls := by
  simp only [grp_look, List.mem_map, List.mem_filter, decide_eq_true_eq]
  constructor
  · rintro ⟨p, _, rfl, e, ⟨he, h1⟩, rfl⟩; rw [← h1]; exact he
  · intro h
    have : r ∈ lm.map (·.1) := by rw [hlk]; exact (mem_gk_grp _ _ _ _).2 ⟨(r, d), h, rfl⟩
    obtain ⟨p, hp', h2⟩ := List.mem_map.1 this
    exact ⟨p, hp.mem_iff.2 hp', h2, (r, d), ⟨h, h2.symm⟩, rfl⟩
section
variable {a b : Tra} {xs zs : List Int}
theorem spk_arc {c d : Config} {r : Int} (h : (r, d) ∈ spkL a b xs zs c) : ∃ x ∈ a.arcs, x.out = r := by
  obtain ⟨x, hx, he⟩ := List.mem_flatMap.1 h
  unfold spkA at he
  split at he
  · simp at he
  · obtain ⟨y, hy, he⟩ := List.mem_flatMap.1 he
    unfold spkB at he
    split at he
    · exact ⟨x, (mem_outs.1 hx).1, (congrArg Prod.fst (List.mem_singleton.1 he)).symm⟩
    · simp at he
theorem keys_few {ks : List Int} (hn : ks.Nodup) (h : ∀ r ∈ ks, ∃ x ∈ a.arcs, x.out = r) (ha : a.arcs.length ≤ 12) : ks.length ≤ 12 := by
  have := hn.length_le_of_subset (l₂ := a.arcs.map (·.out)) fun r hr => by
    obtain ⟨x, hx, e⟩ := h r hr
    exact List.mem_map.2 ⟨x, hx, e⟩
  rw [List.length_map] at this; omega
theorem nx_mid {s : Config} {n : Nat} {k : Int} {dist : List (Config × Int)} (hd : DistOk (bnet a b xs zs) s dist) {q : List Int × List Config} {ys : List Int} {fr Kf : Int → List Config} (hk : k = (n : Int) - ((q.1.length : Int) + 1))
    (h : ys.Pairwise (· < ·) ∧ (∀ r, r ∈ ys ↔ ∃ c ∈ q.2, ∃ d, (r, d) ∈ spkL a b xs zs c) ∧ (∀ r d, d ∈ fr r ↔ ∃ c ∈ q.2, (r, d) ∈ spkL a b xs zs c) ∧ ∀ r ∈ ys, ∀ c, c ∈ Kf r ↔ Clo (bnet a b xs zs) dist k (fr r) c) : Nx (bnet a b xs zs) s n q (qsC q.1 ys Kf) := by
  subst hk
  refine ⟨fun e => ?_, fun hset => nxt_of hd hset h.1 h.2.1 h.2.2.1 h.2.2.2⟩
  have : ys = [] := List.eq_nil_iff_forall_not_mem.2 fun r hr => by
    obtain ⟨c, hc, _⟩ := (h.2.1 r).1 hr
    rw [e] at hc; simp at hc
  rw [this]; rfl
variable {x z : ByteArray} {nI : Int}
theorem mid_bad (h : (decide (nI < 0) || decide (40 < nI)) = true) : MidOut a b x z nI [] 1 := by
  rw [Bool.or_eq_true, decide_eq_true_eq, decide_eq_true_eq] at h
  exact ⟨fun _ => ⟨rfl, rfl⟩, fun k => absurd h k⟩
theorem mid_err (h : (decide (nI < 0) || decide (40 < nI)) = false) (he : btwE a b x z ≠ 0) : MidOut a b x z nI [] (btwE a b x z) := by
  rw [Bool.or_eq_false_iff, decide_eq_false_iff_not, decide_eq_false_iff_not] at h
  exact ⟨fun k => absurd k (by omega), fun _ => ⟨fun _ => ⟨rfl, rfl⟩, fun k => absurd k he⟩⟩
theorem mid_big (h : (decide (nI < 0) || decide (40 < nI)) = false) (h0 : btwE a b x z = 0) (hW : ∀ W, Wds (bnet a b (runesL x) (runesL z)) ⟨a.start, 0, b.start, 0⟩ nI.toNat W → 256 < W.length) : MidOut a b x z nI [] 2 := by
  rw [Bool.or_eq_false_iff, decide_eq_false_iff_not, decide_eq_false_iff_not] at h
  exact ⟨fun k => absurd k (by omega), fun _ => ⟨fun k => absurd h0 k, fun _ W hw => ⟨fun k => absurd (hW W hw) (by omega), fun _ => ⟨rfl, rfl⟩⟩⟩⟩
theorem mid_ok {o : List (List Int)} (h : (decide (nI < 0) || decide (40 < nI)) = false) (h0 : btwE a b x z = 0) (ho : o.length ≤ 256) (hW : ∀ W, Wds (bnet a b (runesL x) (runesL z)) ⟨a.start, 0, b.start, 0⟩ nI.toNat W → o = W) : MidOut a b x z nI (o.map strL) 0 := by
  rw [Bool.or_eq_false_iff, decide_eq_false_iff_not, decide_eq_false_iff_not] at h
  exact ⟨fun k => absurd k (by omega), fun _ => ⟨fun k => absurd h0 k, fun _ W hw => ⟨fun _ => ⟨by rw [hW W hw], rfl⟩, fun k => absurd (hW W hw ▸ ho) (by omega)⟩⟩⟩
end
end Go.Proofs.YtmjieefhjmiagaaGreatDoor.G
