/- A search by levels: the words of a net, in shortlex order. Plain Lean. -/
/- Distances: the search from the ends in layers; silent closures by a queue. Plain Lean. -/
/- The steps of a transducer along a word: moves, and the net of what is written. Plain Lean. -/
import Derived.Test.YtfepjcmjkaolgaaGRls
set_option linter.all false
namespace Go.Proofs.Ytfepjcmjkaolgaa.G
open Go Go.RowKit
/-! ### orders -/
def lexL : List Int → List Int → Prop
  | [], [] => False
  | [], _ :: _ => True
  | _ :: _, [] => False
  | a :: u, b :: v => a < b ∨ (a = b ∧ lexL u v)
theorem lexL_irrefl : ∀ {u : List Int}, ¬ lexL u u
  | [] => id
  | a :: u => by
    rintro (h | ⟨_, h⟩)
    · omega
    · exact lexL_irrefl h
theorem lexL_trans : ∀ {u v w : List Int}, lexL u v → lexL v w → lexL u w
  | [], [], _, h, _ => h.elim
  | [], _ :: _, [], _, h => h.elim
  | [], _ :: _, _ :: _, _, _ => trivial
  | _ :: _, [], _, h, _ => h.elim
  | _ :: _, _ :: _, [], _, h => h.elim
  | a :: u, b :: v, c :: w, h, k => by
    rcases h with h | ⟨h1, h2⟩ <;> rcases k with k | ⟨k1, k2⟩
    · exact .inl (by omega)
    · exact .inl (by omega)
    · exact .inl (by omega)
    · exact .inr ⟨by omega, lexL_trans h2 k2⟩
theorem lexL_snoc : ∀ {u v : List Int} (a b : Int), u.length = v.length → lexL u v → lexL (u ++ [a]) (v ++ [b])
  | [], [], _, _, _, h => h.elim
  | [], _ :: _, _, _, hl, _ => by simp at hl
  | _ :: _, [], _, _, _, h => h.elim
  | x :: u, y :: v, a, b, hl, h => by
    rcases h with h | ⟨h1, h2⟩
    · exact .inl h
    · exact .inr ⟨h1, lexL_snoc a b (by simpa using hl) h2⟩
theorem lexL_last : ∀ (u : List Int) {a b : Int}, a < b → lexL (u ++ [a]) (u ++ [b])
  | [], _, _, h => .inl h
  | x :: u, _, _, h => .inr ⟨rfl, lexL_last u h⟩
/-- Shortlex order. -/
def slx (u v : List Int) : Prop := u.length < v.length ∨ (u.length = v.length ∧ lexL u v)
theorem slx_irrefl {u : List Int} : ¬ slx u u := by
  rintro (h | ⟨_, h⟩)
  · omega
  · exact lexL_irrefl h
theorem slx_trans {u v w : List Int} (h : slx u v) (k : slx v w) : slx u w := by
  rcases h with h | ⟨h1, h2⟩ <;> rcases k with k | ⟨k1, k2⟩
  · exact .inl (by omega)
  · exact .inl (by omega)
  · exact .inl (by omega)
  · exact .inr ⟨by omega, lexL_trans h2 k2⟩
theorem slx_nd {l : List (List Int)} (h : l.Pairwise slx) : l.Nodup := by
  unfold List.Nodup
  exact h.imp fun {a b} (k : slx a b) (e : a = b) => slx_irrefl (e ▸ k)
theorem lexL_nd {l : List (List Int)} (h : l.Pairwise lexL) : l.Nodup := by
  unfold List.Nodup
  exact h.imp fun {a b} (k : lexL a b) (e : a = b) => lexL_irrefl (e ▸ k)
theorem slx_ext : ∀ {l m : List (List Int)}, l.Pairwise slx → m.Pairwise slx → (∀ w, w ∈ l ↔ w ∈ m) → l = m := fun {l m} hl hm h =>
  ((List.perm_ext_iff_of_nodup (slx_nd hl) (slx_nd hm)).2 h).eq_of_pairwise (fun a b _ _ x y => absurd (slx_trans x y) slx_irrefl) hl hm
/-! ### nets -/
structure Net (C : Type) where
  sil : C → List C
  spk : C → List (Int × C)
  dn : C → Bool
section
variable {C : Type} {N : Net C} {s c d e : C} {u v w : List Int} {n L : Nat}
inductive Wlk (N : Net C) : C → List Int → C → Prop
  | nil (c : C) : Wlk N c [] c
  | sil {c d e : C} {w : List Int} : d ∈ N.sil c → Wlk N d w e → Wlk N c w e
  | spk {c d e : C} {r : Int} {w : List Int} : (r, d) ∈ N.spk c → Wlk N d w e → Wlk N c (r :: w) e
theorem Wlk.trans (h : Wlk N c u d) (k : Wlk N d v e) : Wlk N c (u ++ v) e := by
  induction h with
  | nil => exact k
  | sil h1 _ ih => exact .sil h1 (ih k)
  | spk h1 _ ih => exact .spk h1 (ih k)
theorem Wlk.split' (h : Wlk N c w e) : ∀ {u v : List Int}, w = u ++ v → ∃ d, Wlk N c u d ∧ Wlk N d v e := by
  induction h with
  | nil c =>
    intro u v hw
    obtain ⟨rfl, rfl⟩ := List.append_eq_nil_iff.1 hw.symm
    exact ⟨c, .nil c, .nil c⟩
  | sil h1 _ ih =>
    intro u v hw
    obtain ⟨d, k1, k2⟩ := ih hw
    exact ⟨d, .sil h1 k1, k2⟩
  | @spk c d e r w h1 h2 ih =>
    intro u v hw
    cases u with
    | nil => rw [List.nil_append] at hw; subst hw; exact ⟨c, .nil c, .spk h1 h2⟩
    | cons a u =>
      rw [List.cons_append] at hw
      obtain ⟨e1, e2⟩ := List.cons.inj hw
      subst e1
      obtain ⟨d', k1, k2⟩ := ih e2
      exact ⟨d', .spk h1 k1, k2⟩
theorem Wlk.split (h : Wlk N c (u ++ v) e) : ∃ d, Wlk N c u d ∧ Wlk N d v e := h.split' rfl
theorem Wlk.one' (h : Wlk N c w e) : ∀ {r : Int}, w = [r] → ∃ c1 d, Wlk N c [] c1 ∧ (r, d) ∈ N.spk c1 ∧ Wlk N d [] e := by
  induction h with
  | nil => intro r h; cases h
  | sil h1 _ ih =>
    intro r h
    obtain ⟨c1, d, k1, k2, k3⟩ := ih h
    exact ⟨c1, d, .sil h1 k1, k2, k3⟩
  | spk h1 h2 _ =>
    intro r h
    obtain ⟨rfl, rfl⟩ := List.cons.inj h
    exact ⟨_, _, .nil _, h1, h2⟩
theorem Wlk.one {r : Int} (h : Wlk N c [r] e) : ∃ c1 d, Wlk N c [] c1 ∧ (r, d) ∈ N.spk c1 ∧ Wlk N d [] e := h.one' rfl
def Acc (N : Net C) (c : C) (w : List Int) : Prop := ∃ d, Wlk N c w d ∧ N.dn d = true
def Live (N : Net C) (s : C) (n : Nat) (u : List Int) (c : C) : Prop := Wlk N s u c ∧ ∃ w, Acc N c w ∧ u.length + w.length ≤ n
theorem Live.acc (h : Live N s n u c) : ∃ w, Acc N s (u ++ w) ∧ (u ++ w).length ≤ n := by
  obtain ⟨h1, w, ⟨d, h2, h3⟩, h4⟩ := h
  exact ⟨w, ⟨d, h1.trans h2, h3⟩, by rw [List.length_append]; exact h4⟩
theorem live_of (h : Acc N s (u ++ w)) (hn : (u ++ w).length ≤ n) : ∃ c, Live N s n u c := by
  obtain ⟨d, h1, h2⟩ := h
  obtain ⟨c, k1, k2⟩ := h1.split
  exact ⟨c, k1, w, ⟨d, k2, h2⟩, by rw [List.length_append] at hn; exact hn⟩
/-! ### distances -/
variable [DecidableEq C]
def okD (dist : List (C × Int)) (c : C) (k : Int) : Bool := match aget dist c with
  | none => false
  | some d => decide (d ≤ k)
/-- What a table of distances says of what the start reaches. -/
def DistOk (N : Net C) (s : C) (dist : List (C × Int)) : Prop := ∀ c, (∃ u, Wlk N s u c) → ∀ k : Int, okD dist c k = true ↔ ∃ w, Acc N c w ∧ (w.length : Int) ≤ k
/-- The silent closure within a distance. -/
def Clo (N : Net C) (dist : List (C × Int)) (k : Int) (fr : List C) (c : C) : Prop := Reach (fun c => (N.sil c).filter fun d => okD dist d k) (fun c => c ∈ fr ∧ okD dist c k = true) c
theorem clo_ok {dist : List (C × Int)} {k : Int} {fr : List C} (h : Clo N dist k fr c) : okD dist c k = true := by
  cases h with
  | base h => exact h.2
  | tail _ h => exact (List.mem_filter.1 h).2
theorem clo_wlk {dist : List (C × Int)} {k : Int} {fr : List C} (h : Clo N dist k fr c) : ∃ c0 ∈ fr, Wlk N c0 [] c := by
  induction h with
  | base h => exact ⟨_, h.1, .nil _⟩
  | tail _ hy ih =>
    obtain ⟨c0, h0, h1⟩ := ih
    have := h1.trans (.sil (List.mem_filter.1 hy).1 (.nil _))
    exact ⟨c0, h0, by simpa using this⟩
theorem wlk_clo {dist : List (C × Int)} {k : Int} {fr : List C} (hd : DistOk N s dist) (h : Wlk N c w e) : w = [] → (∃ u, Wlk N s u c) → (∃ w', Acc N e w' ∧ (w'.length : Int) ≤ k) → (c ∈ fr ∨ ∃ b, Clo N dist k fr b ∧ c ∈ N.sil b) → Clo N dist k fr e := by
  have fin : ∀ {c}, (∃ u, Wlk N s u c) → (∃ w', Acc N c w' ∧ (w'.length : Int) ≤ k) → (c ∈ fr ∨ ∃ b, Clo N dist k fr b ∧ c ∈ N.sil b) → Clo N dist k fr c := fun {c} hr ha hf => by
    have hok := (hd c hr k).2 ha
    rcases hf with hf | ⟨b, hb, hs⟩
    · exact .base ⟨hf, hok⟩
    · exact .tail hb (List.mem_filter.2 ⟨hs, hok⟩)
  induction h with
  | nil => intro _ hr ha hf; exact fin hr ha hf
  | @sil c d e w h1 h2 ih =>
    intro hw hr ha hf
    subst hw
    obtain ⟨u, hu⟩ := hr
    obtain ⟨w', ⟨f, a1, a2⟩, a3⟩ := ha
    have hc : Clo N dist k fr c := fin ⟨u, hu⟩ ⟨w', ⟨f, by have := (Wlk.sil h1 h2).trans a1; simpa using this, a2⟩, a3⟩ hf
    exact ih rfl ⟨u, by have := hu.trans (.sil h1 (.nil d)); simpa using this⟩ ⟨w', ⟨f, a1, a2⟩, a3⟩ (.inr ⟨c, hc, h1⟩)
  | spk => intro hw; cases hw
theorem clo_iff {dist : List (C × Int)} {k : Int} {fr : List C} (hd : DistOk N s dist) (hf : ∀ c ∈ fr, ∃ u, Wlk N s u c) : Clo N dist k fr c ↔ (∃ c0 ∈ fr, Wlk N c0 [] c) ∧ ∃ w, Acc N c w ∧ (w.length : Int) ≤ k := by
  constructor
  · intro h
    obtain ⟨c0, h0, h1⟩ := clo_wlk h
    obtain ⟨u, hu⟩ := hf c0 h0
    exact ⟨⟨c0, h0, h1⟩, (hd c ⟨_, hu.trans h1⟩ k).1 (clo_ok h)⟩
  · rintro ⟨⟨c0, h0, h1⟩, ha⟩
    exact wlk_clo hd h1 rfl (hf c0 h0) ha (.inl h0)
/-! ### levels -/
/-- A level: the prefixes of one length that lead to a word, in order, each with what it leads to. -/
structure Lev (N : Net C) (s : C) (n L : Nat) (ps : List (List Int × List C)) : Prop where
  sorted : (ps.map (·.1)).Pairwise lexL
  len : ∀ p ∈ ps, p.1.length = L
  set : ∀ p ∈ ps, ∀ c, c ∈ p.2 ↔ Live N s n p.1 c
  mem : ∀ u, u.length = L → (∃ c, Live N s n u c) → ∃ p ∈ ps, p.1 = u
  ne : ∀ p ∈ ps, ∃ c, c ∈ p.2
/-- The longer prefixes of one prefix. -/
structure Nxt (N : Net C) (s : C) (n : Nat) (u : List Int) (qs : List (List Int × List C)) : Prop where
  pre : ∀ q ∈ qs, ∃ r, q.1 = u ++ [r]
  sorted : (qs.map (·.1)).Pairwise lexL
  set : ∀ q ∈ qs, ∀ c, c ∈ q.2 ↔ Live N s n q.1 c
  mem : ∀ r c, Live N s n (u ++ [r]) c → ∃ q ∈ qs, q.1 = u ++ [r]
  ne : ∀ q ∈ qs, ∃ c, c ∈ q.2
theorem Lev.next {ps : List (List Int × List C)} {f : List Int × List C → List (List Int × List C)} (h : Lev N s n L ps) (hf : ∀ p ∈ ps, Nxt N s n p.1 (f p)) : Lev N s n (L + 1) (ps.flatMap f) := by
  refine ⟨?_, fun q hq => ?_, fun q hq => ?_, fun u hu hl => ?_, fun q hq => ?_⟩
  · rw [List.map_flatMap, List.pairwise_flatMap]
    refine ⟨fun p hp => (hf p hp).sorted, ?_⟩
    have hs := h.sorted
    rw [List.pairwise_map] at hs
    refine hs.imp_of_mem fun {a b} ha hb hab x hx y hy => ?_
    obtain ⟨q, hq, rfl⟩ := List.mem_map.1 hx
    obtain ⟨q', hq', rfl⟩ := List.mem_map.1 hy
    obtain ⟨r, e⟩ := (hf a ha).pre q hq
    obtain ⟨r', e'⟩ := (hf b hb).pre q' hq'
    rw [e, e']
    exact lexL_snoc r r' (by rw [h.len a ha, h.len b hb]) hab
  · obtain ⟨p, hp, hq⟩ := List.mem_flatMap.1 hq
    obtain ⟨r, e⟩ := (hf p hp).pre q hq
    rw [e, List.length_append, h.len p hp]; rfl
  · obtain ⟨p, hp, hq⟩ := List.mem_flatMap.1 hq
    exact (hf p hp).set q hq
  · obtain ⟨c, hc⟩ := hl
    have hne : u ≠ [] := by intro e; subst e; simp at hu
    have hu' := (List.dropLast_concat_getLast hne)
    rw [← hu'] at hc ⊢
    obtain ⟨w, ha, hn⟩ := hc.acc
    rw [List.append_assoc] at ha hn
    obtain ⟨p, hp, e⟩ := h.mem u.dropLast (by rw [List.length_dropLast]; omega) (live_of ha hn)
    rw [← e] at hc ⊢
    obtain ⟨q, hq, e2⟩ := (hf p hp).mem _ _ hc
    exact ⟨q, List.mem_flatMap.2 ⟨p, hp, hq⟩, e2⟩
  · obtain ⟨p, hp, hq⟩ := List.mem_flatMap.1 hq
    exact (hf p hp).ne q hq
theorem lev_zero {dist : List (C × Int)} (hd : DistOk N s dist) {K : List C} (hK : ∀ c, c ∈ K ↔ Clo N dist n [s] c) (hne : K ≠ []) : Lev N s n 0 [([], K)] := by
  have key : ∀ c, c ∈ K ↔ Live N s n [] c := fun c => by
    rw [hK, clo_iff hd (fun c hc => by rw [List.mem_singleton.1 hc]; exact ⟨[], .nil s⟩)]
    constructor
    · rintro ⟨⟨c0, h0, h1⟩, w, ha, hw⟩
      rw [List.mem_singleton.1 h0] at h1
      exact ⟨h1, w, ha, by simp only [List.length_nil]; omega⟩
    · rintro ⟨h1, w, ha, hw⟩
      simp only [List.length_nil] at hw
      exact ⟨⟨s, by simp, h1⟩, w, ha, by omega⟩
  refine ⟨by simp, by simp, fun p hp c => ?_, fun u hu _ => ⟨([], K), by simp, (List.eq_nil_of_length_eq_zero hu).symm⟩, fun p hp => ?_⟩
  · rw [List.mem_singleton.1 hp]; exact key c
  · rw [List.mem_singleton.1 hp]; exact List.exists_mem_of_ne_nil K hne
theorem lev_none {dist : List (C × Int)} (hd : DistOk N s dist) (hK : ∀ c, ¬ Clo N dist n [s] c) (hw : w.length ≤ n) : ¬ Acc N s w := fun h => by
  obtain ⟨c, hc⟩ := live_of (u := []) (w := w) h hw
  refine hK c ((clo_iff hd (fun c hc => by rw [List.mem_singleton.1 hc]; exact ⟨[], .nil s⟩)).2 ?_)
  obtain ⟨h1, w', ha, hw'⟩ := hc
  simp only [List.length_nil] at hw'
  exact ⟨⟨s, by simp, h1⟩, w', ha, by omega⟩
/-- What one prefix is followed by, out of the closures. -/
theorem nxt_of {dist : List (C × Int)} (hd : DistOk N s dist) {p : List Int × List C} (hset : ∀ c, c ∈ p.2 ↔ Live N s n p.1 c) {rs : List Int} {K : Int → List C} (hrs : rs.Pairwise (· < ·)) (hmem : ∀ r, r ∈ rs ↔ ∃ c ∈ p.2, ∃ d, (r, d) ∈ N.spk c)
    {by_ : Int → List C} (hby : ∀ r d, d ∈ by_ r ↔ ∃ c ∈ p.2, (r, d) ∈ N.spk c) (hK : ∀ r ∈ rs, ∀ c, c ∈ K r ↔ Clo N dist ((n : Int) - ((p.1.length : Int) + 1)) (by_ r) c) : Nxt N s n p.1 ((rs.filter fun r => !(K r).isEmpty).map fun r => (p.1 ++ [r], K r)) := by
  have key : ∀ r ∈ rs, ∀ c, c ∈ K r ↔ Live N s n (p.1 ++ [r]) c := fun r hr c => by
    rw [hK r hr, clo_iff hd fun d hd' => ?_]
    · constructor
      · rintro ⟨⟨d, h0, h1⟩, w, ha, hw⟩
        obtain ⟨c1, hc1, hs⟩ := (hby r d).1 h0
        obtain ⟨k1, _⟩ := (hset c1).1 hc1
        have h2 := k1.trans (.spk hs h1)
        exact ⟨h2, w, ha, by rw [List.length_append, List.length_singleton]; omega⟩
      · rintro ⟨h1, w, ha, hw⟩
        rw [List.length_append, List.length_singleton] at hw
        obtain ⟨c2, k1, k2⟩ := h1.split
        obtain ⟨c1, d, k3, k4, k5⟩ := k2.one
        have k6 : Wlk N s p.1 c1 := by have := k1.trans k3; simpa using this
        obtain ⟨f, a1, a2⟩ := ha
        have hl : Live N s n p.1 c1 := ⟨k6, r :: w, ⟨f, by have := (Wlk.spk k4 k5).trans a1; simpa using this, a2⟩, by simp only [List.length_cons]; omega⟩
        exact ⟨⟨d, (hby r d).2 ⟨c1, (hset c1).2 hl, k4⟩, k5⟩, w, ⟨f, a1, a2⟩, by omega⟩
    · obtain ⟨c1, hc1, hs⟩ := (hby r d).1 hd'
      obtain ⟨k1, _⟩ := (hset c1).1 hc1
      exact ⟨_, k1.trans (.spk hs (.nil d))⟩
  have hin : ∀ q ∈ ((rs.filter fun r => !(K r).isEmpty).map fun r => (p.1 ++ [r], K r)), ∃ r ∈ rs, (!(K r).isEmpty) = true ∧ q = (p.1 ++ [r], K r) := fun q hq => by
    obtain ⟨r, hr, rfl⟩ := List.mem_map.1 hq
    exact ⟨r, (List.mem_filter.1 hr).1, (List.mem_filter.1 hr).2, rfl⟩
  refine ⟨fun q hq => ?_, ?_, fun q hq c => ?_, fun r c hl => ?_, fun q hq => ?_⟩
  · obtain ⟨r, _, _, rfl⟩ := hin q hq; exact ⟨r, rfl⟩
  · rw [List.map_map, List.pairwise_map]
    exact (hrs.filter _).imp fun h => lexL_last _ h
  · obtain ⟨r, hr, _, rfl⟩ := hin q hq; exact key r hr c
  · have hr : r ∈ rs := by
      rw [hmem]
      obtain ⟨h1, w, ha, hw⟩ := hl
      rw [List.length_append, List.length_singleton] at hw
      obtain ⟨c2, k1, k2⟩ := h1.split
      obtain ⟨c1, d, k3, k4, k5⟩ := k2.one
      have k6 : Wlk N s p.1 c1 := by have := k1.trans k3; simpa using this
      obtain ⟨f, a1, a2⟩ := ha
      exact ⟨c1, (hset c1).2 ⟨k6, r :: w, ⟨f, by have := (Wlk.spk k4 k5).trans a1; simpa using this, a2⟩, by simp only [List.length_cons]; omega⟩, d, k4⟩
    have hc : c ∈ K r := (key r hr c).2 hl
    refine ⟨(p.1 ++ [r], K r), List.mem_map.2 ⟨r, List.mem_filter.2 ⟨hr, ?_⟩, rfl⟩, rfl⟩
    cases hk : K r with
    | nil => rw [hk] at hc; simp at hc
    | cons => rfl
  · obtain ⟨r, _, h2, rfl⟩ := hin q hq
    refine List.exists_mem_of_ne_nil _ fun e => ?_
    simp only [] at e
    rw [e] at h2; simp at h2
/-! ### the words -/
/-- All words of at most n runes, in shortlex order. -/
structure Wds (N : Net C) (s : C) (n : Nat) (W : List (List Int)) : Prop where
  sorted : W.Pairwise slx
  mem : ∀ w, w ∈ W ↔ w.length ≤ n ∧ Acc N s w
theorem Wds.uniq {W W' : List (List Int)} (h : Wds N s n W) (h' : Wds N s n W') : W = W' := slx_ext h.sorted h'.sorted fun w => by rw [h.mem, h'.mem]
/-- The words of fewer than L runes. -/
structure Outs (N : Net C) (s : C) (n L : Nat) (out : List (List Int)) : Prop where
  sorted : out.Pairwise slx
  mem : ∀ w, w ∈ out ↔ w.length < L ∧ w.length ≤ n ∧ Acc N s w
theorem out_zero : Outs N s n 0 [] := ⟨by simp, fun w => by simp⟩
def accP (N : Net C) (p : List Int × List C) : Bool := p.2.any N.dn
theorem lev_acc {ps : List (List Int × List C)} (h : Lev N s n L ps) {p : List Int × List C} (hp : p ∈ ps) (hL : L ≤ n) : accP N p = true ↔ Acc N s p.1 := by
  unfold accP
  rw [List.any_eq_true]
  constructor
  · rintro ⟨c, hc, hd⟩
    exact ⟨c, ((h.set p hp c).1 hc).1, hd⟩
  · rintro ⟨d, h1, h2⟩
    exact ⟨d, (h.set p hp d).2 ⟨h1, [], ⟨d, .nil d, h2⟩, by rw [h.len p hp]; simpa using hL⟩, h2⟩
theorem Outs.next {ps : List (List Int × List C)} {out : List (List Int)} (h : Outs N s n L out) (hl : Lev N s n L ps) (hL : L ≤ n) : Outs N s n (L + 1) (out ++ (ps.filter (accP N)).map (·.1)) := by
  refine ⟨List.pairwise_append.2 ⟨h.sorted, ?_, fun a ha b hb => ?_⟩, fun w => ?_⟩
  · have hs := hl.sorted
    rw [List.pairwise_map] at hs ⊢
    exact (hs.filter _).imp_of_mem fun {a b} ha hb hab => .inr ⟨by rw [hl.len a (List.mem_filter.1 ha).1, hl.len b (List.mem_filter.1 hb).1], hab⟩
  · obtain ⟨p, hp, rfl⟩ := List.mem_map.1 hb
    have h1 := ((h.mem a).1 ha).1
    exact .inl (by rw [hl.len p (List.mem_filter.1 hp).1]; exact h1)
  · rw [List.mem_append, h.mem]
    constructor
    · rintro (⟨h1, h2⟩ | hm)
      · exact ⟨by omega, h2⟩
      · obtain ⟨p, hp, rfl⟩ := List.mem_map.1 hm
        obtain ⟨hp1, hp2⟩ := List.mem_filter.1 hp
        exact ⟨by rw [hl.len p hp1]; omega, by rw [hl.len p hp1]; exact hL, (lev_acc hl hp1 hL).1 hp2⟩
    · rintro ⟨h1, h2, h3⟩
      by_cases e : w.length < L
      · exact .inl ⟨e, h2, h3⟩
      · right
        obtain ⟨c, hc⟩ := live_of (u := w) (w := []) (by simpa using h3) (by simpa using h2)
        obtain ⟨p, hp, rfl⟩ := hl.mem w (by omega) ⟨c, hc⟩
        exact List.mem_map.2 ⟨p, List.mem_filter.2 ⟨hp, (lev_acc hl hp hL).2 h3⟩, rfl⟩
theorem Outs.fin {out W : List (List Int)} (h : Outs N s n (n + 1) out) (hW : Wds N s n W) : out = W := slx_ext h.sorted hW.sorted fun w => by
  rw [h.mem, hW.mem]
  exact ⟨fun k => k.2, fun k => ⟨by omega, k⟩⟩
theorem Outs.le {out W : List (List Int)} (h : Outs N s n L out) (hW : Wds N s n W) : out.length ≤ W.length := by
  have hn : out.Nodup := slx_nd h.sorted
  exact hn.length_le_of_subset fun w hw => (hW.mem w).2 ((h.mem w).1 hw).2
theorem Lev.le {ps : List (List Int × List C)} {W : List (List Int)} (h : Lev N s n L ps) (hW : Wds N s n W) : ps.length ≤ W.length := by
  have hn : (ps.map (·.1)).Nodup := lexL_nd h.sorted
  have hsub : ∀ u ∈ ps.map (·.1), u ∈ W.map fun w => w.take L := fun u hu => by
    obtain ⟨p, hp, rfl⟩ := List.mem_map.1 hu
    obtain ⟨c, hc⟩ := h.ne p hp
    obtain ⟨w, ha, hw⟩ := ((h.set p hp c).1 hc).acc
    exact List.mem_map.2 ⟨_, (hW.mem _).2 ⟨hw, ha⟩, List.take_left' (h.len p hp)⟩
  have := hn.length_le_of_subset hsub
  simpa using this
end
end Go.Proofs.Ytfepjcmjkaolgaa.G

set_option linter.all false
namespace Go.Proofs.Ytfepjcmjkaolgaa.G
open Go Go.RowKit
section
variable {C : Type}
/-- How many runes it takes from a configuration to an end; B c: who leads to c, and whether that takes a rune. -/
inductive Far (B : C → List (C × Bool)) (ends : List C) : C → Nat → Prop
  | base {c : C} : c ∈ ends → Far B ends c 0
  | tail {c b : C} {n : Nat} {k : Bool} : Far B ends c n → (b, k) ∈ B c → Far B ends b (n + k.toNat)
variable [DecidableEq C] {B : C → List (C × Bool)} {ends : List C} {d : Nat} {dist : List (C × Int)} {q n ds' : List C} {x b c : C} {ds : List (C × Bool)}
theorem okD_iff {k : Int} : okD dist c k = true ↔ ∃ v, aget dist c = some v ∧ v ≤ k := by
  unfold okD
  cases aget dist c <;> simp
theorem okD_mono {k l : Int} (h : okD dist c k = true) (hl : k ≤ l) : okD dist c l = true := by
  obtain ⟨v, h1, h2⟩ := okD_iff.1 h
  exact okD_iff.2 ⟨v, h1, by omega⟩
/-- The search from the ends: d the layer's number, q the layer, n the next one; g: which links have been gone through. -/
structure Ds (B : C → List (C × Bool)) (ends : List C) (d : Nat) (dist : List (C × Int)) (q n : List C) (g : C → C × Bool → Prop) : Prop where
  nd : (dist.map (·.1)).Nodup
  val : ∀ c v, aget dist c = some v → 0 ≤ v ∧ v ≤ d ∧ Far B ends c v.toNat
  qf : ∀ c ∈ q, Far B ends c d
  nf : ∀ c ∈ n, Far B ends c (d + 1)
  ef : ∀ c ∈ ends, okD dist c 0 = true ∨ (d = 0 ∧ c ∈ q)
  c0 : ∀ c v, aget dist c = some v → ∀ b, (b, false) ∈ B c → g c (b, false) → okD dist b v = true ∨ (v = d ∧ b ∈ q)
  c1 : ∀ c v, aget dist c = some v → ∀ b, (b, true) ∈ B c → g c (b, true) → okD dist b (v + 1) = true ∨ (v + 1 = d ∧ b ∈ q) ∨ (v = d ∧ b ∈ n)
def gT : C → C × Bool → Prop := fun _ _ => True
def gX (x : C) (ds : List (C × Bool)) : C → C × Bool → Prop := fun c e => c ≠ x ∨ e ∈ ds
theorem Ds.init : Ds B ends 0 [] ends [] gT :=
  ⟨by simp, fun c v h => by simp [aget] at h, fun c h => .base h, by simp, fun c h => .inr ⟨rfl, h⟩, fun c v h => by simp [aget] at h, fun c v h => by simp [aget] at h⟩
theorem Ds.known (h : Ds B ends d dist (x :: q) n gT) {v : Int} (hx : aget dist x = some v) : Ds B ends d dist q n gT := by
  have hv := (h.val x v hx).2.1
  have key : ∀ k : Int, (d : Int) ≤ k → okD dist x k = true := fun k hk => okD_iff.2 ⟨v, hx, by omega⟩
  refine ⟨h.nd, h.val, fun c hc => h.qf c (List.mem_cons_of_mem _ hc), h.nf, fun c hc => ?_, fun c v' hc b hb hg => ?_, fun c v' hc b hb hg => ?_⟩
  · rcases h.ef c hc with h1 | ⟨h1, h2⟩
    · exact .inl h1
    · rcases List.mem_cons.1 h2 with rfl | h2
      · exact .inl (key 0 (by omega))
      · exact .inr ⟨h1, h2⟩
  · rcases h.c0 c v' hc b hb hg with h1 | ⟨h1, h2⟩
    · exact .inl h1
    · rcases List.mem_cons.1 h2 with rfl | h2
      · exact .inl (key v' (by omega))
      · exact .inr ⟨h1, h2⟩
  · rcases h.c1 c v' hc b hb hg with h1 | ⟨h1, h2⟩ | h1
    · exact .inl h1
    · rcases List.mem_cons.1 h2 with rfl | h2
      · exact .inl (key (v' + 1) (by omega))
      · exact .inr (.inl ⟨h1, h2⟩)
    · exact .inr (.inr h1)
theorem okD_put {k v : Int} (hx : aget dist x = none) : okD (aput dist x v) c k = true ↔ okD dist c k = true ∨ (c = x ∧ v ≤ k) := by
  rw [okD_iff, okD_iff]
  constructor
  · rintro ⟨u, h1, h2⟩
    rw [aget_aput] at h1
    split at h1
    · rename_i e; cases h1; exact .inr ⟨e.symm, h2⟩
    · exact .inl ⟨u, h1, h2⟩
  · rintro (⟨u, h1, h2⟩ | ⟨rfl, h2⟩)
    · refine ⟨u, ?_, h2⟩
      rw [aget_aput, if_neg]
      · exact h1
      · rintro rfl; rw [hx] at h1; cases h1
    · exact ⟨v, by rw [aget_aput, if_pos rfl], h2⟩
theorem keys_put {κ β : Type} [DecidableEq κ] : ∀ {l : List (κ × β)} {k : κ} {v : β}, aget l k = none → (aput l k v).map (·.1) = l.map (·.1) ++ [k]
  | [], k, v, _ => rfl
  | (a, b) :: l, k, v, h => by
    have hne : ¬ a = k := by rintro rfl; simp [aget] at h
    have h' : aget l k = none := by simpa [aget, hne] using h
    unfold aput
    simp only [hne, if_false, List.map_cons, List.cons_append]
    rw [keys_put h']
theorem Ds.opn (h : Ds B ends d dist (x :: q) n gT) (hx : aget dist x = none) : Ds B ends d (aput dist x d) q n (gX x []) := by
  refine ⟨?_, fun c v hc => ?_, fun c hc => h.qf c (List.mem_cons_of_mem _ hc), h.nf, fun c hc => ?_, fun c v' hc b hb hg => ?_, fun c v' hc b hb hg => ?_⟩
  · rw [keys_put hx]
    refine List.nodup_append.2 ⟨h.nd, by simp, fun a ha b hb e => ?_⟩
    rw [List.mem_singleton.1 hb] at e
    subst e
    exact aget_none.1 hx ha
  · rw [aget_aput] at hc
    split at hc
    · rename_i e; cases hc; subst e
      exact ⟨by omega, by omega, by rw [Int.toNat_natCast]; exact h.qf _ (by simp)⟩
    · exact h.val c v hc
  · rcases h.ef c hc with h1 | ⟨h1, h2⟩
    · exact .inl ((okD_put hx).2 (.inl h1))
    · rcases List.mem_cons.1 h2 with rfl | h2
      · exact .inl ((okD_put hx).2 (.inr ⟨rfl, by omega⟩))
      · exact .inr ⟨h1, h2⟩
  · rw [aget_aput] at hc
    split at hc
    · rename_i e; rcases hg with hg | hg
      · exact absurd e.symm hg
      · simp at hg
    · rcases h.c0 c v' hc b hb trivial with h1 | ⟨h1, h2⟩
      · exact .inl ((okD_put hx).2 (.inl h1))
      · rcases List.mem_cons.1 h2 with rfl | h2
        · exact .inl ((okD_put hx).2 (.inr ⟨rfl, by omega⟩))
        · exact .inr ⟨h1, h2⟩
  · rw [aget_aput] at hc
    split at hc
    · rename_i e; rcases hg with hg | hg
      · exact absurd e.symm hg
      · simp at hg
    · rcases h.c1 c v' hc b hb trivial with h1 | ⟨h1, h2⟩ | h1
      · exact .inl ((okD_put hx).2 (.inl h1))
      · rcases List.mem_cons.1 h2 with rfl | h2
        · exact .inl ((okD_put hx).2 (.inr ⟨rfl, by omega⟩))
        · exact .inr (.inl ⟨h1, h2⟩)
      · exact .inr (.inr h1)
theorem Ds.push0 (h : Ds B ends d dist q n (gX x ds)) (hx : aget dist x = some (d : Int)) (hb : (b, false) ∈ B x) : Ds B ends d dist (q ++ [b]) n (gX x (ds ++ [(b, false)])) := by
  have hf : Far B ends b d := by
    have := (h.val x _ hx).2.2
    rw [Int.toNat_natCast] at this
    exact .tail this hb
  refine ⟨h.nd, h.val, fun c hc => ?_, h.nf, fun c hc => ?_, fun c v hc b' hb' hg => ?_, fun c v hc b' hb' hg => ?_⟩
  · rcases List.mem_append.1 hc with h1 | h1
    · exact h.qf c h1
    · rw [List.mem_singleton.1 h1]; exact hf
  · rcases h.ef c hc with h1 | ⟨h1, h2⟩
    · exact .inl h1
    · exact .inr ⟨h1, List.mem_append_left _ h2⟩
  · rcases hg with hg | hg
    · rcases h.c0 c v hc b' hb' (.inl hg) with h1 | ⟨h1, h2⟩
      · exact .inl h1
      · exact .inr ⟨h1, List.mem_append_left _ h2⟩
    · rcases List.mem_append.1 hg with hg | hg
      · rcases h.c0 c v hc b' hb' (.inr hg) with h1 | ⟨h1, h2⟩
        · exact .inl h1
        · exact .inr ⟨h1, List.mem_append_left _ h2⟩
      · have e := List.mem_singleton.1 hg
        simp only [Prod.mk.injEq, and_true] at e
        subst e
        by_cases hcx : c = x
        · subst hcx
          rw [hx] at hc
          cases hc
          exact .inr ⟨rfl, List.mem_append_right _ (by simp)⟩
        · rcases h.c0 c v hc b' hb' (.inl hcx) with h1 | ⟨h1, h2⟩
          · exact .inl h1
          · exact .inr ⟨h1, List.mem_append_left _ h2⟩
  · have hg' : gX x ds c (b', true) := by
      rcases hg with hg | hg
      · exact .inl hg
      · rcases List.mem_append.1 hg with hg | hg
        · exact .inr hg
        · have := List.mem_singleton.1 hg
          simp at this
    rcases h.c1 c v hc b' hb' hg' with h1 | ⟨h1, h2⟩ | h1
    · exact .inl h1
    · exact .inr (.inl ⟨h1, List.mem_append_left _ h2⟩)
    · exact .inr (.inr h1)
theorem Ds.push1 (h : Ds B ends d dist q n (gX x ds)) (hx : aget dist x = some (d : Int)) (hb : (b, true) ∈ B x) : Ds B ends d dist q (n ++ [b]) (gX x (ds ++ [(b, true)])) := by
  have hf : Far B ends b (d + 1) := by
    have := (h.val x _ hx).2.2
    rw [Int.toNat_natCast] at this
    exact .tail this hb
  refine ⟨h.nd, h.val, h.qf, fun c hc => ?_, h.ef, fun c v hc b' hb' hg => ?_, fun c v hc b' hb' hg => ?_⟩
  · rcases List.mem_append.1 hc with h1 | h1
    · exact h.nf c h1
    · rw [List.mem_singleton.1 h1]; exact hf
  · have hg' : gX x ds c (b', false) := by
      rcases hg with hg | hg
      · exact .inl hg
      · rcases List.mem_append.1 hg with hg | hg
        · exact .inr hg
        · have := List.mem_singleton.1 hg
          simp at this
    exact h.c0 c v hc b' hb' hg'
  · have lift : gX x ds c (b', true) → okD dist b' (v + 1) = true ∨ (v + 1 = d ∧ b' ∈ q) ∨ (v = d ∧ b' ∈ n ++ [b]) := fun hg => by
      rcases h.c1 c v hc b' hb' hg with h1 | h1 | ⟨h1, h2⟩
      · exact .inl h1
      · exact .inr (.inl h1)
      · exact .inr (.inr ⟨h1, List.mem_append_left _ h2⟩)
    rcases hg with hg | hg
    · exact lift (.inl hg)
    · rcases List.mem_append.1 hg with hg | hg
      · exact lift (.inr hg)
      · have e := List.mem_singleton.1 hg
        simp only [Prod.mk.injEq, and_true] at e
        subst e
        by_cases hcx : c = x
        · subst hcx
          rw [hx] at hc
          cases hc
          exact .inr (.inr ⟨rfl, List.mem_append_right _ (by simp)⟩)
        · exact lift (.inl hcx)
theorem Ds.close (h : Ds B ends d dist q n (gX x ds)) (hd : ∀ e ∈ B x, e ∈ ds) : Ds B ends d dist q n gT := by
  refine ⟨h.nd, h.val, h.qf, h.nf, h.ef, fun c v hc b hb _ => h.c0 c v hc b hb ?_, fun c v hc b hb _ => h.c1 c v hc b hb ?_⟩
  · by_cases e : c = x
    · subst e; exact .inr (hd _ hb)
    · exact .inl e
  · by_cases e : c = x
    · subst e; exact .inr (hd _ hb)
    · exact .inl e
theorem Ds.turn (h : Ds B ends d dist [] n gT) : Ds B ends (d + 1) dist n [] gT := by
  refine ⟨h.nd, fun c v hc => ?_, h.nf, by simp, fun c hc => ?_, fun c v hc b hb _ => ?_, fun c v hc b hb _ => ?_⟩
  · obtain ⟨h1, h2, h3⟩ := h.val c v hc
    exact ⟨h1, by omega, h3⟩
  · rcases h.ef c hc with h1 | ⟨_, h2⟩
    · exact .inl h1
    · simp at h2
  · rcases h.c0 c v hc b hb trivial with h1 | ⟨_, h2⟩
    · exact .inl h1
    · simp at h2
  · rcases h.c1 c v hc b hb trivial with h1 | ⟨_, h2⟩ | ⟨h1, h2⟩
    · exact .inl h1
    · simp at h2
    · exact .inr (.inl ⟨by omega, h2⟩)
theorem Ds.fin (h : Ds B ends d dist [] [] gT) (c : C) (k : Int) : okD dist c k = true ↔ ∃ m : Nat, Far B ends c m ∧ (m : Int) ≤ k := by
  constructor
  · intro hk
    obtain ⟨v, h1, h2⟩ := okD_iff.1 hk
    obtain ⟨g1, g2, g3⟩ := h.val c v h1
    exact ⟨v.toNat, g3, by omega⟩
  · rintro ⟨m, hm, hk⟩
    refine okD_mono ?_ hk
    clear hk
    induction hm with
    | base hc => exact (h.ef _ hc).resolve_right (by simp)
    | @tail c b n k _ hb ih =>
      obtain ⟨v, h1, h2⟩ := okD_iff.1 ih
      cases k with
      | false =>
        have := (h.c0 c v h1 b hb trivial).resolve_right (by simp)
        exact okD_mono this (by simpa using h2)
      | true =>
        have := (h.c1 c v h1 b hb trivial).resolve_right (by simp)
        refine okD_mono this ?_
        simp only [Bool.toNat_true, Int.natCast_add, Int.natCast_one]
        omega
theorem Ds.len {g : C → C × Bool → Prop} {U : List C} (h : Ds B ends d dist q n g) (hU : ∀ c k, Far B ends c k → c ∈ U) : dist.length ≤ U.length := by
  have := h.nd.length_le_of_subset fun c hc => by
    obtain ⟨p, hp, rfl⟩ := List.mem_map.1 hc
    cases hg : aget dist p.1 with
    | none => exact absurd (List.mem_map.2 ⟨p, hp, rfl⟩) (aget_none.1 hg)
    | some v => exact hU _ _ (h.val p.1 v hg).2.2
  simpa using this
theorem Ds.room {U : List C} (h : Ds B ends d dist (x :: q) n gT) (hx : aget dist x = none) (hU : ∀ c k, Far B ends c k → c ∈ U) : dist.length + 1 ≤ U.length := by
  have := (h.opn hx).len hU
  have e := congrArg List.length (keys_put (v := (d : Int)) hx)
  rw [List.length_map, List.length_append, List.length_map, List.length_singleton] at e
  omega
end
/-! ### silent closures by a queue -/
section
variable {C : Type} [DecidableEq C] {S : C → List C} {ok : C → Bool} {fr K q : List C} {x c : C}
/-- K what is known, q what is to be looked at. -/
structure Cq (S : C → List C) (ok : C → Bool) (fr K q : List C) : Prop where
  nd : K.Nodup
  kf : ∀ c ∈ K, Reach (fun c => (S c).filter ok) (fun c => c ∈ fr ∧ ok c = true) c
  qf : ∀ c ∈ q, ok c = true → Reach (fun c => (S c).filter ok) (fun c => c ∈ fr ∧ ok c = true) c
  ff : ∀ c ∈ fr, ok c = true → c ∈ K ∨ c ∈ q
  cl : ∀ b ∈ K, ∀ c ∈ S b, ok c = true → c ∈ K ∨ c ∈ q
theorem Cq.init : Cq S ok fr [] fr := ⟨by simp, by simp, fun c h k => .base ⟨h, k⟩, fun c h _ => .inr h, by simp⟩
theorem Cq.skip (h : Cq S ok fr K (x :: q)) (hx : ok x = false ∨ x ∈ K) : Cq S ok fr K q := by
  have key : ∀ c, ok c = true → c ∈ x :: q → c ∈ K ∨ c ∈ q := fun c hc h => by
    rcases List.mem_cons.1 h with rfl | h
    · rcases hx with hx | hx
      · rw [hx] at hc; cases hc
      · exact .inl hx
    · exact .inr h
  refine ⟨h.nd, h.kf, fun c hc => h.qf c (List.mem_cons_of_mem _ hc), fun c hc hk => ?_, fun b hb c hc hk => ?_⟩
  · rcases h.ff c hc hk with h1 | h1
    · exact .inl h1
    · exact key c hk h1
  · rcases h.cl b hb c hc hk with h1 | h1
    · exact .inl h1
    · exact key c hk h1
theorem Cq.push (h : Cq S ok fr K (x :: q)) (hx : ok x = true) (hn : x ∉ K) : Cq S ok fr (K ++ [x]) (q ++ S x) := by
  have hr := h.qf x (by simp) hx
  have key : ∀ c, c ∈ K ∨ c ∈ x :: q → c ∈ K ++ [x] ∨ c ∈ q ++ S x := fun c h => by
    rcases h with h | h
    · exact .inl (List.mem_append_left _ h)
    · rcases List.mem_cons.1 h with rfl | h
      · exact .inl (by simp)
      · exact .inr (List.mem_append_left _ h)
  refine ⟨List.nodup_append.2 ⟨h.nd, by simp, fun a ha b hb e => by rw [List.mem_singleton.1 hb] at e; exact hn (e ▸ ha)⟩, fun c hc => ?_, fun c hc hk => ?_, fun c hc hk => key c (h.ff c hc hk), fun b hb c hc hk => ?_⟩
  · rcases List.mem_append.1 hc with h1 | h1
    · exact h.kf c h1
    · rw [List.mem_singleton.1 h1]; exact hr
  · rcases List.mem_append.1 hc with h1 | h1
    · exact h.qf c (List.mem_cons_of_mem _ h1) hk
    · exact .tail hr (List.mem_filter.2 ⟨h1, hk⟩)
  · rcases List.mem_append.1 hb with h1 | h1
    · exact key c (h.cl b h1 c hc hk)
    · rw [List.mem_singleton.1 h1] at hc
      exact .inr (List.mem_append_right _ hc)
theorem Cq.fin (h : Cq S ok fr K []) (c : C) : c ∈ K ↔ Reach (fun c => (S c).filter ok) (fun c => c ∈ fr ∧ ok c = true) c := by
  refine ⟨h.kf c, fun hr => ?_⟩
  induction hr with
  | base hb => exact (h.ff _ hb.1 hb.2).resolve_right (by simp)
  | tail _ hy ih =>
    have := List.mem_filter.1 hy
    exact (h.cl _ ih _ this.1 this.2).resolve_right (by simp)
theorem Cq.ok_mem (h : Cq S ok fr K q) : ∀ c ∈ K, ok c = true := fun c hc => by
  cases h.kf c hc with
  | base h => exact h.2
  | tail _ h => exact (List.mem_filter.1 h).2
theorem Cq.len {U : List C} (h : Cq S ok fr K q) (hU : ∀ c, ok c = true → c ∈ U) : K.length ≤ U.length := h.nd.length_le_of_subset fun c hc => hU c (h.ok_mem c hc)
theorem Cq.room {U : List C} (h : Cq S ok fr K (x :: q)) (hx : ok x = true) (hn : x ∉ K) (hU : ∀ c, ok c = true → c ∈ U) : K.length + 1 ≤ U.length := by
  have := (h.push hx hn).len hU
  simpa using this
end
theorem okD_key {C : Type} [DecidableEq C] {dist : List (C × Int)} {c : C} {k : Int} (h : okD dist c k = true) : c ∈ dist.map (·.1) := by
  obtain ⟨v, h1, _⟩ := okD_iff.1 h
  refine Decidable.byContradiction fun hn => ?_
  rw [aget_none.2 hn] at h1; cases h1
theorem aput_nw {κ β : Type} [DecidableEq κ] {l : List (κ × β)} {k : κ} {v : β} (h : aget l k = none) : (aput l k v).length = l.length + 1 := by
  have e := congrArg List.length (keys_put (v := v) h)
  rw [List.length_map, List.length_append, List.length_map, List.length_singleton] at e
  exact e
theorem aget_of {κ β : Type} [DecidableEq κ] {l : List (κ × β)} {k : κ} (h : (aget l k).isSome = true) : aget l k = some ((aget l k).get h) := by simp
theorem okD_neg {C : Type} [DecidableEq C] {dist : List (C × Int)} {c : C} {k : Int} : (!(aget dist c).isSome || decide (k < (aget dist c).getD 0)) = !okD dist c k := by
  unfold okD
  cases aget dist c with
  | none => rfl
  | some v =>
    simp only [Option.isSome_some, Bool.not_true, Bool.false_or, Option.getD_some]
    cases h : decide (v ≤ k) <;> simp at h ⊢ <;> omega
theorem clo_skip {a : Bool} {p : Prop} [Decidable p] (h : (!a || decide p) = true) : a = false ∨ p := by
  cases a
  · exact .inl rfl
  · right; simpa using h
theorem clo_push {a : Bool} {p : Prop} [Decidable p] (h : (!a || decide p) = false) : a = true ∧ ¬ p := by
  cases a
  · simp at h
  · exact ⟨rfl, by simpa using h⟩
end Go.Proofs.Ytfepjcmjkaolgaa.G

set_option linter.all false
namespace Go.Proofs.Ytfepjcmjkaolgaa.G
open Go Go.RowKit
def mv1 (l : List Int) (c : TCfg) (x : Arc) : List Move := if fitB l c.pos x.inp = true then [⟨c, ⟨x.dst, eatK c.pos.toNat x.inp⟩, x.out⟩] else []
def tcE (t : Tra) (l : List Int) (c : TCfg) : List Move := (t.outs c.state).flatMap (mv1 l c)
def tcN (t : Tra) (l : List Int) (c : TCfg) : List TCfg := (tcE t l c).map (·.dst)
theorem mv1_len (l : List Int) (c : TCfg) (x : Arc) : (mv1 l c x).length ≤ 1 := by unfold mv1; split <;> simp
theorem mv1_no {l : List Int} {c : TCfg} {x : Arc} (h : fitB l c.pos x.inp = false) : mv1 l c x = [] := by rw [mv1, h]; rfl
theorem mv1_yes {l : List Int} {p i : Nat} {x : Arc} {e : Int} (h : fitB l (i : Int) x.inp = true) (he : eatK i x.inp = e) : mv1 l ⟨p, i⟩ x = [⟨⟨p, i⟩, ⟨x.dst, e⟩, x.out⟩] := by
  rw [mv1, if_pos h, Int.toNat_natCast, he]
theorem tcE_len (t : Tra) (l : List Int) (c : TCfg) : (tcE t l c).length ≤ t.arcs.length := by
  have := flat_len (mv1_len l c) (t.outs c.state)
  have := t.outs_len c.state
  unfold tcE; omega
theorem mem_tcE {t : Tra} {l : List Int} {c : TCfg} {m : Move} : m ∈ tcE t l c ↔ ∃ x ∈ t.arcs, x.src = c.state ∧ fitB l c.pos x.inp = true ∧ m = ⟨c, ⟨x.dst, eatK c.pos.toNat x.inp⟩, x.out⟩ := by
  simp only [tcE, Tra.outs, List.mem_flatMap, List.mem_filter, decide_eq_true_eq]
  constructor
  · rintro ⟨x, ⟨h1, h2⟩, h⟩
    unfold mv1 at h
    split at h
    · rename_i hf; exact ⟨x, h1, h2, hf, by simpa using h⟩
    · simp at h
  · rintro ⟨x, h1, h2, h3, rfl⟩
    exact ⟨x, ⟨h1, h2⟩, by rw [mv1, if_pos h3]; simp⟩
theorem fit_or {l : List Int} {i : Nat} {r : Int} (hi : i ≤ l.length) (hr : ¬ r = 0) {b : Bool} (h : (decide ((i : Int) = (l.length : Int)) || !decide (l.getD i 0 = r)) = b) : fitB l (i : Int) r = !b := by
  subst h
  simp only [fitB, hr, decide_false, Bool.false_or, Int.toNat_natCast, List.getD_eq_getElem?_getD]
  by_cases e : i = l.length
  · subst e; simp
  · have h1 : ¬ (i : Int) = (l.length : Int) := by omega
    simp [List.getElem?_eq_getElem (show i < l.length by omega), h1]
def rect2 (m lx : Nat) : List TCfg := (List.range m).flatMap fun (p : Nat) => (List.range (lx + 1)).map fun (i : Nat) => ⟨p, i⟩
theorem mem_rect2 {m lx : Nat} {c : TCfg} : c ∈ rect2 m lx ↔ ∃ p i : Nat, c = ⟨p, i⟩ ∧ p < m ∧ i ≤ lx := by
  simp only [rect2, List.mem_flatMap, List.mem_range, List.mem_map]
  constructor
  · rintro ⟨p, hp, i, hi, rfl⟩; exact ⟨p, i, rfl, hp, by omega⟩
  · rintro ⟨p, i, rfl, hp, hi⟩; exact ⟨p, hp, i, by omega, rfl⟩
theorem rect2_len (m lx : Nat) : (rect2 m lx).length = m * (lx + 1) := by
  rw [rect2, flat_len_eq (B := lx + 1), List.length_range]
  intro p
  simp
theorem tc_step {t : Tra} {m : Nat} {l : List Int} (hr : ∀ x ∈ t.arcs, (0 ≤ x.src ∧ x.src < m) ∧ 0 ≤ x.dst ∧ x.dst < m) {c d : TCfg} (hc : c ∈ rect2 m l.length) (hd : d ∈ tcN t l c) : d ∈ rect2 m l.length := by
  obtain ⟨mv, hm, rfl⟩ := List.mem_map.1 hd
  obtain ⟨x, hx, hs, hf, rfl⟩ := mem_tcE.1 hm
  obtain ⟨p, i, rfl, hp, hi⟩ := mem_rect2.1 hc
  have hxr := hr x hx
  obtain ⟨k, e1, e2, _⟩ := fit_take hf hi
  simp only [Int.toNat_natCast]
  exact mem_rect2.2 ⟨x.dst.toNat, k, by rw [e1, Int.toNat_of_nonneg hxr.2.1], by omega, e2⟩
theorem tc_rect {t : Tra} {m : Nat} {l : List Int} (hr : ∀ x ∈ t.arcs, (0 ≤ x.src ∧ x.src < m) ∧ 0 ≤ x.dst ∧ x.dst < m) (hs : 0 ≤ t.start ∧ t.start < m) : ∀ c, Reach (tcN t l) (· = ⟨t.start, 0⟩) c → c ∈ rect2 m l.length := fun c h => by
  induction h with
  | base h => subst h; exact mem_rect2.2 ⟨t.start.toNat, 0, by rw [Int.toNat_of_nonneg hs.1]; rfl, by omega, Nat.zero_le _⟩
  | tail _ hy ih => exact tc_step hr ih hy
/-- The net of what is written along l. -/
def tnet (t : Tra) (l : List Int) : Net TCfg where
  sil c := ((tcE t l c).filter fun m => m.out = 0).map (·.dst)
  spk c := ((tcE t l c).filter fun m => !decide (m.out = 0)).map fun m => (m.out, m.dst)
  dn c := decide (c.pos = (l.length : Int)) && decide (c.state ∈ t.finals)
theorem mem_sil {t : Tra} {l : List Int} {c d : TCfg} : d ∈ (tnet t l).sil c ↔ ∃ m ∈ tcE t l c, m.out = 0 ∧ m.dst = d := by
  simp only [tnet, List.mem_map, List.mem_filter, decide_eq_true_eq, and_assoc]
theorem mem_spk {t : Tra} {l : List Int} {c d : TCfg} {r : Int} : (r, d) ∈ (tnet t l).spk c ↔ ∃ m ∈ tcE t l c, m.out ≠ 0 ∧ m.out = r ∧ m.dst = d := by
  simp only [tnet, List.mem_map, List.mem_filter, Bool.not_eq_true', decide_eq_false_iff_not, Prod.mk.injEq, and_assoc, ne_eq]
theorem wlk_run {t : Tra} {l w : List Int} {c d : TCfg} (h : Wlk (tnet t l) c w d) : ∀ {i : Nat}, c.pos = (i : Int) → i ≤ l.length → ∃ k : Nat, d.pos = (k : Int) ∧ k ≤ l.length ∧ ∃ u, l.take k = l.take i ++ u ∧ Run t c.state u w d.state := by
  induction h with
  | nil c => intro i h1 h2; exact ⟨i, h1, h2, [], by simp, .nil _⟩
  | @sil c d e w h1 _ ih =>
    intro i hi hl
    obtain ⟨m, hm, h0, rfl⟩ := mem_sil.1 h1
    obtain ⟨x, hx, hs, hf, rfl⟩ := mem_tcE.1 hm
    rw [hi] at hf
    obtain ⟨k, e1, e2, e3⟩ := fit_take hf hl
    simp only [hi, Int.toNat_natCast] at ih
    obtain ⟨k', g1, g2, u, g3, g4⟩ := ih e1 e2
    exact ⟨k', g1, g2, lab x.inp ++ u, by rw [g3, e3, List.append_assoc], .cons' hx hs g4 rfl (by simp only [] at h0; rw [h0]; rfl)⟩
  | @spk c d e r w h1 _ ih =>
    intro i hi hl
    obtain ⟨m, hm, h0, h0', rfl⟩ := mem_spk.1 h1
    obtain ⟨x, hx, hs, hf, rfl⟩ := mem_tcE.1 hm
    rw [hi] at hf
    obtain ⟨k, e1, e2, e3⟩ := fit_take hf hl
    simp only [hi, Int.toNat_natCast] at ih
    obtain ⟨k', g1, g2, u, g3, g4⟩ := ih e1 e2
    simp only [] at h0 h0'
    exact ⟨k', g1, g2, lab x.inp ++ u, by rw [g3, e3, List.append_assoc], .cons' hx hs g4 rfl (by rw [lab_ne h0, h0']; rfl)⟩
theorem run_wlk {t : Tra} {l : List Int} {p q : Int} {u w : List Int} (h : Run t p u w q) : ∀ {i : Nat} {u' : List Int}, l.drop i = u ++ u' → ∃ k : Nat, l.drop k = u' ∧ Wlk (tnet t l) ⟨p, i⟩ w ⟨q, k⟩ := by
  induction h with
  | nil => intro i u' h1; exact ⟨i, by simpa using h1, .nil _⟩
  | @cons x us ws q hx _ ih =>
    intro i u' h1
    obtain ⟨f1, k, e1, e2⟩ := fit_drop h1
    obtain ⟨k', g1, g2⟩ := ih e2
    have hm : (⟨⟨x.src, i⟩, ⟨x.dst, k⟩, x.out⟩ : Move) ∈ tcE t l ⟨x.src, i⟩ := mem_tcE.2 ⟨x, hx, rfl, f1, by simp only [Int.toNat_natCast, e1]⟩
    refine ⟨k', g1, ?_⟩
    by_cases h0 : x.out = 0
    · rw [h0, lab_zero, List.nil_append]
      exact .sil (mem_sil.2 ⟨_, hm, h0, rfl⟩) g2
    · rw [lab_ne h0]
      exact .spk (mem_spk.2 ⟨_, hm, h0, rfl, rfl⟩) g2
/-- The words of the net are what is related to l. -/
theorem acc_rel {t : Tra} {l w : List Int} : Acc (tnet t l) ⟨t.start, 0⟩ w ↔ Rel t l w := by
  constructor
  · rintro ⟨d, h, hd⟩
    obtain ⟨k, e1, e2, u, e3, r⟩ := wlk_run h (i := 0) rfl (Nat.zero_le _)
    simp only [tnet, Bool.and_eq_true, decide_eq_true_eq] at hd
    have : k = l.length := by omega
    subst this
    rw [List.take_length, List.take_zero, List.nil_append] at e3
    rw [← e3] at r
    exact ⟨d.state, hd.2, r⟩
  · rintro ⟨f, hf, r⟩
    obtain ⟨k, e1, e2⟩ := run_wlk (l := l) r (i := 0) (u' := []) (by simp)
    obtain ⟨k', g1, g2, u, g3, _⟩ := wlk_run e2 (i := 0) rfl (Nat.zero_le _)
    have hk : l.length ≤ k := by simpa using e1
    simp only [] at g1
    have : k = l.length := by omega
    subst this
    exact ⟨_, e2, by simp [tnet, hf]⟩
/-! distances by the moves -/
def preM (mv : List Move) (c : TCfg) : List (TCfg × Bool) := (mv.filter fun m => m.dst = c).map fun m => (m.src, !decide (m.out = 0))
theorem mem_preM {mv : List Move} {c b : TCfg} {k : Bool} : (b, k) ∈ preM mv c ↔ ∃ m ∈ mv, m.dst = c ∧ m.src = b ∧ (!decide (m.out = 0)) = k := by
  simp only [preM, List.mem_map, List.mem_filter, decide_eq_true_eq, Prod.mk.injEq, and_assoc]
def endsT (t : Tra) (l : List Int) : List TCfg := t.finals.map fun f => ⟨f, l.length⟩
theorem dn_ends {t : Tra} {l : List Int} {c : TCfg} : (tnet t l).dn c = true ↔ c ∈ endsT t l := by
  simp only [tnet, endsT, Bool.and_eq_true, decide_eq_true_eq, List.mem_map]
  constructor
  · rintro ⟨h1, h2⟩; exact ⟨c.state, h2, by cases c; simp only [] at h1; rw [h1]⟩
  · rintro ⟨f, hf, rfl⟩; exact ⟨rfl, hf⟩
theorem wlk_reach {t : Tra} {l w : List Int} {s c : TCfg} (h : Wlk (tnet t l) s w c) {P : TCfg → Prop} (hs : Reach (tcN t l) P s) : Reach (tcN t l) P c := by
  induction h with
  | nil => exact hs
  | sil h1 _ ih =>
    obtain ⟨m, hm, _, rfl⟩ := mem_sil.1 h1
    exact ih (.tail hs (List.mem_map.2 ⟨m, hm, rfl⟩))
  | spk h1 _ ih =>
    obtain ⟨m, hm, _, _, rfl⟩ := mem_spk.1 h1
    exact ih (.tail hs (List.mem_map.2 ⟨m, hm, rfl⟩))
theorem far_acc {t : Tra} {l : List Int} {K : List TCfg} {c : TCfg} {n : Nat} (h : Far (preM (K.flatMap (tcE t l))) (endsT t l) c n) : ∃ w, Acc (tnet t l) c w ∧ w.length = n := by
  induction h with
  | base h => exact ⟨[], ⟨_, .nil _, dn_ends.2 h⟩, rfl⟩
  | @tail c b n k _ hb ih =>
    obtain ⟨w, ⟨d, h1, h2⟩, h3⟩ := ih
    obtain ⟨m, hm, rfl, rfl, hk⟩ := mem_preM.1 hb
    obtain ⟨s, _, hm⟩ := List.mem_flatMap.1 hm
    have hs : m.src = s := by
      obtain ⟨x, _, _, _, rfl⟩ := mem_tcE.1 hm; rfl
    subst hs
    cases k with
    | false =>
      have h0 : m.out = 0 := by simpa using hk
      exact ⟨w, ⟨d, .sil (mem_sil.2 ⟨m, hm, h0, rfl⟩) h1, h2⟩, by simpa using h3⟩
    | true =>
      have h0 : m.out ≠ 0 := by simpa using hk
      exact ⟨m.out :: w, ⟨d, .spk (mem_spk.2 ⟨m, hm, h0, rfl, rfl⟩) h1, h2⟩, by simp [h3]⟩
theorem acc_far {t : Tra} {l : List Int} {K : List TCfg} (hK : Closure (tcN t l) (· = ⟨t.start, 0⟩) K) {c d : TCfg} {w : List Int} (h : Wlk (tnet t l) c w d) (hd : (tnet t l).dn d = true) : c ∈ K → Far (preM (K.flatMap (tcE t l))) (endsT t l) c w.length := by
  induction h with
  | nil => intro _; exact .base (dn_ends.1 hd)
  | @sil c e f w h1 _ ih =>
    intro hc
    obtain ⟨m, hm, h0, rfl⟩ := mem_sil.1 h1
    have hs : m.src = c := by
      obtain ⟨x, _, _, _, rfl⟩ := mem_tcE.1 hm; rfl
    have := ih hd ((hK.mem _).2 (.tail ((hK.mem _).1 hc) (List.mem_map.2 ⟨m, hm, rfl⟩)))
    have k := Far.tail this (mem_preM.2 ⟨m, List.mem_flatMap.2 ⟨c, hc, hm⟩, rfl, hs, rfl⟩)
    simpa [h0] using k
  | @spk c e f r w h1 _ ih =>
    intro hc
    obtain ⟨m, hm, h0, h0', rfl⟩ := mem_spk.1 h1
    have hs : m.src = c := by
      obtain ⟨x, _, _, _, rfl⟩ := mem_tcE.1 hm; rfl
    have := ih hd ((hK.mem _).2 (.tail ((hK.mem _).1 hc) (List.mem_map.2 ⟨m, hm, rfl⟩)))
    have k := Far.tail this (mem_preM.2 ⟨m, List.mem_flatMap.2 ⟨c, hc, hm⟩, rfl, hs, rfl⟩)
    simpa [h0] using k
/-- The table that the search leaves is right. -/
theorem dist_ok {t : Tra} {l : List Int} {K : List TCfg} {dist : List (TCfg × Int)} (hK : Closure (tcN t l) (· = ⟨t.start, 0⟩) K) (h : ∀ c k, okD dist c k = true ↔ ∃ m : Nat, Far (preM (K.flatMap (tcE t l))) (endsT t l) c m ∧ (m : Int) ≤ k) : DistOk (tnet t l) ⟨t.start, 0⟩ dist := fun c ⟨u, hu⟩ k => by
  rw [h]
  constructor
  · rintro ⟨m, hm, hk⟩
    obtain ⟨w, ha, hw⟩ := far_acc hm
    exact ⟨w, ha, by omega⟩
  · rintro ⟨w, ⟨d, h1, h2⟩, hk⟩
    exact ⟨w.length, acc_far hK h1 h2 ((hK.mem _).2 (wlk_reach hu (.base rfl))), hk⟩
/-! what the walk of distances leans on -/
theorem far_in {mv : List Move} {es : List TCfg} {c : TCfg} {k : Nat} (h : Far (preM mv) es c k) : c ∈ es ++ mv.map (·.src) := by
  cases h with
  | base h => exact List.mem_append_left _ h
  | tail _ hb =>
    obtain ⟨m, hm, _, rfl, _⟩ := mem_preM.1 hb
    exact List.mem_append_right _ (List.mem_map.2 ⟨m, hm, rfl⟩)
theorem grp_id {κ γ : Type} [DecidableEq κ] {key : γ → κ} {k : κ} {ls : List γ} : (aget (grp key (fun e => e) ls) k).getD [] = ls.filter fun e => key e = k := by
  rw [grp_look]; simp
theorem far_bd {mv : List Move} {es : List TCfg} {q n K : Nat} (hmv : mv.length ≤ 1048576) (hes : es.length ≤ 4096) (h : q + n ≤ es.length + K * mv.length + mv.length ∧ K ≤ es.length + mv.length) : q + n ≤ 1108101562368 := by
  have := Nat.mul_le_mul (show K ≤ 1052672 by omega) hmv
  omega
theorem tail_snoc {α : Type} {l : List α} {x y : α} (h : l = x :: l.tail) : (l ++ [y]).tail = l.tail ++ [y] := by rw [h]; rfl
theorem far_mu {U D D' A q q' n n' k6 : Nat} (hroom : D + 1 ≤ U) (hp : D' = D + 1) (hl : q' + n' ≤ q + n + k6 ∧ q' ≤ q + k6) (hk : k6 ≤ A) (hq : 1 ≤ q') : (U - D') * (A + 1) + (q' - 1) < (U - D) * (A + 1) + q := by
  obtain ⟨E, hE⟩ : ∃ E, U - D = E + 1 := ⟨U - D - 1, by omega⟩
  have e : U - D' = E := by omega
  rw [hE, e, Nat.add_mul, Nat.one_mul]
  omega
/-! what the walk of closed leans on -/
def silM (mv : List Move) (c : TCfg) : List TCfg := ((mv.filter fun m => m.src = c).filter fun m => m.out = 0).map (·.dst)
theorem silM_len (mv : List Move) (c : TCfg) : (silM mv c).length ≤ mv.length := by
  rw [silM, List.length_map]
  exact Nat.le_trans (List.length_filter_le _ _) (List.length_filter_le _ _)
theorem clo_mu {C : Type} {D K A : Nat} {x : C} {qs ss : List C} (hroom : K + 1 ≤ D) (hs : ss.length ≤ A) {Kl : List C} (hK : Kl.length = K) : (D - (Kl ++ [x]).length) * (A + 1) + ((x :: qs ++ ss).drop 1).length < (D - Kl.length) * (A + 1) + (x :: qs).length := by
  obtain ⟨E, hE⟩ : ∃ E, D - K = E + 1 := ⟨D - K - 1, by omega⟩
  rw [List.length_append, List.length_singleton, hK, hE, show D - (K + 1) = E by omega, Nat.add_mul, Nat.one_mul]
  simp only [List.cons_append, List.drop_one, List.tail_cons, List.length_append, List.length_cons]
  omega
/-- The silent steps by the moves are the net's. -/
theorem silM_net {t : Tra} {l : List Int} {K : List TCfg} {c d : TCfg} (hc : c ∈ K) : d ∈ silM (K.flatMap (tcE t l)) c ↔ d ∈ (tnet t l).sil c := by
  rw [mem_sil]
  simp only [silM, List.mem_map, List.mem_filter, decide_eq_true_eq, List.mem_flatMap]
  constructor
  · rintro ⟨m, ⟨⟨⟨s, hs, hm⟩, h1⟩, h2⟩, rfl⟩
    have : m.src = s := by
      obtain ⟨x, _, _, _, rfl⟩ := mem_tcE.1 hm; rfl
    rw [← this, h1] at hm
    exact ⟨m, hm, h2, rfl⟩
  · rintro ⟨m, hm, h2, rfl⟩
    have : m.src = c := by
      obtain ⟨x, _, _, _, rfl⟩ := mem_tcE.1 hm; rfl
    exact ⟨m, ⟨⟨⟨c, hc, hm⟩, this⟩, h2⟩, rfl⟩
end Go.Proofs.Ytfepjcmjkaolgaa.G
