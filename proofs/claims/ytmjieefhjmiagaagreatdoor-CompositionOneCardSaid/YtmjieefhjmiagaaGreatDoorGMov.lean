/- The steps of a transducer along a word: moves, and the net of what is written. Plain Lean. -/
import Derived.Test.YtmjieefhjmiagaaGreatDoorGMid
set_option linter.all false
namespace Go.Proofs.YtmjieefhjmiagaaGreatDoor.G
open Go Go.RowKit
def mv1 (l : List Int) (c : TCfg) (x : Arc) : List Move := if fitB l c.pos x.inp = true then [⟨c, ⟨x.dst, eatK c.pos.toNat x.inp⟩, x.out⟩] else []
def tcE (t : Tra) (l : List Int) (c : TCfg) : List Move := (t.outs c.state).flatMap (mv1 l c)
def tcN (t : Tra) (l : List Int) (c : TCfg) : List TCfg := (tcE t l c).map (·.dst)
theorem mv1_len (l : List Int) (c : TCfg) (x : Arc) : (mv1 l c x).length ≤ 1 := by unfold mv1; split <;> simp
theorem mv1_no {l : List Int} {c : TCfg} {x : Arc} (h : fitB l c.pos x.inp = false) : mv1 l c x = [] := by rw [mv1, h]; rfl
theorem mv1_yes {l : List Int} {p i : Nat} {x : Arc} {e : Int} (h : fitB l (i : Int) x.inp = true) (he : eatK i x.inp = e) : mv1 l ⟨p, i⟩ x = [⟨⟨p, i⟩, ⟨x.dst, e⟩, x.out⟩] := by
  rw [mv1, if_pos h, Int.toNat_natCast, he]
theorem tcE_len (t : Tra) (l : List Int) (c : TCfg) : (tcE t l c).length ≤ t.arcs.length := by
  have := flat_len (mv1_len l c) (t.outs c.state)
  have := t.outs_len c.state
  unfold tcE; omega
theorem mem_tcE {t : Tra} {l : List Int} {c : TCfg} {m : Move} : m ∈ tcE t l c ↔ ∃ x ∈ t.arcs, x.src = c.state ∧ fitB l c.pos x.inp = true ∧ m = ⟨c, ⟨x.dst, eatK c.pos.toNat x.inp⟩, x.out⟩ := by
  simp only [tcE, Tra.outs, List.mem_flatMap, List.mem_filter, decide_eq_true_eq]
  constructor
  · rintro ⟨x, ⟨h1, h2⟩, h⟩
    unfold mv1 at h
    split at h
    · rename_i hf; exact ⟨x, h1, h2, hf, by simpa using h⟩
    · simp at h
  · rintro ⟨x, h1, h2, h3, rfl⟩
    exact ⟨x, ⟨h1, h2⟩, by rw [mv1, if_pos h3]; simp⟩
theorem fit_or {l : List Int} {i : Nat} {r : Int} (hi : i ≤ l.length) (hr : ¬ r = 0) {b : Bool} (h : (decide ((i : Int) = (l.length : Int)) || !decide (l.getD i 0 = r)) = b) : fitB l (i : Int) r = !b := by
  subst h
  simp only [fitB, hr, decide_false, Bool.false_or, Int.toNat_natCast, List.getD_eq_getElem?_getD]
  by_cases e : i = l.length
  · subst e; simp
  · have h1 : ¬ (i : Int) = (l.length : Int) := by omega
    simp [List.getElem?_eq_getElem (show i < l.length by omega), h1]
def rect2 (m lx : Nat) : List TCfg := (List.range m).flatMap fun (p : Nat) => (List.range (lx + 1)).map fun (i : Nat) => ⟨p, i⟩
theorem mem_rect2 {m lx : Nat} {c : TCfg} : c ∈ rect2 m lx ↔ ∃ p i : Nat, c = ⟨p, i⟩ ∧ p < m ∧ i ≤ lx := by
  simp only [rect2, List.mem_flatMap, List.mem_range, List.mem_map]
  constructor
  · rintro ⟨p, hp, i, hi, rfl⟩; exact ⟨p, i, rfl, hp, by omega⟩
  · rintro ⟨p, i, rfl, hp, hi⟩; exact ⟨p, hp, i, by omega, rfl⟩
theorem rect2_len (m lx : Nat) : (rect2 m lx).length = m * (lx + 1) := by
  rw [rect2, flat_len_eq (B := lx + 1), List.length_range]
  intro p
  simp
theorem tc_step {t : Tra} {m : Nat} {l : List Int} (hr : ∀ x ∈ t.arcs, (0 ≤ x.src ∧ x.src < m) ∧ 0 ≤ x.dst ∧ x.dst < m) {c d : TCfg} (hc : c ∈ rect2 m l.length) (hd : d ∈ tcN t l c) : d ∈ rect2 m l.length := by
  obtain ⟨mv, hm, rfl⟩ := List.mem_map.1 hd
  obtain ⟨x, hx, hs, hf, rfl⟩ := mem_tcE.1 hm
  obtain ⟨p, i, rfl, hp, hi⟩ := mem_rect2.1 hc
  have hxr := hr x hx
  obtain ⟨k, e1, e2, _⟩ := fit_take hf hi
  simp only [Int.toNat_natCast]
  exact mem_rect2.2 ⟨x.dst.toNat, k, by rw [e1, Int.toNat_of_nonneg hxr.2.1], by omega, e2⟩
theorem tc_rect {t : Tra} {m : Nat} {l : List Int} (hr : ∀ x ∈ t.arcs, (0 ≤ x.src ∧ x.src < m) ∧ 0 ≤ x.dst ∧ x.dst < m) (hs : 0 ≤ t.start ∧ t.start < m) : ∀ c, Reach (tcN t l) (· = ⟨t.start, 0⟩) c → c ∈ rect2 m l.length := fun c h => by
  induction h with
  | base h => subst h; exact mem_rect2.2 ⟨t.start.toNat, 0, by rw [Int.toNat_of_nonneg hs.1]; rfl, by omega, Nat.zero_le _⟩
  | tail _ hy ih => exact tc_step hr ih hy
/-- The net of what is written along l. -/
def tnet (t : Tra) (l : List Int) : Net TCfg where
  sil c := ((tcE t l c).filter fun m => m.out = 0).map (·.dst)
  spk c := ((tcE t l c).filter fun m => !decide (m.out = 0)).map fun m => (m.out, m.dst)
  dn c := decide (c.pos = (l.length : Int)) && decide (c.state ∈ t.finals)
theorem mem_sil {t : Tra} {l : List Int} {c d : TCfg} : d ∈ (tnet t l).sil c ↔ ∃ m ∈ tcE t l c, m.out = 0 ∧ m.dst = d := by
  simp only [tnet, List.mem_map, List.mem_filter, decide_eq_true_eq, and_assoc]
theorem mem_spk {t : Tra} {l : List Int} {c d : TCfg} {r : Int} : (r, d) ∈ (tnet t l).spk c ↔ ∃ m ∈ tcE t l c, m.out ≠ 0 ∧ m.out = r ∧ m.dst = d := by
  simp only [tnet, List.mem_map, List.mem_filter, Bool.not_eq_true', decide_eq_false_iff_not, Prod.mk.injEq, and_assoc, ne_eq]
theorem wlk_run {t : Tra} {l w : List Int} {c d : TCfg} (h : Wlk (tnet t l) c w d) : ∀ {i : Nat}, c.pos = (i : Int) → i ≤ l.length → ∃ k : Nat, d.pos = (k : Int) ∧ k ≤ l.length ∧ ∃ u, l.take k = l.take i ++ u ∧ Run t c.state u w d.state := by
  induction h with
  | nil c => intro i h1 h2; exact ⟨i, h1, h2, [], by simp, .nil _⟩
  | @sil c d e w h1 _ ih =>
    intro i hi hl
    obtain ⟨m, hm, h0, rfl⟩ := mem_sil.1 h1
    obtain ⟨x, hx, hs, hf, rfl⟩ := mem_tcE.1 hm
    rw [hi] at hf
    obtain ⟨k, e1, e2, e3⟩ := fit_take hf hl
    simp only [hi, Int.toNat_natCast] at ih
    obtain ⟨k', g1, g2, u, g3, g4⟩ := ih e1 e2
    exact ⟨k', g1, g2, lab x.inp ++ u, by rw [g3, e3, List.append_assoc], .cons' hx hs g4 rfl (by simp only [] at h0; rw [h0]; rfl)⟩
  | @spk c d e r w h1 _ ih =>
    intro i hi hl
    obtain ⟨m, hm, h0, h0', rfl⟩ := mem_spk.1 h1
    obtain ⟨x, hx, hs, hf, rfl⟩ := mem_tcE.1 hm
    rw [hi] at hf
    obtain ⟨k, e1, e2, e3⟩ := fit_take hf hl
    simp only [hi, Int.toNat_natCast] at ih
    obtain ⟨k', g1, g2, u, g3, g4⟩ := ih e1 e2
    simp only [] at h0 h0'
    exact ⟨k', g1, g2, lab x.inp ++ u, by rw [g3, e3, List.append_assoc], .cons' hx hs g4 rfl (by rw [lab_ne h0, h0']; rfl)⟩
theorem run_wlk {t : Tra} {l : List Int} {p q : Int} {u w : List Int} (h : Run t p u w q) : ∀ {i : Nat} {u' : List Int}, l.drop i = u ++ u' → ∃ k : Nat, l.drop k = u' ∧ Wlk (tnet t l) ⟨p, i⟩ w ⟨q, k⟩ := by
  induction h with
  | nil => intro i u' h1; exact ⟨i, by simpa using h1, .nil _⟩
  | @cons x us ws q hx _ ih =>
    intro i u' h1
    obtain ⟨f1, k, e1, e2⟩ := fit_drop h1
    obtain ⟨k', g1, g2⟩ := ih e2
    have hm : (⟨⟨x.src, i⟩, ⟨x.dst, k⟩, x.out⟩ : Move) ∈ tcE t l ⟨x.src, i⟩ := mem_tcE.2 ⟨x, hx, rfl, f1, by simp only [Int.toNat_natCast, e1]⟩
    refine ⟨k', g1, ?_⟩
    by_cases h0 : x.out = 0
    · rw [h0, lab_zero, List.nil_append]
      exact .sil (mem_sil.2 ⟨_, hm, h0, rfl⟩) g2
    · rw [lab_ne h0]
      exact .spk (mem_spk.2 ⟨_, hm, h0, rfl, rfl⟩) g2
/-- The words of the net are what is related to l. -/
theorem acc_rel {t : Tra} {l w : List Int} : Acc (tnet t l) ⟨t.start, 0⟩ w ↔ Rel t l w := by
  constructor
  · rintro ⟨d, h, hd⟩
    obtain ⟨k, e1, e2, u, e3, r⟩ := wlk_run h (i := 0) rfl (Nat.zero_le _)
    simp only [tnet, Bool.and_eq_true, decide_eq_true_eq] at hd
    have : k = l.length := by omega
    subst this
    rw [List.take_length, List.take_zero, List.nil_append] at e3
    rw [← e3] at r
    exact ⟨d.state, hd.2, r⟩
  · rintro ⟨f, hf, r⟩
    obtain ⟨k, e1, e2⟩ := run_wlk (l := l) r (i := 0) (u' := []) (by simp)
    obtain ⟨k', g1, g2, u, g3, _⟩ := wlk_run e2 (i := 0) rfl (Nat.zero_le _)
    have hk : l.length ≤ k := by simpa using e1
    simp only [] at g1
    have : k = l.length := by omega
    subst this
    exact ⟨_, e2, by simp [tnet, hf]⟩
/-! distances by the moves -/
def preM (mv : List Move) (c : TCfg) : List (TCfg × Bool) := (mv.filter fun m => m.dst = c).map fun m => (m.src, !decide (m.out = 0))
theorem mem_preM {mv : List Move} {c b : TCfg} {k : Bool} : (b, k) ∈ preM mv c ↔ ∃ m ∈ mv, m.dst = c ∧ m.src = b ∧ (!decide (m.out = 0)) = k := by
  simp only [preM, List.mem_map, List.mem_filter, decide_eq_true_eq, Prod.mk.injEq, and_assoc]
def endsT (t : Tra) (l : List Int) : List TCfg := t.finals.map fun f => ⟨f, l.length⟩
theorem dn_ends {t : Tra} {l : List Int} {c : TCfg} : (tnet t l).dn c = true ↔ c ∈ endsT t l := by
  simp only [tnet, endsT, Bool.and_eq_true, decide_eq_true_eq, List.mem_map]
  constructor
  · rintro ⟨h1, h2⟩; exact ⟨c.state, h2, by cases c; simp only [] at h1; rw [h1]⟩
  · rintro ⟨f, hf, rfl⟩; exact ⟨rfl, hf⟩
theorem wlk_reach {t : Tra} {l w : List Int} {s c : TCfg} (h : Wlk (tnet t l) s w c) {P : TCfg → Prop} (hs : Reach (tcN t l) P s) : Reach (tcN t l) P c := by
  induction h with
  | nil => exact hs
  | sil h1 _ ih =>
    obtain ⟨m, hm, _, rfl⟩ := mem_sil.1 h1
    exact ih (.tail hs (List.mem_map.2 ⟨m, hm, rfl⟩))
  | spk h1 _ ih =>
    obtain ⟨m, hm, _, _, rfl⟩ := mem_spk.1 h1
    exact ih (.tail hs (List.mem_map.2 ⟨m, hm, rfl⟩))
theorem far_acc {t : Tra} {l : List Int} {K : List TCfg} {c : TCfg} {n : Nat} (h : Far (preM (K.flatMap (tcE t l))) (endsT t l) c n) : ∃ w, Acc (tnet t l) c w ∧ w.length = n := by
  induction h with
  | base h => exact ⟨[], ⟨_, .nil _, dn_ends.2 h⟩, rfl⟩
  | @tail c b n k _ hb ih =>
    obtain ⟨w, ⟨d, h1, h2⟩, h3⟩ := ih
    obtain ⟨m, hm, rfl, rfl, hk⟩ := mem_preM.1 hb
    obtain ⟨s, _, hm⟩ := List.mem_flatMap.1 hm
    have hs : m.src = s := by
      obtain ⟨x, _, _, _, rfl⟩ := mem_tcE.1 hm; rfl
    subst hs
    cases k with
    | false =>
      have h0 : m.out = 0 := by simpa using hk
      exact ⟨w, ⟨d, .sil (mem_sil.2 ⟨m, hm, h0, rfl⟩) h1, h2⟩, by simpa using h3⟩
    | true =>
      have h0 : m.out ≠ 0 := by simpa using hk
      exact ⟨m.out :: w, ⟨d, .spk (mem_spk.2 ⟨m, hm, h0, rfl, rfl⟩) h1, h2⟩, by simp [h3]⟩
theorem acc_far {t : Tra} {l : List Int} {K : List TCfg} (hK : Closure (tcN t l) (· = ⟨t.start, 0⟩) K) {c d : TCfg} {w : List Int} (h : Wlk (tnet t l) c w d) (hd : (tnet t l).dn d = true) : c ∈ K → Far (preM (K.flatMap (tcE t l))) (endsT t l) c w.length := by
  induction h with
  | nil => intro _; exact .base (dn_ends.1 hd)
  | @sil c e f w h1 _ ih =>
    intro hc
    obtain ⟨m, hm, h0, rfl⟩ := mem_sil.1 h1
    have hs : m.src = c := by
      obtain ⟨x, _, _, _, rfl⟩ := mem_tcE.1 hm; rfl
    have := ih hd ((hK.mem _).2 (.tail ((hK.mem _).1 hc) (List.mem_map.2 ⟨m, hm, rfl⟩)))
    have k := Far.tail this (mem_preM.2 ⟨m, List.mem_flatMap.2 ⟨c, hc, hm⟩, rfl, hs, rfl⟩)
    simpa [h0] using k
  | @spk c e f r w h1 _ ih =>
    intro hc
    obtain ⟨m, hm, h0, h0', rfl⟩ := mem_spk.1 h1
    have hs : m.src = c := by
      obtain ⟨x, _, _, _, rfl⟩ := mem_tcE.1 hm; rfl
    have := ih hd ((hK.mem _).2 (.tail ((hK.mem _).1 hc) (List.mem_map.2 ⟨m, hm, rfl⟩)))
    have k := Far.tail this (mem_preM.2 ⟨m, List.mem_flatMap.2 ⟨c, hc, hm⟩, rfl, hs, rfl⟩)
    simpa [h0] using k
/-- The table that the search leaves is right. -/
theorem dist_ok {t : Tra} {l : List Int} {K : List TCfg} {dist : List (TCfg × Int)} (hK : Closure (tcN t l) (· = ⟨t.start, 0⟩) K) (h : ∀ c k, okD dist c k = true ↔ ∃ m : Nat, Far (preM (K.flatMap (tcE t l))) (endsT t l) c m ∧ (m : Int) ≤ k) : DistOk (tnet t l) ⟨t.start, 0⟩ dist := fun c ⟨u, hu⟩ k => by
  rw [h]
  constructor
  · rintro ⟨m, hm, hk⟩
    obtain ⟨w, ha, hw⟩ := far_acc hm
    exact ⟨w, ha, by omega⟩
  · rintro ⟨w, ⟨d, h1, h2⟩, hk⟩
    exact ⟨w.length, acc_far hK h1 h2 ((hK.mem _).2 (wlk_reach hu (.base rfl))), hk⟩
/-! what the walk of distances leans on -/
theorem far_in {mv : List Move} {es : List TCfg} {c : TCfg} {k : Nat} (h : Far (preM mv) es c k) : c ∈ es ++ mv.map (·.src) := by
  cases h with
  | base h => exact List.mem_append_left _ h
  | tail _ hb =>
    obtain ⟨m, hm, _, rfl, _⟩ := mem_preM.1 hb
    exact List.mem_append_right _ (List.mem_map.2 ⟨m, hm, rfl⟩)
theorem grp_id {κ γ : Type} [DecidableEq κ] {key : γ → κ} {k : κ} {ls : List γ} : (aget (grp key (fun e => e) ls) k).getD [] = ls.filter fun e => key e = k := by
  rw [grp_look]; simp
theorem far_bd {mv : List Move} {es : List TCfg} {q n K : Nat} (hmv : mv.length ≤ 1048576) (hes : es.length ≤ 4096) (h : q + n ≤ es.length + K * mv.length + mv.length ∧ K ≤ es.length + mv.length) : q + n ≤ 1108101562368 := by
  have := Nat.mul_le_mul (show K ≤ 1052672 by omega) hmv
  omega
theorem tail_snoc {α : Type} {l : List α} {x y : α} (h : l = x :: l.tail) : (l ++ [y]).tail = l.tail ++ [y] := by rw [h]; rfl
theorem far_mu {U D D' A q q' n n' k6 : Nat} (hroom : D + 1 ≤ U) (hp : D' = D + 1) (hl : q' + n' ≤ q + n + k6 ∧ q' ≤ q + k6) (hk : k6 ≤ A) (hq : 1 ≤ q') : (U - D') * (A + 1) + (q' - 1) < (U - D) * (A + 1) + q := by
  obtain ⟨E, hE⟩ : ∃ E, U - D = E + 1 := ⟨U - D - 1, by omega⟩
  have e : U - D' = E := by omega
  rw [hE, e, Nat.add_mul, Nat.one_mul]
  omega
/-! what the walk of closed leans on -/
def silM (mv : List Move) (c : TCfg) : List TCfg := ((mv.filter fun m => m.src = c).filter fun m => m.out = 0).map (·.dst)
theorem silM_len (mv : List Move) (c : TCfg) : (silM mv c).length ≤ mv.length := by
  rw [silM, List.length_map]
  exact Nat.le_trans (List.length_filter_le _ _) (List.length_filter_le _ _)
theorem clo_mu {C : Type} {D K A : Nat} {x : C} {qs ss : List C} (hroom : K + 1 ≤ D) (hs : ss.length ≤ A) {Kl : List C} (hK : Kl.length = K) : (D - (Kl ++ [x]).length) * (A + 1) + ((x :: qs ++ ss).drop 1).length < (D - Kl.length) * (A + 1) + (x :: qs).length := by
  obtain ⟨E, hE⟩ : ∃ E, D - K = E + 1 := ⟨D - K - 1, by omega⟩
  rw [List.length_append, List.length_singleton, hK, hE, show D - (K + 1) = E by omega, Nat.add_mul, Nat.one_mul]
  simp only [List.cons_append, List.drop_one, List.tail_cons, List.length_append, List.length_cons]
  omega
/-- The silent steps by the moves are the net's. -/
theorem silM_net {t : Tra} {l : List Int} {K : List TCfg} {c d : TCfg} (hc : c ∈ K) : d ∈ silM (K.flatMap (tcE t l)) c ↔ d ∈ (tnet t l).sil c := by
  rw [mem_sil]
  simp only [silM, List.mem_map, List.mem_filter, decide_eq_true_eq, List.mem_flatMap]
  constructor
  · rintro ⟨m, ⟨⟨⟨s, hs, hm⟩, h1⟩, h2⟩, rfl⟩
    have : m.src = s := by
      obtain ⟨x, _, _, _, rfl⟩ := mem_tcE.1 hm; rfl
    rw [← this, h1] at hm
    exact ⟨m, hm, h2, rfl⟩
  · rintro ⟨m, hm, h2, rfl⟩
    have : m.src = c := by
      obtain ⟨x, _, _, _, rfl⟩ := mem_tcE.1 hm; rfl
    exact ⟨m, ⟨⟨⟨c, hc, hm⟩, this⟩, h2⟩, rfl⟩
end Go.Proofs.YtmjieefhjmiagaaGreatDoor.G
