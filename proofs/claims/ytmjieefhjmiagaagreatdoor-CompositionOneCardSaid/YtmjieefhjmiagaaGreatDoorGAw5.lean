/- The example of the chapter on composition, and the laws' plain parts. Plain Lean. -/
import Derived.Test.YtmjieefhjmiagaaGreatDoorGBtw
import Derived.Test.YtmjieefhjmiagaaGreatDoorGRel
set_option linter.all false
namespace Go.Proofs.YtmjieefhjmiagaaGreatDoor.G
open Go Go.RowKit
def awA : Tra := ⟨2, 0, [1], [⟨0, 1, 97, 98⟩]⟩
def awB : Tra := ⟨2, 0, [1], [⟨0, 1, 98, 99⟩]⟩
def awT : Tra := ⟨2, 0, [1], [⟨0, 1, 97, 99⟩]⟩
theorem aw_arcs : (rawT awA awB).arcs = [⟨0, 3, 97, 99⟩] := by decide
theorem canon_one (x : Arc) : canon [x] = [x] := by
  have h : (canon [x]).Pairwise ltArc := canon_sorted _
  exact sorted_ext h (by simp) fun y => mem_canon
theorem aw_bt (s : Int) : bt [true, false, false, true] s ↔ s = 0 ∨ s = 3 := by
  unfold bt
  constructor
  · rintro ⟨h0, h⟩
    obtain ⟨k, rfl⟩ : ∃ k : Nat, s = (k : Int) := ⟨s.toNat, by omega⟩
    simp only [Int.toNat_natCast] at h
    match k, h with
    | 0, _ => exact .inl rfl
    | 1, h => simp at h
    | 2, h => simp at h
    | 3, _ => exact .inr rfl
    | k + 4, h => simp at h
  · rintro (rfl | rfl) <;> exact ⟨by decide, rfl⟩
theorem aw_up (s : Int) : bt [true, false, false, true] s ↔ Reach (stp (rawT awA awB) true) (· ∈ [(rawT awA awB).start]) s := by
  rw [aw_bt]
  have h0 : Reach (stp (rawT awA awB) true) (· ∈ [(rawT awA awB).start]) 0 := .base (by decide)
  constructor
  · rintro (rfl | rfl)
    · exact h0
    · exact .tail h0 (mem_stp.2 ⟨⟨0, 3, 97, 99⟩, by rw [aw_arcs]; simp, rfl, rfl⟩)
  · intro h
    cases h with
    | base h => left; rw [List.mem_singleton.1 h]; decide
    | tail _ hy =>
      obtain ⟨x, hx, _, rfl⟩ := mem_stp.1 hy
      rw [aw_arcs, List.mem_singleton] at hx
      subst hx; right; rfl
theorem aw_dn (s : Int) : bt [true, false, false, true] s ↔ Reach (stp (rawT awA awB) false) (· ∈ (rawT awA awB).finals) s := by
  rw [aw_bt]
  have h0 : Reach (stp (rawT awA awB) false) (· ∈ (rawT awA awB).finals) 3 := .base (by decide)
  constructor
  · rintro (rfl | rfl)
    · exact .tail h0 (mem_stp.2 ⟨⟨0, 3, 97, 99⟩, by rw [aw_arcs]; simp, rfl, rfl⟩)
    · exact h0
  · intro h
    cases h with
    | base h =>
      right
      have e : (rawT awA awB).finals = [3] := by decide
      rw [e] at h; exact List.mem_singleton.1 h
    | tail _ hy =>
      obtain ⟨x, hx, _, rfl⟩ := mem_stp.1 hy
      rw [aw_arcs, List.mem_singleton] at hx
      subst hx; left; rfl
theorem aw_trim : trimT (rawT awA awB) 4 [true, false, false, true] [true, false, false, true] = awT := by
  have e : (rawT awA awB).arcs.flatMap (arcG [true, false, false, true] [true, false, false, true]) = [⟨0, 1, 97, 99⟩] := by decide
  unfold trimT
  rw [if_pos (by decide), e, canon_one]
  decide
theorem aw_comp : CompS awA awB = (awT, 0) := by
  refine (ref_S ?_).symm
  unfold RefRes
  rw [if_neg (by decide)]
  refine ⟨[true, false, false, true], [true, false, false, true], rfl, rfl, aw_up, aw_dn, ?_⟩
  have e : awA.states.toNat * awB.states.toNat = 4 := by decide
  rw [e, aw_trim, if_neg (by decide)]
  exact ⟨rfl, rfl⟩
theorem aw_thr : thrS awA awB ⟨#[97]⟩ ⟨#[99]⟩ = (true, 0) := by
  have e : btwE awA awB ⟨#[97]⟩ ⟨#[99]⟩ = 0 := by decide +kernel
  refine thr_yes e (c := ⟨1, 1, 1, 1⟩) (.tail (.base rfl) ?_) (by decide +kernel)
  decide +kernel
theorem aw_big : (awA.states.toNat * awB.states.toNat + 1) * (awA.arcs.length * (awB.arcs.length + 1) + awB.arcs.length + 1) ≤ 1099511627776 := by decide
theorem few_big {a b : Tra} (ha : fewB a = true) (hb : fewB b = true) : (a.states.toNat * b.states.toNat + 1) * (a.arcs.length * (b.arcs.length + 1) + b.arcs.length + 1) ≤ 1099511627776 := by
  simp only [fewB, Bool.not_eq_true', Bool.or_eq_false_iff, decide_eq_false_iff_not] at ha hb
  have h1 := Nat.mul_le_mul (show a.states.toNat ≤ 5 by omega) (show b.states.toNat ≤ 5 by omega)
  have h2 := Nat.mul_le_mul (show a.arcs.length ≤ 12 by omega) (show b.arcs.length + 1 ≤ 13 by omega)
  exact Nat.le_trans (Nat.mul_le_mul (show _ ≤ 26 by omega) (show _ ≤ 169 by omega)) (by decide)
theorem rdTras2 {I : Heap} {u : SV} {a b : Tra} {fa aa fb ab : SV} (R : rdSl ETra I (sv u) [⟨a.states, a.start, fa, aa⟩, ⟨b.states, b.start, fb, ab⟩]) (h1 : rdSl EInt I (sv fa) a.finals) (h2 : rdSl EArc I (sv aa) a.arcs) (h3 : rdSl EInt I (sv fb) b.finals) (h4 : rdSl EArc I (sv ab) b.arcs) : rdTras I (sv u) [a, b] := by
  refine ⟨_, R, rfl, fun j r t hr ht => ?_⟩
  match j, hr, ht with
  | 0, hr, ht => simp at hr ht; subst hr ht; exact ⟨fa, aa, rfl, h1, h2⟩
  | 1, hr, ht => simp at hr ht; subst hr ht; exact ⟨fb, ab, rfl, h3, h4⟩
  | j + 2, hr, ht => simp at hr
theorem rdTras3 {I : Heap} {u : SV} {a b c : Tra} {fa aa fb ab fc ac : SV} (R : rdSl ETra I (sv u) [⟨a.states, a.start, fa, aa⟩, ⟨b.states, b.start, fb, ab⟩, ⟨c.states, c.start, fc, ac⟩]) (h1 : rdSl EInt I (sv fa) a.finals) (h2 : rdSl EArc I (sv aa) a.arcs) (h3 : rdSl EInt I (sv fb) b.finals) (h4 : rdSl EArc I (sv ab) b.arcs) (h5 : rdSl EInt I (sv fc) c.finals) (h6 : rdSl EArc I (sv ac) c.arcs) : rdTras I (sv u) [a, b, c] := by
  refine ⟨_, R, rfl, fun j r t hr ht => ?_⟩
  match j, hr, ht with
  | 0, hr, ht => simp at hr ht; subst hr ht; exact ⟨fa, aa, rfl, h1, h2⟩
  | 1, hr, ht => simp at hr ht; subst hr ht; exact ⟨fb, ab, rfl, h3, h4⟩
  | 2, hr, ht => simp at hr ht; subst hr ht; exact ⟨fc, ac, rfl, h5, h6⟩
  | j + 3, hr, ht => simp at hr
end Go.Proofs.YtmjieefhjmiagaaGreatDoor.G
