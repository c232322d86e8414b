/- algebra.Invert: the inverse. Plain Lean. -/
import Derived.Test.YtoilmeiikgegcaaDoorGFin
import Derived.Test.YtoilmeiikgegcaaDoorGChn
set_option linter.all false
namespace Go.Proofs.YtoilmeiikgegcaaDoor.G
open Go Go.RowKit
def swA (x : Arc) : Arc := ⟨x.src, x.dst, x.out, x.inp⟩
def invT (t : Tra) : Tra := ⟨t.states, t.start, t.finals, t.arcs.map swA⟩
noncomputable def InvS (t : Tra) : Tra × Int := if validT t = true then FinS (invT t) t.states.toNat else (zeroTra, 1)
theorem inv_bad {t : Tra} (h : (!(validT t)) = true) : InvS t = (zeroTra, 1) := by rw [InvS, if_neg (by simpa using h)]
theorem inv_ok {t : Tra} {m : Nat} (h : validT t = true) (hm : t.states = m) : InvS t = FinS (invT t) m := by rw [InvS, if_pos h, hm, Int.toNat_natCast]
theorem inv_rng {t : Tra} {m : Nat} (hr : t.Rng m) : (invT t).Rng m := ⟨hr.start, hr.fin, fun x hx => by
  obtain ⟨y, hy, rfl⟩ := List.mem_map.1 hx
  exact hr.arcs y hy⟩
theorem inv_run {t : Tra} {p q : Int} {xs ys : List Int} (h : Run t p xs ys q) : Run (invT t) p ys xs q := by
  induction h with
  | nil p => exact .nil p
  | cons hx _ ih => exact .cons' (x := swA _) (List.mem_map.2 ⟨_, hx, rfl⟩) rfl ih rfl rfl
theorem inv_inv (t : Tra) : invT (invT t) = t := by
  cases t with
  | mk a b c d =>
    have h : (d.map swA).map swA = d := by
      rw [List.map_map]
      exact (List.map_congr_left fun x _ => by cases x; rfl).trans (List.map_id d)
    simp only [invT, h]
theorem inv_rel {t : Tra} {xs ys : List Int} : Rel (invT t) xs ys ↔ Rel t ys xs := by
  constructor
  · rintro ⟨f, hf, h⟩
    have := inv_run h
    rw [inv_inv] at this
    exact ⟨f, hf, this⟩
  · rintro ⟨f, hf, h⟩
    exact ⟨f, hf, inv_run h⟩
theorem inv_val {t : Tra} (hv : validT t = true) : ∃ u, InvS t = (u, 0) ∧ validT u = true ∧ ∀ xs ys, Rel u xs ys ↔ Rel t ys xs := by
  obtain ⟨m, ha, hf⟩ := valid_rng hv
  have hst := ha.st
  have hle := ha.le
  have hal := ha.alen
  have hr := inv_rng (ha.rng hf)
  have h1 : (TrimS (invT t) m).states ≤ 512 := by
    unfold TrimS
    split
    · have := rk_bound (kpS (invT t)) m; simp only []; omega
    · decide
  have h2 : (TrimS (invT t) m).arcs.length ≤ 4096 := by
    unfold TrimS
    split
    · refine Nat.le_trans (canon_len _) ?_
      have hB : ∀ x, (arcS (invT t) x).length ≤ 1 := fun x => by unfold arcS; split <;> simp
      have := flat_len hB (invT t).arcs
      have h3 : (invT t).arcs.length = t.arcs.length := by simp [invT]
      omega
    · decide
  have hl : ∀ x ∈ (invT t).arcs, vRune x.inp = true ∧ vRune x.out = true := fun x hx => by
    obtain ⟨y, hy, rfl⟩ := List.mem_map.1 hx
    exact (valid_lab hv y hy).symm
  refine ⟨TrimS (invT t) m, ?_, valid_trim hr hl h1 h2, fun xs ys => by rw [rel_trim hr, inv_rel]⟩
  rw [inv_ok hv hst, FinS, limS, if_neg]
  simp only [Bool.or_eq_true, decide_eq_true_eq]
  omega
theorem chk_swap (x z : ByteArray) : chkS [x, z] = chkS [z, x] := by
  unfold chkS
  simp only [List.all_cons, List.all_nil, Bool.and_true]
  rw [Bool.and_comm (okS x), Bool.and_comm (!longS x)]
theorem inverts_law {a b p q : Tra} {e f : Int} {x z : ByteArray} (hp : (p, e) = InvS a) (hq : (q, f) = InvS b) (he : e = 0) (hf : f = 0) : thrS a b x z = thrS q p z x := by
  subst he hf
  have hva : validT a = true := by
    cases h : validT a with
    | true => rfl
    | false => rw [inv_bad (by simp [h])] at hp; cases hp
  have hvb : validT b = true := by
    cases h : validT b with
    | true => rfl
    | false => rw [inv_bad (by simp [h])] at hq; cases hq
  obtain ⟨u, h1, hvu, hru⟩ := inv_val hva
  obtain ⟨v, h2, hvv, hrv⟩ := inv_val hvb
  rw [h1] at hp
  rw [h2] at hq
  cases hp
  cases hq
  obtain ⟨e1, e2⟩ := thr_val (x := x) (z := z) hva hvb
  obtain ⟨e3, e4⟩ := thr_val (x := z) (z := x) hvv hvu
  refine thr_pair (by rw [e1, e3, chk_swap]) ?_
  rw [e2, e4, chk_swap]
  refine and_congr_right fun _ => ⟨?_, ?_⟩
  · rintro ⟨ys, h3, h4⟩; exact ⟨ys, (hrv _ _).2 h4, (hru _ _).2 h3⟩
  · rintro ⟨ys, h3, h4⟩; exact ⟨ys, (hru _ _).1 h4, (hrv _ _).1 h3⟩
theorem inverts_err {a b p q : Tra} {e f : Int} (hp : (p, e) = InvS a) (hq : (q, f) = InvS b) (h : (!(decide (e = 0)) || !(decide (f = 0))) = true) : (decide (e = 1) || decide (f = 1)) = true := by
  have key : ∀ {t u : Tra} {g : Int}, (u, g) = InvS t → g = 0 ∨ g = 1 := fun {t u g} ht => by
    cases hv : validT t with
    | true => obtain ⟨_, h1, _⟩ := inv_val hv; rw [h1] at ht; cases ht; exact .inl rfl
    | false => rw [inv_bad (by simp [hv])] at ht; cases ht; exact .inr rfl
  rcases key hp with rfl | rfl <;> rcases key hq with rfl | rfl <;> simp at h ⊢
end Go.Proofs.YtoilmeiikgegcaaDoor.G
