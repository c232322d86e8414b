/- Through reports whether some string lies between; composing associates. Plain Lean. -/
/- Marks on numbers while pairs of numbers are gone through: what a reference's search means. Plain Lean. -/
import Derived.Test.YtmjieefhjmiagaaGreatDoorGBtw
import Derived.Test.YtmjieefhjmiagaaGreatDoorGRel
set_option linter.all false
namespace Go.Proofs.YtmjieefhjmiagaaGreatDoor.G
open Go Go.RowKit
theorem eatB_fit {l : List Int} {k : Nat} {r : Int} : eatB l k r = fitB l (k : Int) r := by
  unfold eatB fitB
  by_cases h : r = 0
  · simp [h]
  · rw [if_neg h]
    simp only [h, decide_false, Bool.false_or, Int.toNat_natCast]
    rw [Bool.eq_iff_iff]
    simp only [Bool.and_eq_true, decide_eq_true_eq]
    constructor
    · rintro ⟨h1, h2⟩
      have hk : k < l.length := by omega
      rw [getD_of (List.getElem?_eq_getElem hk)] at h2
      rw [List.getElem?_eq_getElem hk, h2]
    · intro h1
      obtain ⟨h2, h3⟩ := List.getElem?_eq_some_iff.1 h1
      exact ⟨by omega, by rw [getD_of h1]⟩
theorem eatK_zero {k : Nat} : eatK k 0 = (k : Int) := by simp [eatK]
theorem fitB_zero {l : List Int} {k : Int} : fitB l k 0 = true := by simp [fitB]
theorem mem_outs {t : Tra} {s : Int} {x : Arc} : x ∈ t.outs s ↔ x ∈ t.arcs ∧ x.src = s := by simp [Tra.outs]
theorem mem_cfgN {a b : Tra} {xs zs : List Int} {p i q j : Nat} {d : Config} : d ∈ cfgN a b xs zs ⟨(p : Int), (i : Int), (q : Int), (j : Int)⟩ ↔ ∃ e ∈ compE a b ⟨(p : Int), (q : Int)⟩, fitB xs (i : Int) e.inp = true ∧ fitB zs (j : Int) e.out = true ∧ d = ⟨e.dst.p, eatK i e.inp, e.dst.q, eatK j e.out⟩ := by
  rw [cfgN, silL_of, spkL_of]
  simp only [List.mem_append, List.mem_map]
  constructor
  · rintro ((h | h) | ⟨⟨r, c⟩, h, rfl⟩)
    · obtain ⟨x, hx, h⟩ := List.mem_flatMap.1 h
      unfold silA at h
      split at h
      · rename_i hc
        rw [Bool.and_eq_true, decide_eq_true_eq, eatB_fit] at hc
        obtain ⟨hx1, hx2⟩ := mem_outs.1 hx
        refine ⟨_, mem_compE.2 (.inl ⟨x, hx1, hx2, hc.2, rfl⟩), hc.1, fitB_zero, ?_⟩
        rw [List.mem_singleton.1 h, eatK_zero]
      · simp at h
    · obtain ⟨y, hy, h⟩ := List.mem_flatMap.1 h
      unfold silB at h
      split at h
      · rename_i hc
        rw [Bool.and_eq_true, decide_eq_true_eq, eatB_fit] at hc
        obtain ⟨hy1, hy2⟩ := mem_outs.1 hy
        refine ⟨_, mem_compE.2 (.inr (.inr ⟨y, hy1, hy2, hc.2, rfl⟩)), fitB_zero, hc.1, ?_⟩
        rw [List.mem_singleton.1 h, eatK_zero]
      · simp at h
    · obtain ⟨x, hx, h⟩ := List.mem_flatMap.1 h
      unfold spkA at h
      split at h
      · simp at h
      · rename_i h1
        simp only [Bool.or_eq_true, Bool.not_eq_true', not_or, Bool.not_eq_false, decide_eq_true_eq] at h1
        obtain ⟨y, hy, h⟩ := List.mem_flatMap.1 h
        unfold spkB at h
        split at h
        · rename_i h2
          rw [Bool.and_eq_true, decide_eq_true_eq, eatB_fit] at h2
          rw [eatB_fit] at h1
          obtain ⟨hx1, hx2⟩ := mem_outs.1 hx
          obtain ⟨hy1, hy2⟩ := mem_outs.1 hy
          have := List.mem_singleton.1 h
          cases this
          exact ⟨_, mem_compE.2 (.inr (.inl ⟨x, hx1, y, hy1, hx2, hy2, h1.2, h2.2, rfl⟩)), h1.1, h2.1, rfl⟩
        · simp at h
  · rintro ⟨e, he, h1, h2, rfl⟩
    rcases mem_compE.1 he with ⟨x, hx, hsp, h0, rfl⟩ | ⟨x, hx, y, hy, hsp, hsq, h0, h3, rfl⟩ | ⟨y, hy, hsq, h0, rfl⟩
    · refine .inl (.inl (List.mem_flatMap.2 ⟨x, mem_outs.2 ⟨hx, hsp⟩, ?_⟩))
      rw [silA, if_pos (by rw [Bool.and_eq_true, decide_eq_true_eq, eatB_fit]; exact ⟨h1, h0⟩), eatK_zero]
      simp
    · refine .inr ⟨(x.out, ⟨x.dst, eatK i x.inp, y.dst, eatK j y.out⟩), List.mem_flatMap.2 ⟨x, mem_outs.2 ⟨hx, hsp⟩, ?_⟩, rfl⟩
      rw [spkA, if_neg (by simp only [Bool.or_eq_true, Bool.not_eq_true', not_or, Bool.not_eq_false, decide_eq_true_eq, eatB_fit]; exact ⟨h1, h0⟩)]
      refine List.mem_flatMap.2 ⟨y, mem_outs.2 ⟨hy, hsq⟩, ?_⟩
      rw [spkB, if_pos (by rw [Bool.and_eq_true, decide_eq_true_eq, eatB_fit]; exact ⟨h2, h3⟩)]
      simp
    · refine .inl (.inr (List.mem_flatMap.2 ⟨y, mem_outs.2 ⟨hy, hsq⟩, ?_⟩))
      rw [silB, if_pos (by rw [Bool.and_eq_true, decide_eq_true_eq, eatB_fit]; exact ⟨h2, h0⟩), eatK_zero]
      simp
def toPl (n : Nat) (c : Config) : Place := ⟨enc n ⟨c.p, c.q⟩, c.i, c.j⟩
section
variable {a b : Tra} {m n : Nat} {xs zs : List Int}
theorem raw_start (hb : b.Ok n) : (rawT a b).start = enc n ⟨a.start, b.start⟩ := by simp [rawT, enc, hb.st]
theorem cfg_pl (ha : a.Ok m) (hb : b.Ok n) {c : Config} (h : Reach (cfgN a b xs zs) (· = ⟨a.start, 0, b.start, 0⟩) c) : Reach (plN (rawT a b) xs zs) (· = ⟨(rawT a b).start, 0, 0⟩) (toPl n c) := by
  induction h with
  | base h => subst h; exact .base (by rw [raw_start hb]; rfl)
  | @tail x y hx hy ih =>
    obtain ⟨p, i, q, j, rfl, hp, hi, hq, hj⟩ := mem_rect4.1 (cfg_rect ha hb x hx)
    obtain ⟨e, he, h1, h2, rfl⟩ := mem_cfgN.1 hy
    refine .tail ih (mem_plN.2 ⟨encA n e, (raw_iff ha hb).2 ⟨⟨p, q⟩, mem_rect.2 ⟨⟨by simp only []; omega, by simp only []; omega⟩, by simp only []; omega, by simp only []; omega⟩, e, he, rfl⟩, ?_, h1, h2, ?_⟩)
    · show enc n e.src = _
      rw [mem_compE_src he]; rfl
    · simp [toPl, encA]
theorem pl_cfg (ha : a.Ok m) (hb : b.Ok n) {k : Place} (h : Reach (plN (rawT a b) xs zs) (· = ⟨(rawT a b).start, 0, 0⟩) k) : ∃ c, Reach (cfgN a b xs zs) (· = ⟨a.start, 0, b.start, 0⟩) c ∧ toPl n c = k := by
  induction h with
  | base h => exact ⟨_, .base rfl, by rw [h, raw_start hb]; rfl⟩
  | tail _ hy ih =>
    obtain ⟨c, hc, rfl⟩ := ih
    obtain ⟨p, i, q, j, rfl, hp, hi, hq, hj⟩ := mem_rect4.1 (cfg_rect ha hb c hc)
    obtain ⟨x, hx, hs, h1, h2, rfl⟩ := mem_plN.1 hy
    obtain ⟨s, hsr, e, he, rfl⟩ := (raw_iff ha hb).1 hx
    have hsrc := mem_compE_src he
    have hpq : (⟨p, q⟩ : Pair) ∈ rect m n := mem_rect.2 ⟨⟨by simp only []; omega, by simp only []; omega⟩, by simp only []; omega, by simp only []; omega⟩
    have : s = ⟨p, q⟩ := enc_inj hsr hpq (by rw [← hsrc]; exact hs)
    subst this
    exact ⟨_, .tail hc (mem_cfgN.2 ⟨e, he, h1, h2, rfl⟩), by simp [toPl, encA]⟩
theorem cfg_rel (ha : a.Ok m) (hb : b.Ok n) (hfa : ∀ p ∈ a.finals, 0 ≤ p ∧ p < (m : Int)) (hfb : ∀ p ∈ b.finals, 0 ≤ p ∧ p < (n : Int)) : (∃ c, Reach (cfgN a b xs zs) (· = ⟨a.start, 0, b.start, 0⟩) c ∧ doneB a b xs zs c = true) ↔ Rel (rawT a b) xs zs := by
  rw [rel_iff]
  constructor
  · rintro ⟨c, hc, hd⟩
    simp only [doneB, Bool.and_eq_true, decide_eq_true_eq] at hd
    obtain ⟨⟨⟨h1, h2⟩, h3⟩, h4⟩ := hd
    refine ⟨enc n ⟨c.p, c.q⟩, List.mem_flatMap.2 ⟨c.p, h3, List.mem_flatMap.2 ⟨c.q, h4, by simp [rawF1, enc, hb.st]⟩⟩, ?_⟩
    have := cfg_pl ha hb hc
    rw [toPl, h1, h2] at this
    exact this
  · rintro ⟨f, hf, h⟩
    obtain ⟨c, hc, e⟩ := pl_cfg ha hb h
    obtain ⟨p, hp, hf⟩ := List.mem_flatMap.1 hf
    obtain ⟨q, hq, hf⟩ := List.mem_flatMap.1 hf
    have hf : f = enc n ⟨p, q⟩ := by rw [List.mem_singleton.1 hf, enc, hb.st]
    simp only [toPl, Place.mk.injEq] at e
    obtain ⟨e1, e2, e3⟩ := e
    obtain ⟨p', i, q', j, rfl, hp', hi, hq', hj⟩ := mem_rect4.1 (cfg_rect ha hb c hc)
    have : (⟨(p' : Int), (q' : Int)⟩ : Pair) = ⟨p, q⟩ := enc_inj (n := n) (mem_rect.2 ⟨⟨by simp only []; omega, by simp only []; omega⟩, by simp only []; omega, by simp only []; omega⟩) (mem_rect.2 ⟨hfa p hp, hfb q hq⟩) (e1.trans hf)
    simp only [Pair.mk.injEq] at this
    refine ⟨_, hc, ?_⟩
    simp only [doneB, Bool.and_eq_true, decide_eq_true_eq]
    exact ⟨⟨⟨e2, e3⟩, by rw [this.1]; exact hp⟩, by rw [this.2]; exact hq⟩
end
def MidP (a b : Tra) (xs zs : List Int) : Prop := ∃ ys, Rel a xs ys ∧ Rel b ys zs
theorem valid_rng {t : Tra} (h : validT t = true) : ∃ m, t.Ok m ∧ ∀ p ∈ t.finals, 0 ≤ p ∧ p < (m : Int) := by
  obtain ⟨m, ha, _, _⟩ := validT_ok h
  exact ⟨m, ha, fun p hp => by have := validT_fin h p hp; rwa [ha.st] at this⟩
theorem thr_val {a b : Tra} {x z : ByteArray} (hva : validT a = true) (hvb : validT b = true) : (thrS a b x z).2 = chkS [x, z] ∧ ((thrS a b x z).1 = true ↔ chkS [x, z] = 0 ∧ MidP a b (runesL x) (runesL z)) := by
  have he : btwE a b x z = chkS [x, z] := by rw [btwE, if_neg (by simp [hva, hvb])]
  obtain ⟨m, ha, hra⟩ := valid_rng hva
  obtain ⟨n, hb, hrb⟩ := valid_rng hvb
  have h1 := cfg_rel ha hb hra hrb (xs := runesL x) (zs := runesL z)
  rw [rel_raw ha hb hra hrb] at h1
  unfold thrS
  rw [he]
  by_cases h0 : chkS [x, z] = 0
  · rw [if_pos h0]
    refine ⟨h0.symm, ?_⟩
    simp only [decide_eq_true_eq]
    exact ⟨fun h => ⟨h0, h1.1 h⟩, fun h => h1.2 h.2⟩
  · rw [if_neg h0]
    refine ⟨rfl, ?_⟩
    simp [h0]
theorem valid_lab {t : Tra} (h : validT t = true) : ∀ x ∈ t.arcs, vRune x.inp = true ∧ vRune x.out = true := by
  simp only [validT, Bool.and_eq_true] at h
  intro x hx
  have := List.all_eq_true.1 h.2.1.2 x hx
  simp only [arcOk, Bool.not_eq_true', Bool.or_eq_false_iff, Bool.not_eq_false'] at this
  exact ⟨this.1.2, this.2⟩
theorem raw_lab {a b : Tra} (hva : validT a = true) (hvb : validT b = true) : ∀ x ∈ (rawT a b).arcs, vRune x.inp = true ∧ vRune x.out = true := by
  intro z hz
  rcases mem_raw.1 hz with ⟨x, hx, h0, q, hq, rfl⟩ | ⟨x, hx, y, hy, h0, h1, rfl⟩ | ⟨y, hy, h0, p, hp, rfl⟩
  · exact ⟨(valid_lab hva x hx).1, (by decide : vRune 0 = true)⟩
  · exact ⟨(valid_lab hva x hx).1, (valid_lab hvb y hy).2⟩
  · exact ⟨(by decide : vRune 0 = true), (valid_lab hvb y hy).2⟩
/-- What a composition that came off is. -/
theorem comp_ok {a b t : Tra} (h : (t, (0 : Int)) = CompS a b) : (validT a = true ∧ validT b = true) ∧ validT t = true ∧ ∀ xs zs, Rel t xs zs ↔ MidP a b xs zs := by
  unfold CompS at h
  split at h
  · cases h
  · rename_i hv
    have hvv : validT a = true ∧ validT b = true := by simpa using hv
    refine ⟨hvv, ?_⟩
    obtain ⟨m, ha, hra⟩ := valid_rng hvv.1
    obtain ⟨n, hb, hrb⟩ := valid_rng hvv.2
    have hN : a.states.toNat * b.states.toNat = m * n := by rw [ha.st, hb.st]; rfl
    rw [hN] at h
    have hrng : (rawT a b).Rng (m * n) := ⟨by have := raw_rng ha.start hb.start; rw [← hb.st] at this; exact this, raw_fin hb hra hrb, raw_arcs ha hb⟩
    unfold limS at h
    split at h
    · cases h
    · rename_i hl
      simp only [Prod.mk.injEq, and_true] at h
      subst h
      simp only [Bool.or_eq_true, decide_eq_true_eq, not_or] at hl
      refine ⟨valid_trim hrng (raw_lab hvv.1 hvv.2) (by omega) (by omega), fun xs zs => ?_⟩
      rw [rel_trim hrng, rel_raw ha hb hra hrb]; rfl
theorem rk_bound (kp : Nat → Bool) (k : Nat) : rk kp k ≤ k := rk_le kp k
/-- Small transducers compose. -/
theorem comp_few {a b : Tra} (ha : fewB a = true) (hb : fewB b = true) : ((CompS a b).2 = 0 ∧ validT a = true ∧ validT b = true) ∨ ((CompS a b).2 = 1 ∧ ¬ (validT a = true ∧ validT b = true)) := by
  unfold CompS
  split
  · rename_i hv
    exact .inr ⟨rfl, fun h => by simp [h.1, h.2] at hv⟩
  · rename_i hv
    have hvv : validT a = true ∧ validT b = true := by simpa using hv
    refine .inl ⟨?_, hvv⟩
    simp only [fewB, Bool.not_eq_true', Bool.or_eq_false_iff, decide_eq_false_iff_not] at ha hb
    have h1 := Nat.mul_le_mul (show a.states.toNat ≤ 5 by omega) (show b.states.toNat ≤ 5 by omega)
    have hs : (TrimS (rawT a b) (a.states.toNat * b.states.toNat)).states ≤ 25 := by
      unfold TrimS
      split
      · have := rk_bound (kpS (rawT a b)) (a.states.toNat * b.states.toNat)
        simp only []; omega
      · decide
    have hl : (TrimS (rawT a b) (a.states.toNat * b.states.toNat)).arcs.length ≤ 4096 := by
      unfold TrimS
      split
      · refine Nat.le_trans (canon_len _) ?_
        have hB : ∀ x, (arcS (rawT a b) x).length ≤ 1 := fun x => by unfold arcS; split <;> simp
        have h2 := flat_len hB (rawT a b).arcs
        have h3 := flat_len (rawA_len b) a.arcs
        have h4 := flat_len (rawB_len a b) b.arcs
        have h5 := Nat.mul_le_mul (show a.arcs.length ≤ 12 by omega) (show b.states.toNat + b.arcs.length ≤ 17 by omega)
        have h6 := Nat.mul_le_mul (show b.arcs.length ≤ 12 by omega) (show a.states.toNat ≤ 5 by omega)
        have h7 : (rawT a b).arcs.length = (a.arcs.flatMap (rawA b)).length + (b.arcs.flatMap (rawB a b)).length := by simp [rawT]
        omega
      · decide
    unfold limS
    rw [if_neg (by simp only [Bool.or_eq_true, decide_eq_true_eq]; omega)]
theorem thr_pair {p q : Bool × Int} (h1 : p.2 = q.2) (h2 : p.1 = true ↔ q.1 = true) : p = q := by
  obtain ⟨a, b⟩ := p
  obtain ⟨c, d⟩ := q
  simp only [] at h1 h2
  rw [h1, Bool.eq_iff_iff.2 h2]
theorem thr_assoc {a b c ab bc : Tra} {x z : ByteArray} (h1 : (ab, (0 : Int)) = CompS a b) (h2 : (bc, (0 : Int)) = CompS b c) : thrS ab c x z = thrS a bc x z := by
  obtain ⟨⟨hva, hvb⟩, hvab, r1⟩ := comp_ok h1
  obtain ⟨⟨_, hvc⟩, hvbc, r2⟩ := comp_ok h2
  obtain ⟨e1, e2⟩ := thr_val (x := x) (z := z) hvab hvc
  obtain ⟨e3, e4⟩ := thr_val (x := x) (z := z) hva hvbc
  refine thr_pair (by rw [e1, e3]) ?_
  rw [e2, e4]
  refine and_congr_right fun _ => ?_
  constructor
  · rintro ⟨ys, h3, h4⟩
    obtain ⟨us, h5, h6⟩ := (r1 _ _).1 h3
    exact ⟨us, h5, (r2 _ _).2 ⟨ys, h6, h4⟩⟩
  · rintro ⟨us, h5, h3⟩
    obtain ⟨ys, h6, h4⟩ := (r2 _ _).1 h3
    exact ⟨ys, (r1 _ _).2 ⟨us, h5, h6⟩, h4⟩
theorem few3_all {a b c : Tra} (h : ([a, b, c].all fewB) = true) : fewB a = true ∧ fewB b = true ∧ fewB c = true := by simpa using h
theorem few2_all {a b : Tra} (h : ([a, b].all fewB) = true) : fewB a = true ∧ fewB b = true := by simpa using h
theorem few_lens {a : Tra} (h : fewB a = true) : a.states ≤ 5 ∧ a.arcs.length ≤ 12 ∧ a.finals.length ≤ 6 := by
  simp only [fewB, Bool.not_eq_true', Bool.or_eq_false_iff, decide_eq_false_iff_not] at h
  omega
theorem few3_lens {a b c : Tra} (h : ([a, b, c].all fewB) = true) : a.arcs.length ≤ 12 ∧ b.arcs.length ≤ 12 ∧ c.arcs.length ≤ 12 := by
  obtain ⟨h1, h2, h3⟩ := few3_all h
  exact ⟨(few_lens h1).2.1, (few_lens h2).2.1, (few_lens h3).2.1⟩
theorem brief2 {x z : ByteArray} (h : ([x, z].all fun s => !decide (20 < (s.size : Int))) = true) : x.size ≤ 20 ∧ z.size ≤ 20 := by
  simp at h; omega
theorem brief3 {x y z : ByteArray} (h : ([x, y, z].all fun s => !decide (20 < (s.size : Int))) = true) : x.size ≤ 20 ∧ y.size ≤ 20 ∧ z.size ≤ 20 := by
  simp at h; omega
theorem assoc_err {a b c t u : Tra} {e f : Int} (ha : fewB a = true) (hb : fewB b = true) (hc : fewB c = true) (h1 : (t, e) = CompS a b) (h2 : (u, f) = CompS b c) (h : (!(decide (e = 0)) || !(decide (f = 0))) = true) : (decide (e = 1) || decide (f = 1)) = true := by
  have e1 : e = (CompS a b).2 := congrArg Prod.snd h1
  have e2 : f = (CompS b c).2 := congrArg Prod.snd h2
  rcases comp_few ha hb with ⟨h3, _⟩ | ⟨h3, _⟩ <;> rcases comp_few hb hc with ⟨h4, _⟩ | ⟨h4, _⟩ <;> simp [e1, e2, h3, h4] at h ⊢
end Go.Proofs.YtmjieefhjmiagaaGreatDoor.G

set_option linter.all false
namespace Go.Proofs.YtmjieefhjmiagaaGreatDoor.G
open Go Go.RowKit
def on (l : List Bool) (i : Nat) : Prop := l[i]? = some true
theorem on_set {l : List Bool} {i j : Nat} (h : j < l.length) : on (l.set j true) i ↔ i = j ∨ on l i := by
  unfold on
  rw [List.getElem?_set]
  by_cases e : j = i
  · subst e; simp [h]
  · rw [if_neg e]
    constructor
    · exact .inr
    · rintro (rfl | h)
      · exact absurd rfl e
      · exact h
theorem on_rep {n i : Nat} : ¬ on (List.replicate n false) i := by
  unfold on
  rw [List.getElem?_replicate]
  split <;> simp
/-- While the pairs D are gone through: l0 what was marked at the round's head, l what is marked now, ag whether something has turned. R: what may be marked; S: what is marked from the start. -/
structure PassN (R S : Nat → Prop) (m : Nat) (l0 : List Bool) (D : List (Nat × Nat)) (l : List Bool) (ag : Bool) : Prop where
  len : l.length = m
  sub : ∀ s, on l s → R s
  frm : ∀ s, S s → on l s
  up : ag = true → l.count false < l0.count false
  cl : ag = false → l = l0 ∧ ∀ e ∈ D, on l e.1 → on l e.2
section
variable {R S : Nat → Prop} {m : Nat} {l0 l : List Bool} {D : List (Nat × Nat)} {ag : Bool}
theorem PassN.start (hl : l.length = m) (h1 : ∀ s, on l s → R s) (h2 : ∀ s, S s → on l s) : PassN R S m l [] l false :=
  ⟨hl, h1, h2, nofun, fun _ => ⟨rfl, by simp⟩⟩
theorem PassN.skip (h : PassN R S m l0 D l ag) (X : List (Nat × Nat)) (hn : ∀ e ∈ X, on l e.1 → on l e.2) : PassN R S m l0 (D ++ X) l ag :=
  ⟨h.len, h.sub, h.frm, h.up, fun e => ⟨(h.cl e).1, fun y hy => by
    rcases List.mem_append.1 hy with hy | hy
    · exact (h.cl e).2 y hy
    · exact hn y hy⟩⟩
theorem PassN.hit (h : PassN R S m l0 D l ag) {x y : Nat} (D' : List (Nat × Nat)) (hx : on l x) (hy : l[y]? = some false) (hR : R x → R y) : PassN R S m l0 D' (l.set y true) true := by
  have hlt := (List.getElem?_eq_some_iff.1 hy).1
  refine ⟨by simp [h.len], fun s hs => ?_, fun s hs => (on_set hlt).2 (.inr (h.frm s hs)), fun _ => ?_, nofun⟩
  · rcases (on_set hlt).1 hs with rfl | hs
    · exact hR (h.sub x hx)
    · exact h.sub s hs
  · have h1 := count_set hy
    cases hag : ag with
    | true => have := h.up hag; omega
    | false => have := (h.cl hag).1; subst this; omega
end
/-! places as numbers -/
def plI (w h : Nat) (c : Place) : Nat := ((c.state.toNat * w + c.inn.toNat) * h + c.out.toNat)
theorem plI_inj {w h : Nat} {s i j s' i' j' : Nat} (hi : i < w) (hi' : i' < w) (hj : j < h) (hj' : j' < h) (e : (s * w + i) * h + j = (s' * w + i') * h + j') : s = s' ∧ i = i' ∧ j = j' := by
  have e1 : (s * w + i) = (s' * w + i') ∧ j = j' := by
    have h1 : ((s * w + i) * h + j) / h = s * w + i := by rw [Nat.mul_comm, Nat.mul_add_div (by omega), Nat.div_eq_of_lt hj]; omega
    have h2 : ((s' * w + i') * h + j') / h = s' * w + i' := by rw [Nat.mul_comm, Nat.mul_add_div (by omega), Nat.div_eq_of_lt hj']; omega
    have h3 : s * w + i = s' * w + i' := by rw [← h1, ← h2, e]
    rw [h3] at e
    exact ⟨h3, by omega⟩
  have h1 : (s * w + i) / w = s := by rw [Nat.mul_comm, Nat.mul_add_div (by omega), Nat.div_eq_of_lt hi]; omega
  have h2 : (s' * w + i') / w = s' := by rw [Nat.mul_comm, Nat.mul_add_div (by omega), Nat.div_eq_of_lt hi']; omega
  have h3 : s = s' := by rw [← h1, ← h2, e1.1]
  subst h3
  exact ⟨rfl, by omega, e1.2⟩
theorem plI_lt {w h N s i j : Nat} (hs : s < N) (hi : i < w) (hj : j < h) : (s * w + i) * h + j < N * w * h := by
  have h1 : (s + 1) * w ≤ N * w := Nat.mul_le_mul_right w hs
  rw [Nat.add_mul, Nat.one_mul] at h1
  have h2 : (s * w + i + 1) * h ≤ N * w * h := Nat.mul_le_mul_right h (by omega)
  rw [Nat.add_mul (s * w + i) 1 h, Nat.one_mul] at h2
  omega
theorem pl_bound {w h N s i j : Nat} (hs : s < N) (hN : N ≤ 262144) (hi : i < w) (hw : w ≤ 64) (hj : j < h) (hh : h ≤ 64) : s * w ≤ 16777216 ∧ (s * w + i) * h ≤ 1073741824 ∧ s * w * h ≤ 1073741824 ∧ N * w ≤ 16777216 ∧ N * w * h ≤ 1073741824 := by
  have h1 := Nat.mul_le_mul (show s ≤ 262144 by omega) hw
  have h2 := Nat.mul_le_mul hN hw
  have h3 := Nat.mul_le_mul h2 hh
  have h4 := plI_lt hs hi (show 0 < h by omega)
  have h5 : s * w * h ≤ 16777216 * 64 := Nat.mul_le_mul h1 hh
  omega
/-- What may be marked: the places that are reached. -/
def plR (t : Tra) (xs ys : List Int) (w h : Nat) (k : Nat) : Prop := ∃ s i j : Nat, Reach (plN t xs ys) (· = ⟨t.start, 0, 0⟩) ⟨(s : Int), (i : Int), (j : Int)⟩ ∧ k = (s * w + i) * h + j
/-- The pairs of an arc. -/
def tgtB (xs ys : List Int) (x : Arc) (i j : Nat) : Bool := fitB xs (i : Int) x.inp && fitB ys (j : Int) x.out
def tgtK (xs ys : List Int) (x : Arc) (i j : Nat) : Int := if tgtB xs ys x i j = true then eatK i x.inp * ((ys.length : Int) + 1) + eatK j x.out else 0
def prE (xs ys : List Int) (w h : Nat) (x : Arc) (i j : Nat) : List (Nat × Nat) := if tgtB xs ys x i j = true then [((x.src.toNat * w + i) * h + j, (x.dst.toNat * w + (eatK i x.inp).toNat) * h + (eatK j x.out).toNat)] else []
def prJ (xs ys : List Int) (w h : Nat) (x : Arc) (i : Nat) : List (Nat × Nat) := (List.range h).flatMap (prE xs ys w h x i)
def prI (xs ys : List Int) (w h : Nat) (x : Arc) : List (Nat × Nat) := (List.range w).flatMap (prJ xs ys w h x)
section
variable {t : Tra} {m : Nat} {xs ys : List Int}
theorem pl_rng (hr : t.Rng m) {c : Place} (h : Reach (plN t xs ys) (· = ⟨t.start, 0, 0⟩) c) : ∃ s i j : Nat, c = ⟨(s : Int), (i : Int), (j : Int)⟩ ∧ s < m ∧ i ≤ xs.length ∧ j ≤ ys.length := by
  obtain ⟨i, j, h1, h2, h3, h4, hrun⟩ := pl_run h
  have hs : 0 ≤ c.state ∧ c.state < m := by
    clear h1 h2 hrun
    cases h with
    | base h => subst h; exact hr.start
    | tail _ hd => obtain ⟨x, hx, _, _, _, rfl⟩ := mem_plN.1 hd; exact (hr.arcs x hx).2
  exact ⟨c.state.toNat, i, j, by cases c; simp at *; omega, by omega, h3, h4⟩
theorem eat_nat {l : List Int} {i : Nat} {r : Int} (h : fitB l (i : Int) r = true) (hi : i ≤ l.length) : ∃ k : Nat, eatK i r = (k : Int) ∧ k ≤ l.length := by
  obtain ⟨k, h1, h2, _⟩ := fit_take h hi
  exact ⟨k, h1, h2⟩
/-- An arc's pair leads from what is reached to what is reached. -/
theorem plR_step (hr : t.Rng m) {x : Arc} (hx : x ∈ t.arcs) {i j : Nat} (hi : i ≤ xs.length) (hj : j ≤ ys.length) (hb : tgtB xs ys x i j = true) (h : plR t xs ys (xs.length + 1) (ys.length + 1) ((x.src.toNat * (xs.length + 1) + i) * (ys.length + 1) + j)) : plR t xs ys (xs.length + 1) (ys.length + 1) ((x.dst.toNat * (xs.length + 1) + (eatK i x.inp).toNat) * (ys.length + 1) + (eatK j x.out).toNat) := by
  obtain ⟨s, i', j', h1, h2⟩ := h
  obtain ⟨s2, i2, j2, e, _, hi2, hj2⟩ := pl_rng hr h1
  simp only [Place.mk.injEq] at e
  obtain ⟨rfl, rfl, rfl⟩ := plI_inj (w := xs.length + 1) (h := ys.length + 1) (by omega) (by omega) (by omega) (by omega) h2
  rw [tgtB, Bool.and_eq_true] at hb
  obtain ⟨k, e1, hk⟩ := eat_nat hb.1 hi
  obtain ⟨q, e2, hq⟩ := eat_nat hb.2 hj
  have hxr := hr.arcs x hx
  refine ⟨x.dst.toNat, k, q, .tail h1 (mem_plN.2 ⟨x, hx, (Int.toNat_of_nonneg hxr.1.1).symm, hb.1, hb.2, ?_⟩), by rw [e1, e2]; simp⟩
  simp only [Int.toNat_natCast, e1, e2, Place.mk.injEq, and_true]
  omega
/-- When nothing turns any more, what is marked is what is reached. -/
theorem plR_fin (hr : t.Rng m) {l : List Bool} (h1 : ∀ s, on l s → plR t xs ys (xs.length + 1) (ys.length + 1) s) (h2 : on l (t.start.toNat * (xs.length + 1) * (ys.length + 1))) (h3 : ∀ e ∈ t.arcs.flatMap (prI xs ys (xs.length + 1) (ys.length + 1)), on l e.1 → on l e.2) {s i j : Nat} (hi : i ≤ xs.length) (hj : j ≤ ys.length) :
    on l ((s * (xs.length + 1) + i) * (ys.length + 1) + j) ↔ Reach (plN t xs ys) (· = ⟨t.start, 0, 0⟩) ⟨(s : Int), (i : Int), (j : Int)⟩ := by
  constructor
  · intro h
    obtain ⟨s', i', j', h4, h5⟩ := h1 _ h
    obtain ⟨s2, i2, j2, e, _, hi2, hj2⟩ := pl_rng hr h4
    simp only [Place.mk.injEq] at e
    obtain ⟨rfl, rfl, rfl⟩ := plI_inj (w := xs.length + 1) (h := ys.length + 1) (by omega) (by omega) (by omega) (by omega) h5
    exact h4
  · intro h
    obtain ⟨c, hc⟩ : ∃ c : Place, c = ⟨(s : Int), (i : Int), (j : Int)⟩ := ⟨_, rfl⟩
    rw [← hc] at h
    clear hi hj
    induction h generalizing s i j with
    | base h =>
      subst h
      simp only [Place.mk.injEq] at hc
      obtain ⟨e1, e2, e3⟩ := hc
      have : i = 0 := by omega
      have : j = 0 := by omega
      subst_vars
      have : s = t.start.toNat := by omega
      subst this
      simpa using h2
    | @tail c d h hd ih =>
      obtain ⟨s', i', j', rfl, hs', hi', hj'⟩ := pl_rng hr h
      obtain ⟨x, hx, hxs, f1, f2, rfl⟩ := mem_plN.1 hd
      simp only [Int.toNat_natCast, Place.mk.injEq] at hc
      obtain ⟨e1, e2, e3⟩ := hc
      have h4 := ih rfl
      have hxr := hr.arcs x hx
      have h5 := h3 ((x.src.toNat * (xs.length + 1) + i') * (ys.length + 1) + j', (x.dst.toNat * (xs.length + 1) + (eatK i' x.inp).toNat) * (ys.length + 1) + (eatK j' x.out).toNat) (List.mem_flatMap.2 ⟨x, hx, List.mem_flatMap.2 ⟨i', List.mem_range.2 (by omega), List.mem_flatMap.2 ⟨j', List.mem_range.2 (by omega), by rw [prE, if_pos (by rw [tgtB, Bool.and_eq_true]; exact ⟨f1, f2⟩)]; simp⟩⟩⟩) (by
        have : x.src.toNat = s' := by simp only [] at hxs; omega
        rw [this]; exact h4)
      simp only [e1, e2, e3, Int.toNat_natCast] at h5
      exact h5
end
open Classical in
noncomputable def relB (t : Tra) (xs ys : List Int) : Bool := decide (Rel t xs ys)
theorem relB_iff {t : Tra} {xs ys : List Int} : relB t xs ys = true ↔ Rel t xs ys := by simp [relB]
theorem relB_false {t : Tra} {xs ys : List Int} : relB t xs ys = false ↔ ¬ Rel t xs ys := by simp [relB]
end Go.Proofs.YtmjieefhjmiagaaGreatDoor.G
