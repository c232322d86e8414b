/- The reference's Pairs: the same trie by a linear search; flags of the final states. Plain Lean. -/
import Derived.Test.YtoilmeiikgegcaaDoorGTri
import Derived.Test.YtoilmeiikgegcaaDoorGFin
set_option linter.all false
namespace Go.Proofs.YtoilmeiikgegcaaDoor.G
open Go Go.RowKit
def hitB (p a b : Int) (x : Arc) : Bool := (decide (x.src = p) && decide (x.inp = a)) && decide (x.out = b)
def lastD (A : List Arc) (p a b : Int) : Int := A.foldl (fun d x => if hitB p a b x = true then x.dst else d) (-1)
theorem lastD_snoc {A : List Arc} {p a b : Int} {k : Nat} {x : Arc} (hx : A[k]? = some x) : lastD (A.take (k + 1)) p a b = if hitB p a b x = true then x.dst else lastD (A.take k) p a b := by
  rw [take_snoc hx, lastD, List.foldl_append]; rfl
def KU (A : List Arc) : Prop := ((A.map tkey).map (·.1)).Nodup
theorem hit_key {p a b : Int} {x : Arc} : hitB p a b x = true ↔ (tkey x).1 = (⟨p, 0, a, b⟩ : Arc) := by
  simp only [hitB, tkey, Bool.and_eq_true, decide_eq_true_eq, Arc.mk.injEq, true_and]
  exact ⟨fun h => ⟨h.1.1, h.1.2, h.2⟩, fun h => ⟨⟨h.1, h.2.1⟩, h.2.2⟩⟩
theorem last_val {p a b : Int} : ∀ {A : List Arc} (d0 : Int), KU A → A.foldl (fun d x => if hitB p a b x = true then x.dst else d) d0 = (aget (A.map tkey) (⟨p, 0, a, b⟩ : Arc)).getD d0
  | [], d0, _ => rfl
  | x :: A, d0, h => by
    rw [KU, List.map_cons, List.map_cons, List.nodup_cons] at h
    have hc : aget ((x :: A).map tkey) (⟨p, 0, a, b⟩ : Arc) = if (tkey x).1 = (⟨p, 0, a, b⟩ : Arc) then some x.dst else aget (A.map tkey) (⟨p, 0, a, b⟩ : Arc) := rfl
    rw [List.foldl_cons, hc]
    by_cases hk : hitB p a b x = true
    · have e := hit_key.1 hk
      rw [if_pos hk, last_val _ h.2, if_pos e]
      have h1 : aget (A.map tkey) (⟨p, 0, a, b⟩ : Arc) = none := aget_none.2 (by rw [← e]; exact h.1)
      rw [h1]; rfl
    · rw [if_neg hk, last_val _ h.2, if_neg fun e => hk (hit_key.2 e)]
theorem lastD_val {A : List Arc} {p a b : Int} (h : KU A) : lastD A p a b = (aget (A.map tkey) (⟨p, 0, a, b⟩ : Arc)).getD (-1) := last_val (-1) h
theorem tstep_KU {s : List Arc × Int} {ab : Int × Int} (h : KU s.1) : KU (tstep s ab).1 := by
  unfold tstep
  split
  · exact h
  · rename_i hn
    unfold KU at h ⊢
    rw [List.map_append, List.map_append]
    refine List.nodup_append.2 ⟨h, by simp, fun a ha b hb e => ?_⟩
    simp only [tkey, List.map_cons, List.map_nil, List.mem_singleton] at hb
    rw [e, hb] at ha
    exact aget_none.1 hn ha
theorem tfold_KU : ∀ (l : List (Int × Int)) {s : List Arc × Int}, KU s.1 → KU (l.foldl tstep s).1
  | [], _, h => h
  | ab :: l, s, h => tfold_KU l (tstep_KU h)
theorem tries_KU : ∀ (ps : List SPair) {s : List Arc × List Int}, KU s.1 → KU (ps.foldl tone s).1
  | [], _, h => h
  | p :: ps, s, h => tries_KU ps (s := tone s p) (tfold_KU _ (s := (s.1, 0)) h)
/-- What is known of the arcs and the state amid a word. -/
theorem mid_ok {ps : List SPair} {k i : Nat} {abs : List (Int × Int)} {A0 A : List Arc} {F : List Int} {p : Int} (hA : (A0, F) = (ps.take k).foldl tone (([] : List Arc), ([] : List Int))) (hW : (A, p) = (abs.take i).foldl tstep (A0, 0)) : KU A ∧ TrieOk A ∧ (0 ≤ p ∧ p ≤ (A.length : Int)) ∧ (∀ x ∈ A, 1 ≤ x.dst) ∧ A0.length ≤ A.length := by
  have k1 : KU A0 := by
    have := tries_KU (ps.take k) (s := (([] : List Arc), ([] : List Int))) (by simp [KU])
    rw [← hA] at this; exact this
  have k2 := tfold_KU (abs.take i) (s := (A0, 0)) k1
  rw [← hW] at k2
  have k3 := tries_ok (ps.take k) (s := (([] : List Arc), ([] : List Int))) ⟨fun x hx => (by simp at hx), by simp⟩
  rw [← hA] at k3
  have k4 := tfold_ok (abs.take i) (s := (A0, 0)) ⟨k3.1, by simp only []; omega, by simp only []; omega⟩
  rw [← hW] at k4
  have k5 := tries_path (ps.take k) (A := []) (F := []) (done := []) ⟨by simp, by simp⟩ (by simp) (by simp)
  rw [← hA] at k5
  have k6 := tfold_path (abs.take i) k5.1 (Path.nil (A := A0))
  rw [← hW] at k6
  exact ⟨k2, k4.1.1, k4.1.2, fun x hx => (k6.1.rng x hx).1, k4.2⟩
theorem last_none {A : List Arc} {p a b : Int} (hk : KU A) (hd : ∀ x ∈ A, 1 ≤ x.dst) (h : lastD A p a b < 0) : aget (A.map tkey) (⟨p, 0, a, b⟩ : Arc) = none := by
  rw [lastD_val hk] at h
  cases hg : aget (A.map tkey) (⟨p, 0, a, b⟩ : Arc) with
  | none => rfl
  | some d =>
    obtain ⟨x, hx, rfl, _⟩ := trie_mem hg
    have := hd x hx
    rw [hg, Option.getD_some] at h; omega
theorem last_some {A : List Arc} {p a b : Int} (hk : KU A) (h : ¬ lastD A p a b < 0) : (aget (A.map tkey) (⟨p, 0, a, b⟩ : Arc)).isSome = true ∧ lastD A p a b = (aget (A.map tkey) (⟨p, 0, a, b⟩ : Arc)).getD 0 := by
  rw [lastD_val hk] at h ⊢
  cases hg : aget (A.map tkey) (⟨p, 0, a, b⟩ : Arc) with
  | none => rw [hg] at h; simp at h
  | some d => simp
/-- The flags of the final states. -/
def Flg (fl : List Bool) (n : Nat) (F : List Int) : Prop := fl.length = n + 1 ∧ ∀ i : Nat, fl[i]? = some true ↔ (i : Int) ∈ F
theorem Flg.grow {fl : List Bool} {n : Nat} {F : List Int} (h : Flg fl n F) (hF : ∀ f ∈ F, f ≤ (n : Int)) : Flg (fl ++ [false]) (n + 1) F := by
  refine ⟨by simp [h.1], fun i => ?_⟩
  rw [List.getElem?_append]
  split
  · exact h.2 i
  · rename_i hi
    constructor
    · intro h1
      have : i - fl.length = 0 ∨ 0 < i - fl.length := by omega
      rcases this with h2 | h2
      · rw [h2] at h1; simp at h1
      · rw [List.getElem?_eq_none (by simp; omega)] at h1; cases h1
    · intro h1
      have := hF _ h1
      have := h.1
      omega
theorem Flg.mark {fl : List Bool} {n : Nat} {F : List Int} {q : Int} (h : Flg fl n F) (hq : 0 ≤ q ∧ q ≤ (n : Int)) : Flg (fl.set q.toNat true) n (F ++ [q]) := by
  refine ⟨by simp [h.1], fun i => ?_⟩
  rw [List.getElem?_set, List.mem_append, List.mem_singleton, ← h.2]
  have hl := h.1
  by_cases e : q.toNat = i
  · rw [if_pos e, if_pos (by omega)]
    exact ⟨fun _ => .inr (by omega), fun _ => rfl⟩
  · rw [if_neg e]
    exact ⟨.inl, fun h1 => h1.elim id fun h1 => absurd (by omega) e⟩
def flgL (fl : List Bool) (k : Nat) : List Int := ((List.range k).filter fun i => fl.getD i false).map fun (i : Nat) => (i : Int)
theorem flgL_yes {fl : List Bool} {k : Nat} (h : fl[k]? = some true) : flgL fl (k + 1) = flgL fl k ++ [(k : Int)] := by
  simp [flgL, List.range_succ, List.filter_append, List.filter_cons, h]
theorem flgL_no {fl : List Bool} {k : Nat} (h : fl[k]? = some false) : flgL fl (k + 1) = flgL fl k := by
  simp [flgL, List.range_succ, List.filter_append, List.filter_cons, h]
theorem flgL_sorted (fl : List Bool) (k : Nat) : (flgL fl k).Pairwise (· < ·) := by
  rw [flgL, List.pairwise_map]
  exact (List.pairwise_lt_range (n := k)).filter _ |>.imp fun h => by omega
theorem flgL_len (fl : List Bool) (k : Nat) : (flgL fl k).length ≤ k := by
  rw [flgL, List.length_map]
  have := List.length_filter_le (fun i => fl.getD i false) (List.range k)
  simpa using this
theorem mem_flgL {fl : List Bool} {n : Nat} {F : List Int} (h : Flg fl n F) (hF : ∀ f ∈ F, 0 ≤ f ∧ f ≤ (n : Int)) (x : Int) : x ∈ flgL fl fl.length ↔ x ∈ F := by
  simp only [flgL, List.mem_map, List.mem_filter, List.mem_range]
  constructor
  · rintro ⟨i, ⟨hi, hb⟩, rfl⟩
    refine (h.2 i).1 ?_
    rw [List.getD_eq_getElem?_getD, List.getElem?_eq_getElem hi, Option.getD_some] at hb
    rw [List.getElem?_eq_getElem hi, hb]
  · intro hx
    have h1 := hF x hx
    have h2 := h.1
    refine ⟨x.toNat, ⟨by omega, ?_⟩, by omega⟩
    have := (h.2 x.toNat).2 (by rw [Int.toNat_of_nonneg h1.1]; exact hx)
    rw [List.getD_eq_getElem?_getD, this]; simp
/-- Trimming asks only which states are final. -/
theorem reach_congr {E : Int → List Int} {S S' : Int → Prop} (h : ∀ x, S x ↔ S' x) {s : Int} (k : Reach E S s) : Reach E S' s := by
  induction k with
  | base hb => exact .base ((h _).1 hb)
  | tail _ hy ih => exact .tail ih hy
theorem trim_fin {t : Tra} {F : List Int} {m : Nat} (h : ∀ x, x ∈ F ↔ x ∈ t.finals) : TrimS ⟨t.states, t.start, F, t.arcs⟩ m = TrimS t m := by
  have hk : kpS ⟨t.states, t.start, F, t.arcs⟩ = kpS t := funext fun i => by
    rw [Bool.eq_iff_iff, kpS_iff, kpS_iff]
    exact and_congr Iff.rfl ⟨reach_congr h, reach_congr fun x => (h x).symm⟩
  have hf : finS ⟨t.states, t.start, F, t.arcs⟩ m = finS t m := by
    unfold finS
    rw [hk]
    congr 1
    exact List.filter_congr fun i _ => by rw [decide_eq_decide.2 (h (i : Int))]
  have ha : arcS ⟨t.states, t.start, F, t.arcs⟩ = arcS t := funext fun x => by unfold arcS; rw [hk]
  unfold TrimS
  rw [hk, hf, ha]
theorem pairs_fin {ps : List SPair} {F : List Int} (h : ∀ x, x ∈ F ↔ x ∈ (tries ps).2) : FinS ⟨((tries ps).1.length : Int) + 1, 0, F, (tries ps).1⟩ ((tries ps).1.length + 1) = FinS (trieT ps) ((tries ps).1.length + 1) := by
  rw [FinS, FinS, ← trim_fin (t := trieT ps) h]; rfl
theorem okT_P (p : SPair) : (okT p.x && okT p.y) = okP p := by rw [okT_S, okT_S]; rfl
theorem okT_bad2 {p : SPair} (h : (!(okT p.x) || !(okT p.y)) = true) : okP p = false := by
  rw [okT_S, okT_S] at h; exact okP_bad h
theorem okT_good2 {p : SPair} (h : (!(okT p.x) || !(okT p.y)) = false) : okP p = true := by
  rw [okT_S, okT_S] at h
  revert h
  unfold okP
  cases okS p.x <;> cases okS p.y <;> simp
end Go.Proofs.YtoilmeiikgegcaaDoor.G
