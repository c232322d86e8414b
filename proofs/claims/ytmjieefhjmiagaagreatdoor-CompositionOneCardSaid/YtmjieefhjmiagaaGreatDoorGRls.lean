/- The program's Relates: the search over places; composing and relating. Plain Lean. -/
import Derived.Test.YtmjieefhjmiagaaGreatDoorGChk
set_option linter.all false
namespace Go.Proofs.YtmjieefhjmiagaaGreatDoor.G
open Go Go.RowKit
noncomputable def relS (t : Tra) (x y : ByteArray) : Bool := ((validT t && okT x) && okT y) && relB t (runesL x) (runesL y)
def rect3 (m lx ly : Nat) : List Place := (List.range m).flatMap fun (p : Nat) => (List.range (lx + 1)).flatMap fun (i : Nat) => (List.range (ly + 1)).map fun (j : Nat) => ⟨p, i, j⟩
theorem mem_rect3 {m lx ly : Nat} {c : Place} : c ∈ rect3 m lx ly ↔ ∃ p i j : Nat, c = ⟨p, i, j⟩ ∧ p < m ∧ i ≤ lx ∧ j ≤ ly := by
  simp only [rect3, List.mem_flatMap, List.mem_range, List.mem_map]
  constructor
  · rintro ⟨p, hp, i, hi, j, hj, rfl⟩; exact ⟨p, i, j, rfl, hp, by omega, by omega⟩
  · rintro ⟨p, i, j, rfl, hp, hi, hj⟩; exact ⟨p, hp, i, by omega, j, by omega, rfl⟩
theorem rect3_len (m lx ly : Nat) : (rect3 m lx ly).length = m * ((lx + 1) * (ly + 1)) := by
  rw [rect3, flat_len_eq (B := (lx + 1) * (ly + 1)), List.length_range]
  intro p
  rw [flat_len_eq (B := ly + 1), List.length_range]
  intro i
  simp
theorem Tra.Ok.rng {t : Tra} {m : Nat} (h : t.Ok m) (hf : ∀ p ∈ t.finals, 0 ≤ p ∧ p < (m : Int)) : t.Rng m := ⟨h.start, hf, h.arcs⟩
theorem pl_rect {t : Tra} {m : Nat} {xs ys : List Int} (hr : t.Rng m) : ∀ c, Reach (plN t xs ys) (· = ⟨t.start, 0, 0⟩) c → c ∈ rect3 m xs.length ys.length := fun c h => by
  obtain ⟨s, i, j, e, h1, h2, h3⟩ := pl_rng hr h
  exact mem_rect3.2 ⟨s, i, j, e, h1, h2, h3⟩
theorem fit_get {l : List Int} {i : Nat} {r : Int} : (decide (r = 0) || (decide ((i : Int) < (l.length : Int)) && decide (l.getD i 0 = r))) = fitB l (i : Int) r := by
  rw [← eatB_fit, eatB]
  by_cases h : r = 0 <;> simp [h]
theorem BfsIn.pushT {α : Type} {E : α → List α} {s : α → Prop} {vs ds l : List α} {x y : α} (h : BfsIn E s vs x ds l.tail) (hl : l = x :: l.tail) (hy : y ∉ vs ++ l) (hE : y ∈ E x) : BfsIn E s vs x (ds ++ [y]) (l ++ [y]).tail := by
  have e : (l ++ [y]).tail = l.tail ++ [y] := by rw [hl]; rfl
  rw [e]
  exact h.push (by rw [← hl]; exact hy) hE
theorem BfsIn.knownT {α : Type} {E : α → List α} {s : α → Prop} {vs ds l : List α} {x y : α} (h : BfsIn E s vs x ds l.tail) (hl : l = x :: l.tail) (hy : y ∈ vs ++ l) : BfsIn E s vs x (ds ++ [y]) l.tail :=
  h.known (by rw [← hl]; exact hy)
theorem snocT {α : Type} {l : List α} {x y : α} (hl : l = x :: l.tail) : l ++ [y] = x :: (l ++ [y]).tail := by rw [hl]; rfl
theorem openT {α : Type} {vs l : List α} {x : α} (hl : l = x :: l.tail) : vs ++ l = (vs ++ [x]) ++ l.drop 1 := by
  rw [List.append_assoc, List.drop_one]
  exact congrArg (vs ++ ·) hl
theorem and_fm {a b : Bool} (h : (a && b) = false) : a = false ∨ (a = true ∧ b = false) := by revert h; cases a <;> simp
/-- The places behind arcs. -/
def plK (xs ys : List Int) (i j : Nat) (l : List Arc) : List Place := (l.filter fun x => fitB xs (i : Int) x.inp && fitB ys (j : Int) x.out).map fun x => ⟨x.dst, eatK i x.inp, eatK j x.out⟩
theorem plK_all (t : Tra) (xs ys : List Int) (s i j : Nat) : plK xs ys i j (t.outs (s : Int)) = plN t xs ys ⟨(s : Int), (i : Int), (j : Int)⟩ := by simp [plK, plN]
theorem plK_yes {xs ys : List Int} {i j : Nat} {l : List Arc} {k : Nat} {x : Arc} (hx : l[k]? = some x) (h : (fitB xs (i : Int) x.inp && fitB ys (j : Int) x.out) = true) {d : Place} (hd : d = ⟨x.dst, eatK i x.inp, eatK j x.out⟩) : plK xs ys i j (l.take (k + 1)) = plK xs ys i j (l.take k) ++ [d] := by
  subst hd
  rw [take_snoc hx, plK, plK, List.filter_append, List.map_append]
  simp [h]
theorem plK_no {xs ys : List Int} {i j : Nat} {l : List Arc} {k : Nat} {x : Arc} (hx : l[k]? = some x) (h : (fitB xs (i : Int) x.inp && fitB ys (j : Int) x.out) = false) : plK xs ys i j (l.take (k + 1)) = plK xs ys i j (l.take k) := by
  rw [take_snoc hx, plK, plK, List.filter_append, List.map_append]
  simp [h]
theorem mem_plK {xs ys : List Int} {i j : Nat} {l : List Arc} {k : Nat} {x : Arc} (hx : l[k]? = some x) (h : (fitB xs (i : Int) x.inp && fitB ys (j : Int) x.out) = true) {d : Place} (hd : d = ⟨x.dst, eatK i x.inp, eatK j x.out⟩) : d ∈ plK xs ys i j l :=
  List.mem_map.2 ⟨x, List.mem_filter.2 ⟨List.mem_of_getElem? hx, h⟩, hd.symm⟩
theorem fit_eps0 {l : List Int} {i : Int} {r : Int} (h : r = 0) : fitB l i r = true := by simp [fitB, h]
theorem eatK_ne {i : Nat} {r : Int} (h : ¬ r = 0) : eatK i r = (i : Int) + 1 := by rw [eatK, if_neg h]
theorem eatK_eq {i : Nat} {r : Int} (h : r = 0) : eatK i r = (i : Int) := by rw [eatK, if_pos h]
def accB (t : Tra) (xs ys : List Int) (c : Place) : Bool := (decide (c.inn = (xs.length : Int)) && decide (c.out = (ys.length : Int))) && decide (c.state ∈ t.finals)
theorem acc_snoc {t : Tra} {xs ys : List Int} {vs : List Place} {p i j : Nat} (h : ∀ c ∈ vs, accB t xs ys c = false) (h1 : (decide ((i : Int) = (xs.length : Int)) && decide ((j : Int) = (ys.length : Int)) && decide ((p : Int) ∈ t.finals)) = false) : ∀ c ∈ vs ++ [Place.mk p i j], accB t xs ys c = false := fun c hc => by
  rcases List.mem_append.1 hc with h2 | h2
  · exact h c h2
  · rw [List.mem_singleton.1 h2]; exact h1
theorem rel_yes {t : Tra} {xs ys : List Int} {c : Place} (h : Reach (plN t xs ys) (· = ⟨t.start, 0, 0⟩) c) (hc : accB t xs ys c = true) : relB t xs ys = true := by
  simp only [accB, Bool.and_eq_true, decide_eq_true_eq] at hc
  refine relB_iff.2 (rel_iff.2 ⟨c.state, hc.2, ?_⟩)
  rw [← hc.1.1, ← hc.1.2]
  exact h
theorem rel_no {t : Tra} {xs ys : List Int} {vs : List Place} (h : Closure (plN t xs ys) (· = ⟨t.start, 0, 0⟩) vs) (hc : ∀ c ∈ vs, accB t xs ys c = false) : relB t xs ys = false := by
  refine relB_false.2 fun hr => ?_
  obtain ⟨f, hf, h1⟩ := rel_iff.1 hr
  have := hc _ ((h.mem _).2 h1)
  simp [accB, hf] at this
theorem relS_err {t : Tra} {x y : ByteArray} (h : ((!(validT t) || !(okT x)) || !(okT y)) = true) : relS t x y = false := by
  revert h
  unfold relS
  cases validT t <;> cases okT x <;> cases okT y <;> simp
theorem relS_ok {t : Tra} {x y : ByteArray} (h : ((!(validT t) || !(okT x)) || !(okT y)) = false) : (validT t = true) ∧ relS t x y = relB t (runesL x) (runesL y) := by
  revert h
  unfold relS
  cases validT t <;> cases okT x <;> cases okT y <;> simp
theorem okS_of {x z : ByteArray} (h : chkS [x, z] = 0) : okS x = true ∧ okS z = true := by
  unfold chkS at h
  split at h
  · rename_i h1; simpa using h1
  · cases h
theorem thr_one {a b : Tra} {x z : ByteArray} (h : ¬ (thrS a b x z).2 = 0) : (thrS a b x z).1 = false := by
  unfold thrS at h ⊢
  split
  · rename_i h1; rw [if_pos h1] at h; exact absurd rfl h
  · rfl
theorem thr_bad {a b : Tra} {x z : ByteArray} (h : ¬ (validT a = true ∧ validT b = true)) : (thrS a b x z).1 = false := by
  refine thr_one fun h1 => h ?_
  by_cases hb : btwE a b x z = 0
  · exact (btw_ok hb).1
  · rw [thr_err hb] at h1; exact absurd h1 hb
theorem relates_law {a b t : Tra} {e : Int} {x z : ByteArray} (ha : fewB a = true) (hb : fewB b = true) (hc : (t, e) = CompS a b) (he : e = 0) (hf : (thrS a b x z).2 = 0) : relS t x z = (thrS a b x z).1 := by
  subst he
  obtain ⟨⟨hva, hvb⟩, hvt, hrel⟩ := comp_ok hc
  obtain ⟨e1, e2⟩ := thr_val (x := x) (z := z) hva hvb
  rw [hf] at e1
  obtain ⟨h1, h2⟩ := okS_of e1.symm
  rw [Bool.eq_iff_iff, e2]
  unfold relS
  rw [hvt, okT_S, okT_S, h1, h2]
  simp only [Bool.and_self, Bool.true_and]
  rw [relB_iff, hrel]
  exact ⟨fun h => ⟨e1.symm, h⟩, fun h => h.2⟩
theorem relates_err {a b t : Tra} {e : Int} {x z : ByteArray} (ha : fewB a = true) (hb : fewB b = true) (hc : (t, e) = CompS a b) (h : ¬ e = 0 ∨ ¬ (thrS a b x z).2 = 0) : (thrS a b x z).1 = false := by
  rcases h with h | h
  · have e1 : e = (CompS a b).2 := congrArg Prod.snd hc
    rcases comp_few ha hb with ⟨h3, _⟩ | ⟨_, h3⟩
    · exact absurd (e1.trans h3) h
    · exact thr_bad h3
  · exact thr_one h
end Go.Proofs.YtmjieefhjmiagaaGreatDoor.G
