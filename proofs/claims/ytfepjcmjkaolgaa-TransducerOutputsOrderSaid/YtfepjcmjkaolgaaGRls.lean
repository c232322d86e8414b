/- The program's Relates: the search over places; composing and relating. Plain Lean. -/
import Derived.Test.YtfepjcmjkaolgaaGStr
import Derived.Lib.MapLaws
import Derived.Lib.ValidLaws
import Derived.Test.YtfepjcmjkaolgaaGOpn
set_option linter.all false
namespace Go.Proofs.Ytfepjcmjkaolgaa.G
open Go Go.RowKit
def rnD : Nat → List UInt8 → List Int
  | 0, _ => []
  | n + 1, l => if l = [] then [] else ((Lib.decodeL l).1 : Int) :: rnD n (l.drop (Lib.decodeL l).2)
theorem rnF_D (s : ByteArray) : ∀ (b i : Nat), rnF s b i = rnD b (s.data.toList.drop i)
  | 0, i => rfl
  | b + 1, i => by
    unfold rnF rnD
    have hsz : s.size = s.data.toList.length := by simp
    by_cases h : i < s.size
    · have hne : s.data.toList.drop i ≠ [] := by
        intro e
        have := congrArg List.length e
        rw [List.length_drop] at this
        simp only [List.length_nil] at this
        omega
      have hd : Lib.decodeL (s.data.toList.drop i) = Utf8.decode s i := by
        rw [Lib.decodeL_N, Lib.decode_N]
        simp only [List.length_drop, List.getD_eq_getElem?_getD, List.getElem?_drop, Nat.add_zero]
      rw [if_pos h, if_neg hne, hd, rnF_D s b, List.drop_drop]
    · rw [if_neg h, if_pos (List.drop_eq_nil_of_le (by omega))]
theorem runesL_D (s : ByteArray) : runesL s = rnD s.data.toList.length s.data.toList := by
  have hsz : s.size = s.data.toList.length := by simp
  rw [runesL, rnF_D, List.drop_zero, hsz]
/-! encoding again -/
def strD (l : List Int) : List UInt8 := l.flatMap Lib.encodeRune
theorem enc_rune (r : Int) : (Utf8.encode r).data.toList = Lib.encodeRune r := by
  unfold Utf8.encode Lib.encodeRune
  by_cases hv : Utf8.valid r = true
  · simp only [hv, if_true]
    have hv' := hv
    simp only [Utf8.valid, Bool.or_eq_true, Bool.and_eq_true, decide_eq_true_eq] at hv'
    obtain ⟨c, rfl⟩ : ∃ c : Nat, r = (c : Int) := ⟨r.toNat, by omega⟩
    simp only [Int.toNat_natCast]
    by_cases h1 : c < 128
    · rw [if_pos h1, Lib.encodeRuneZ_one (by omega) (by omega)]; simp
    · rw [if_neg h1]
      by_cases h2 : c < 2048
      · rw [if_pos h2, Lib.encodeRuneZ_two (by omega) (by omega)]
        simp only [List.map_cons, List.map_nil]
        have e1 : (192 + (c : Int) / 64).toNat = 192 + c / 64 := by omega
        have e2 : (128 + (c : Int) % 64).toNat = 128 + c % 64 := by omega
        rw [e1, e2]
        all_goals rfl
      · rw [if_neg h2]
        by_cases h3 : c < 65536
        · rw [if_pos h3, Lib.encodeRuneZ_three (by omega)]
          simp only [List.map_cons, List.map_nil]
          have e1 : (224 + (c : Int) / 4096).toNat = 224 + c / 4096 := by omega
          have e2 : (128 + (c : Int) / 64 % 64).toNat = 128 + c / 64 % 64 := by omega
          have e3 : (128 + (c : Int) % 64).toNat = 128 + c % 64 := by omega
          rw [e1, e2, e3]
          all_goals rfl
        · rw [if_neg h3, Lib.encodeRuneZ_four (by omega) (by omega)]
          simp only [List.map_cons, List.map_nil]
          have e0 : (240 + (c : Int) / 262144).toNat = 240 + c / 262144 := by omega
          have e1 : (128 + (c : Int) / 4096 % 64).toNat = 128 + c / 4096 % 64 := by omega
          have e2 : (128 + (c : Int) / 64 % 64).toNat = 128 + c / 64 % 64 := by omega
          have e3 : (128 + (c : Int) % 64).toNat = 128 + c % 64 := by omega
          rw [e0, e1, e2, e3]
          all_goals rfl
  · have hv2 : Utf8.valid r = false := by simpa using hv
    have hv' := hv
    simp only [Utf8.valid, Bool.or_eq_true, Bool.and_eq_true, decide_eq_true_eq] at hv'
    rw [hv2, Lib.encodeRuneZ_bad (by omega)]
    simp only [Bool.false_eq_true, if_false]
    decide
theorem strL_fold (ns : List Int) : ∀ acc : ByteArray, (ns.foldl (fun r n => r ++ Utf8.encode n) acc).data.toList = acc.data.toList ++ strD ns := by
  induction ns with
  | nil => intro acc; simp [strD]
  | cons n ns ih =>
    intro acc
    rw [List.foldl_cons, ih]
    have : (acc ++ Utf8.encode n).data.toList = acc.data.toList ++ (Utf8.encode n).data.toList := by simp
    rw [this, enc_rune]
    simp [strD]
theorem strL_D (ns : List Int) : (strL ns).data.toList = strD ns := by
  unfold strL runesBytes
  rw [strL_fold]; rfl
end Go.Proofs.Ytfepjcmjkaolgaa.G

set_option linter.all false
namespace Go.Proofs.Ytfepjcmjkaolgaa.G
open Go Go.RowKit
def okT (s : ByteArray) : Bool := decide (strL (runesL s) = s) && !decide ((0 : Int) ∈ runesL s)
end Go.Proofs.Ytfepjcmjkaolgaa.G

set_option linter.all false
namespace Go.Proofs.Ytfepjcmjkaolgaa.G
open Go Go.RowKit
noncomputable def relS (t : Tra) (x y : ByteArray) : Bool := ((validT t && okT x) && okT y) && relB t (runesL x) (runesL y)
def rect3 (m lx ly : Nat) : List Place := (List.range m).flatMap fun (p : Nat) => (List.range (lx + 1)).flatMap fun (i : Nat) => (List.range (ly + 1)).map fun (j : Nat) => ⟨p, i, j⟩
theorem mem_rect3 {m lx ly : Nat} {c : Place} : c ∈ rect3 m lx ly ↔ ∃ p i j : Nat, c = ⟨p, i, j⟩ ∧ p < m ∧ i ≤ lx ∧ j ≤ ly := by
  simp only [rect3, List.mem_flatMap, List.mem_range, List.mem_map]
  constructor
  · rintro ⟨p, hp, i, hi, j, hj, rfl⟩; exact ⟨p, i, j, rfl, hp, by omega, by omega⟩
  · rintro ⟨p, i, j, rfl, hp, hi, hj⟩; exact ⟨p, hp, i, by omega, j, by omega, rfl⟩
theorem rect3_len (m lx ly : Nat) : (rect3 m lx ly).length = m * ((lx + 1) * (ly + 1)) := by
  rw [rect3, flat_len_eq (B := (lx + 1) * (ly + 1)), List.length_range]
  intro p
  rw [flat_len_eq (B := ly + 1), List.length_range]
  intro i
  simp
theorem Tra.Ok.rng {t : Tra} {m : Nat} (h : t.Ok m) (hf : ∀ p ∈ t.finals, 0 ≤ p ∧ p < (m : Int)) : t.Rng m := ⟨h.start, hf, h.arcs⟩
theorem pl_rect {t : Tra} {m : Nat} {xs ys : List Int} (hr : t.Rng m) : ∀ c, Reach (plN t xs ys) (· = ⟨t.start, 0, 0⟩) c → c ∈ rect3 m xs.length ys.length := fun c h => by
  obtain ⟨s, i, j, e, h1, h2, h3⟩ := pl_rng hr h
  exact mem_rect3.2 ⟨s, i, j, e, h1, h2, h3⟩
theorem fit_get {l : List Int} {i : Nat} {r : Int} : (decide (r = 0) || (decide ((i : Int) < (l.length : Int)) && decide (l.getD i 0 = r))) = fitB l (i : Int) r := by
  rw [← eatB_fit, eatB]
  by_cases h : r = 0 <;> simp [h]
theorem BfsIn.pushT {α : Type} {E : α → List α} {s : α → Prop} {vs ds l : List α} {x y : α} (h : BfsIn E s vs x ds l.tail) (hl : l = x :: l.tail) (hy : y ∉ vs ++ l) (hE : y ∈ E x) : BfsIn E s vs x (ds ++ [y]) (l ++ [y]).tail := by
  have e : (l ++ [y]).tail = l.tail ++ [y] := by rw [hl]; rfl
  rw [e]
  exact h.push (by rw [← hl]; exact hy) hE
theorem BfsIn.knownT {α : Type} {E : α → List α} {s : α → Prop} {vs ds l : List α} {x y : α} (h : BfsIn E s vs x ds l.tail) (hl : l = x :: l.tail) (hy : y ∈ vs ++ l) : BfsIn E s vs x (ds ++ [y]) l.tail :=
  h.known (by rw [← hl]; exact hy)
theorem snocT {α : Type} {l : List α} {x y : α} (hl : l = x :: l.tail) : l ++ [y] = x :: (l ++ [y]).tail := by rw [hl]; rfl
theorem openT {α : Type} {vs l : List α} {x : α} (hl : l = x :: l.tail) : vs ++ l = (vs ++ [x]) ++ l.drop 1 := by
  rw [List.append_assoc, List.drop_one]
  exact congrArg (vs ++ ·) hl
theorem and_fm {a b : Bool} (h : (a && b) = false) : a = false ∨ (a = true ∧ b = false) := by revert h; cases a <;> simp
/-- The places behind arcs. -/
def plK (xs ys : List Int) (i j : Nat) (l : List Arc) : List Place := (l.filter fun x => fitB xs (i : Int) x.inp && fitB ys (j : Int) x.out).map fun x => ⟨x.dst, eatK i x.inp, eatK j x.out⟩
theorem plK_all (t : Tra) (xs ys : List Int) (s i j : Nat) : plK xs ys i j (t.outs (s : Int)) = plN t xs ys ⟨(s : Int), (i : Int), (j : Int)⟩ := by simp [plK, plN]
theorem plK_yes {xs ys : List Int} {i j : Nat} {l : List Arc} {k : Nat} {x : Arc} (hx : l[k]? = some x) (h : (fitB xs (i : Int) x.inp && fitB ys (j : Int) x.out) = true) {d : Place} (hd : d = ⟨x.dst, eatK i x.inp, eatK j x.out⟩) : plK xs ys i j (l.take (k + 1)) = plK xs ys i j (l.take k) ++ [d] := by
  subst hd
  rw [take_snoc hx, plK, plK, List.filter_append, List.map_append]
  simp [h]
theorem plK_no {xs ys : List Int} {i j : Nat} {l : List Arc} {k : Nat} {x : Arc} (hx : l[k]? = some x) (h : (fitB xs (i : Int) x.inp && fitB ys (j : Int) x.out) = false) : plK xs ys i j (l.take (k + 1)) = plK xs ys i j (l.take k) := by
  rw [take_snoc hx, plK, plK, List.filter_append, List.map_append]
  simp [h]
theorem mem_plK {xs ys : List Int} {i j : Nat} {l : List Arc} {k : Nat} {x : Arc} (hx : l[k]? = some x) (h : (fitB xs (i : Int) x.inp && fitB ys (j : Int) x.out) = true) {d : Place} (hd : d = ⟨x.dst, eatK i x.inp, eatK j x.out⟩) : d ∈ plK xs ys i j l :=
  List.mem_map.2 ⟨x, List.mem_filter.2 ⟨List.mem_of_getElem? hx, h⟩, hd.symm⟩
theorem fit_eps0 {l : List Int} {i : Int} {r : Int} (h : r = 0) : fitB l i r = true := by simp [fitB, h]
theorem eatK_ne {i : Nat} {r : Int} (h : ¬ r = 0) : eatK i r = (i : Int) + 1 := by rw [eatK, if_neg h]
theorem eatK_eq {i : Nat} {r : Int} (h : r = 0) : eatK i r = (i : Int) := by rw [eatK, if_pos h]
def accB (t : Tra) (xs ys : List Int) (c : Place) : Bool := (decide (c.inn = (xs.length : Int)) && decide (c.out = (ys.length : Int))) && decide (c.state ∈ t.finals)
theorem acc_snoc {t : Tra} {xs ys : List Int} {vs : List Place} {p i j : Nat} (h : ∀ c ∈ vs, accB t xs ys c = false) (h1 : (decide ((i : Int) = (xs.length : Int)) && decide ((j : Int) = (ys.length : Int)) && decide ((p : Int) ∈ t.finals)) = false) : ∀ c ∈ vs ++ [Place.mk p i j], accB t xs ys c = false := fun c hc => by
  rcases List.mem_append.1 hc with h2 | h2
  · exact h c h2
  · rw [List.mem_singleton.1 h2]; exact h1
theorem rel_yes {t : Tra} {xs ys : List Int} {c : Place} (h : Reach (plN t xs ys) (· = ⟨t.start, 0, 0⟩) c) (hc : accB t xs ys c = true) : relB t xs ys = true := by
  simp only [accB, Bool.and_eq_true, decide_eq_true_eq] at hc
  refine relB_iff.2 (rel_iff.2 ⟨c.state, hc.2, ?_⟩)
  rw [← hc.1.1, ← hc.1.2]
  exact h
theorem rel_no {t : Tra} {xs ys : List Int} {vs : List Place} (h : Closure (plN t xs ys) (· = ⟨t.start, 0, 0⟩) vs) (hc : ∀ c ∈ vs, accB t xs ys c = false) : relB t xs ys = false := by
  refine relB_false.2 fun hr => ?_
  obtain ⟨f, hf, h1⟩ := rel_iff.1 hr
  have := hc _ ((h.mem _).2 h1)
  simp [accB, hf] at this
theorem relS_err {t : Tra} {x y : ByteArray} (h : ((!(validT t) || !(okT x)) || !(okT y)) = true) : relS t x y = false := by
  revert h
  unfold relS
  cases validT t <;> cases okT x <;> cases okT y <;> simp
theorem relS_ok {t : Tra} {x y : ByteArray} (h : ((!(validT t) || !(okT x)) || !(okT y)) = false) : (validT t = true) ∧ relS t x y = relB t (runesL x) (runesL y) := by
  revert h
  unfold relS
  cases validT t <;> cases okT x <;> cases okT y <;> simp
end Go.Proofs.Ytfepjcmjkaolgaa.G
