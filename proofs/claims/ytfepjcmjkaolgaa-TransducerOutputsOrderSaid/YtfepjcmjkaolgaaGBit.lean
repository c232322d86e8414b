/- Division, shifts and bits of whole numbers, for the walks. -/
/- slices.pdqsortOrdered: what its parts bring about. Plain Lean. -/
import Derived.Test.YtfepjcmjkaolgaaGOps
import Derived.Test.YtfepjcmjkaolgaaGMem
set_option linter.all false
namespace Go.Proofs.Ytfepjcmjkaolgaa.G
open Go Go.RowKit
section
variable {P : Program} {n : Nat} {ops : Array Oper} {e : Env} {dst : Option Tmp} {ty : TypeId} {pos : String} {af : Array Go.Edge} {S : World → Prop}
theorem q_quo {T T2 : TypeId} {x y : Operand} {k : IntKind} {a b z : Int} (hx : evo e x = some (.int k a)) (hy : evo e y = some (.int k b)) (hb : b ≠ 0) (hz : k.wrap (a.tdiv b) = z) : Quiet P n ops S ⟨dst, .binOp .quo T x y T2, ty, pos, af, none⟩ e (.int k z) := by
  replace hx := ev_of hx
  replace hy := ev_of hy
  exact q_of rfl fun w _ => by rw [run_bin_int rfl w hx hy]; simp [binOp, Op.intDiv, hb, hz]
theorem q_rem {T T2 : TypeId} {x y : Operand} {k : IntKind} {a b : Int} (hx : evo e x = some (.int k a)) (hy : evo e y = some (.int k b)) (hb : b ≠ 0) : Quiet P n ops S ⟨dst, .binOp .rem T x y T2, ty, pos, af, none⟩ e (.int k (a.tmod b)) := by
  replace hx := ev_of hx
  replace hy := ev_of hy
  exact q_of rfl fun w _ => by rw [run_bin_int rfl w hx hy]; simp [binOp, Op.intDiv, hb]
def andK (k : IntKind) (a b : Int) : Int := k.wrap ((BitVec.ofInt k.bits a &&& BitVec.ofInt k.bits b).toNat : Int)
def xorK (k : IntKind) (a b : Int) : Int := k.wrap ((BitVec.ofInt k.bits a ^^^ BitVec.ofInt k.bits b).toNat : Int)
theorem q_and {T T2 : TypeId} {x y : Operand} {k : IntKind} {a b : Int} (hx : evo e x = some (.int k a)) (hy : evo e y = some (.int k b)) : Quiet P n ops S ⟨dst, .binOp .and T x y T2, ty, pos, af, none⟩ e (.int k (andK k a b)) := by
  replace hx := ev_of hx
  replace hy := ev_of hy
  exact q_of rfl fun w _ => by rw [run_bin_int rfl w hx hy]; simp [binOp, Op.intBits, andK]
theorem q_xor {T T2 : TypeId} {x y : Operand} {k : IntKind} {a b : Int} (hx : evo e x = some (.int k a)) (hy : evo e y = some (.int k b)) : Quiet P n ops S ⟨dst, .binOp .xor T x y T2, ty, pos, af, none⟩ e (.int k (xorK k a b)) := by
  replace hx := ev_of hx
  replace hy := ev_of hy
  exact q_of rfl fun w _ => by rw [run_bin_int rfl w hx hy]; simp [binOp, Op.intBits, xorK]
def shlK (k : IntKind) (a b : Int) : Int := k.wrap (a * 2 ^ min b.toNat k.bits)
def shrK (k : IntKind) (a b : Int) : Int := a.fdiv (2 ^ min b.toNat k.bits)
theorem q_shl {T T2 : TypeId} {x y : Operand} {k k2 : IntKind} {a b : Int} (hx : evo e x = some (.int k a)) (hy : evo e y = some (.int k2 b)) (hb : 0 ≤ b) : Quiet P n ops S ⟨dst, .binOp .shl T x y T2, ty, pos, af, none⟩ e (.int k (shlK k a b)) := by
  replace hx := ev_of hx
  replace hy := ev_of hy
  have hn : ¬ b < 0 := by omega
  exact q_of rfl fun w _ => by simp [execOp, hx, hy, eqGuard, binOp, Op.shift, hn, shlK]
theorem q_shr {T T2 : TypeId} {x y : Operand} {k k2 : IntKind} {a b : Int} (hx : evo e x = some (.int k a)) (hy : evo e y = some (.int k2 b)) (hb : 0 ≤ b) : Quiet P n ops S ⟨dst, .binOp .shr T x y T2, ty, pos, af, none⟩ e (.int k (shrK k a b)) := by
  replace hx := ev_of hx
  replace hy := ev_of hy
  have hn : ¬ b < 0 := by omega
  exact q_of rfl fun w _ => by simp [execOp, hx, hy, eqGuard, binOp, Op.shift, hn, shrK]
/-- A whole number of another kind. -/
theorem q_cvII {src d : TypeId} {x : Operand} {k k' : IntKind} {r r' : Int} (hs : (P.underlying src).isSome = true) (hd : P.underlying d = some (.int k')) (hw : k'.wrap r = r') (hx : evo e x = some (.int k r)) : Quiet P n ops S ⟨dst, .convert src d x, ty, pos, af, none⟩ e (.int k' r') := by
  replace hx := ev_of hx
  have hk : P.intKind d = k' := by simp [Program.intKind, hd]
  refine q_of rfl fun w _ => ?_
  have := run_convert_int (P := P) w src d k r hs (by rw [hk]; exact hd)
  simp only [execOp, hx, Sem.run_bind, this, Result.andThen_ok, Sem.run_pure, hk, hw]
end
theorem tdivN {x : Int} {n k : Nat} (h : x = (n : Int)) : x.tdiv (k : Int) = ((n / k : Nat) : Int) := by
  subst h; exact (Int.ofNat_tdiv n k).symm
theorem and_u64 {a m : Int} (h0 : 0 ≤ m) (h1 : m ≤ 18446744073709551615) : 0 ≤ andK .u64 a m ∧ andK .u64 a m ≤ m := by
  have h2 : (BitVec.ofInt 64 a &&& BitVec.ofInt 64 m).toNat ≤ (BitVec.ofInt 64 m).toNat := by rw [BitVec.toNat_and]; exact Nat.and_le_right
  have h3 : ((BitVec.ofInt 64 m).toNat : Int) = m := by
    rw [BitVec.toNat_ofInt]
    have : m % ((2 ^ 64 : Nat) : Int) = m := Int.emod_eq_of_lt h0 (by omega)
    rw [this, Int.toNat_of_nonneg h0]
  show 0 ≤ IntKind.u64.wrap ((BitVec.ofInt 64 a &&& BitVec.ofInt 64 m).toNat : Int) ∧ IntKind.u64.wrap ((BitVec.ofInt 64 a &&& BitVec.ofInt 64 m).toNat : Int) ≤ m
  rw [IntWalk.u64_in _ (by omega)]
  omega
end Go.Proofs.Ytfepjcmjkaolgaa.G

set_option linter.all false
namespace Go.Proofs.Ytfepjcmjkaolgaa.G.PQ
/-- A part of a row is permuted, the rest stays. -/
structure PO (xs ys : List Int) (a b : Nat) : Prop where
  perm : ys.Perm xs
  out : ∀ p, p < a ∨ b ≤ p → ys.getD p 0 = xs.getD p 0
theorem PO.refl (xs : List Int) (a b : Nat) : PO xs xs a b := ⟨.refl _, fun _ _ => rfl⟩
theorem PO.trans {xs ys zs : List Int} {a b : Nat} (h : PO xs ys a b) (k : PO ys zs a b) : PO xs zs a b := ⟨k.perm.trans h.perm, fun p hp => (k.out p hp).trans (h.out p hp)⟩
theorem PO.len {xs ys : List Int} {a b : Nat} (h : PO xs ys a b) : ys.length = xs.length := h.perm.length_eq
theorem PO.sub {xs ys : List Int} {a b a' b' : Nat} (h : PO xs ys a b) (h1 : a' ≤ a) (h2 : b ≤ b') : PO xs ys a' b' := ⟨h.perm, fun p hp => h.out p (by omega)⟩
theorem getD_lt {l : List Int} {p : Nat} (h : p < l.length) : l.getD p 0 = l[p] := by simp [List.getD, h]
theorem at_some {l : List Int} {p : Nat} (h : p < l.length) : l[p]? = some (l.getD p 0) := by rw [getD_lt h]; exact List.getElem?_eq_getElem h
theorem getD_set {l : List Int} {i p : Nat} {v : Int} (h : i < l.length) : (l.set i v).getD p 0 = if p = i then v else l.getD p 0 := by
  simp only [List.getD, List.getElem?_set]
  by_cases e : p = i
  · subst e; simp [h]
  · rw [if_neg (fun e' => e e'.symm), if_neg e]
/-- Two places exchanged. -/
def sw (l : List Int) (i j : Nat) : List Int := (l.set i (l.getD j 0)).set j (l.getD i 0)
theorem sw_len (l : List Int) (i j : Nat) : (sw l i j).length = l.length := by simp [sw]
theorem sw_at {l : List Int} {i j : Nat} (hi : i < l.length) (hj : j < l.length) (p : Nat) : (sw l i j).getD p 0 = if p = j then l.getD i 0 else if p = i then l.getD j 0 else l.getD p 0 := by
  rw [sw, getD_set (by simpa using hj), getD_set hi]
theorem sw_perm {l : List Int} {i j : Nat} (hi : i < l.length) (hj : j < l.length) : (sw l i j).Perm l := by
  rw [sw, getD_lt hi, getD_lt hj]
  exact List.set_set_perm hi hj
theorem PO.sw {xs l : List Int} {a b i j : Nat} (h : PO xs l a b) (hi : i < l.length) (hj : j < l.length) (h1 : a ≤ i) (h2 : i < b) (h3 : a ≤ j) (h4 : j < b) : PO xs (sw l i j) a b :=
  ⟨(sw_perm hi hj).trans h.perm, fun p hp => by rw [sw_at hi hj, if_neg (by omega), if_neg (by omega)]; exact h.out p hp⟩
theorem PO.mid {xs ys : List Int} {a b : Nat} (h : PO xs ys a b) (hab : a ≤ b) (hb : b ≤ xs.length) : ((ys.take b).drop a).Perm ((xs.take b).drop a) := by
  have hl := h.len
  have e1 : ys.take a = xs.take a := by
    apply List.ext_getElem (by simp [hl])
    intro p h1 h2
    have h3 : p < a := by simp at h1; omega
    have := h.out p (.inl h3)
    rw [getD_lt (by simp at h1; omega), getD_lt (by simp at h2; omega)] at this
    simpa using this
  have e2 : ys.drop b = xs.drop b := by
    apply List.ext_getElem (by simp [hl])
    intro p h1 h2
    have := h.out (b + p) (.inr (by omega))
    rw [getD_lt (by simp at h1; omega), getD_lt (by simp at h2; omega)] at this
    simpa using this
  have dec : ∀ l : List Int, l = l.take a ++ ((l.take b).drop a ++ l.drop b) := fun l => by
    have : l.take a = (l.take b).take a := by rw [List.take_take, Nat.min_eq_left hab]
    rw [this, ← List.append_assoc, List.take_append_drop, List.take_append_drop]
  have hp := h.perm
  rw [dec ys, dec xs, e1, e2] at hp
  exact (List.perm_append_right_iff _).1 ((List.perm_append_left_iff _).1 hp)
theorem PO.from {xs ys : List Int} {a b : Nat} (h : PO xs ys a b) (hb : b ≤ xs.length) {p : Nat} (h1 : a ≤ p) (h2 : p < b) : ∃ q, a ≤ q ∧ q < b ∧ ys.getD p 0 = xs.getD q 0 := by
  have hm := h.mid (by omega) hb
  have hl := h.len
  have : ys.getD p 0 ∈ (ys.take b).drop a := by
    rw [getD_lt (by omega)]
    refine List.mem_iff_getElem.2 ⟨p - a, by simp; omega, ?_⟩
    have e : a + (p - a) = p := by omega
    simp [e]
  obtain ⟨q, hq, e⟩ := List.mem_iff_getElem.1 (hm.mem_iff.1 this)
  simp at hq
  refine ⟨a + q, by omega, by omega, ?_⟩
  rw [getD_lt (p := a + q) (by omega), ← e]
  simp
/-- All of a part have a property. -/
def Al (l : List Int) (a b : Nat) (Q : Int → Prop) : Prop := ∀ p, a ≤ p → p < b → Q (l.getD p 0)
theorem PO.al {xs ys : List Int} {a b : Nat} (h : PO xs ys a b) (hb : b ≤ xs.length) {Q : Int → Prop} (k : Al xs a b Q) : Al ys a b Q := fun p h1 h2 => by
  obtain ⟨q, h3, h4, e⟩ := h.from hb h1 h2
  rw [e]; exact k q h3 h4
def Srt (l : List Int) (a b : Nat) : Prop := ∀ p q, a ≤ p → p < q → q < b → l.getD p 0 ≤ l.getD q 0
/-- The least bound on the left. -/
def Low (l : List Int) (a b : Nat) : Prop := a = 0 ∨ Al l a b (l.getD (a - 1) 0 ≤ ·)
theorem PO.low {xs ys : List Int} {a b : Nat} (h : PO xs ys a b) (hb : b ≤ xs.length) (k : Low xs a b) : Low ys a b := by
  by_cases e : a = 0
  · exact .inl e
  rcases k with k | k
  · exact absurd k e
  · refine .inr ?_
    rw [h.out _ (.inl (by omega))]
    exact h.al hb k
theorem Low.sub {l : List Int} {a b b' : Nat} (h : Low l a b) (hb : b' ≤ b) : Low l a b' := h.imp id fun k p h1 h2 => k p h1 (by omega)
theorem Low.le {l : List Int} {a b : Nat} (h : Low l a b) (ha : a ≠ 0) {p : Nat} (h1 : a ≤ p) (h2 : p < b) : l.getD (a - 1) 0 ≤ l.getD p 0 := (h.resolve_left ha) p h1 h2
theorem Srt.snoc {l : List Int} {a i : Nat} (h : Srt l a i) (hi : i = a ∨ l.getD (i - 1) 0 ≤ l.getD i 0) : Srt l a (i + 1) := fun p q h1 h2 h3 => by
  by_cases e : q = i
  · subst e
    rcases hi with hi | hi
    · omega
    by_cases e : p = q - 1
    · rw [e]; exact hi
    · exact Int.le_trans (h p (q - 1) h1 (by omega) (by omega)) hi
  · exact h p q h1 h2 (by omega)
theorem Srt.one {l : List Int} {a i : Nat} (h : i ≤ a + 1) : Srt l a i := fun p q h1 h2 h3 => by omega
theorem Srt.sw {l : List Int} {a i p q : Nat} (h : Srt l a i) (hp : i ≤ p) (hq : i ≤ q) (h1 : p < l.length) (h2 : q < l.length) : Srt (PQ.sw l p q) a i := fun x y g1 g2 g3 => by
  rw [sw_at h1 h2, sw_at h1 h2, if_neg (by omega), if_neg (by omega), if_neg (by omega), if_neg (by omega)]
  exact h x y g1 g2 g3
theorem Srt.mono {l : List Int} {a i j : Nat} (h : Srt l a i) (hj : j ≤ i) : Srt l a j := fun x y g1 g2 g3 => h x y g1 g2 (by omega)
/-- What stands below is no greater. -/
theorem Low.stop {xs l : List Int} {a b : Nat} (h : PO xs l a b) (hb : b ≤ xs.length) (k : Low xs a b) {p : Nat} (h1 : a ≤ p) (h2 : p < b) (h0 : a ≠ 0) : l.getD (a - 1) 0 ≤ l.getD p 0 := (h.low hb k).le h0 h1 h2
theorem srt_all {l : List Int} (h : Srt l 0 l.length) : l.Pairwise (· ≤ ·) := List.pairwise_iff_getElem.2 fun p q hp hq hpq => by
  have := h p q (Nat.zero_le _) hpq hq
  rw [getD_lt hp, getD_lt hq] at this
  exact this
/-! ### insertion -/
structure InB (xs l : List Int) (a b i j : Nat) : Prop where
  po : PO xs l a b
  aj : a ≤ j
  ji : j ≤ i
  ib : i < b
  bl : b ≤ xs.length
  old : ∀ p q, a ≤ p → p < q → q ≤ i → p ≠ j → q ≠ j → l.getD p 0 ≤ l.getD q 0
  new : ∀ q, j < q → q ≤ i → l.getD j 0 ≤ l.getD q 0
theorem InB.opn {xs l : List Int} {a b i : Nat} (h : PO xs l a b) (hs : Srt l a i) (ha : a ≤ i) (hi : i < b) (hb : b ≤ xs.length) : InB xs l a b i i :=
  ⟨h, ha, Nat.le_refl _, hi, hb, fun p q h0 h1 h2 h3 h4 => hs p q h0 h1 (by omega), fun q h1 h2 => by omega⟩
theorem InB.step {xs l : List Int} {a b i j : Nat} (h : InB xs l a b i j) (h0 : a < j) (hlt : l.getD j 0 < l.getD (j - 1) 0) : InB xs (PQ.sw l j (j - 1)) a b i (j - 1) := by
  have hji := h.ji
  have hib := h.ib
  have hbl := h.bl
  have hl := h.po.len
  have g := sw_at (l := l) (i := j) (j := j - 1) (by omega) (by omega)
  refine ⟨h.po.sw (by omega) (by omega) (by omega) (by omega) (by omega) (by omega), by omega, by omega, hib, hbl, fun p q h1 h2 h3 h4 h5 => ?_, fun q h1 h2 => ?_⟩
  · rw [g, g, if_neg h4, if_neg h5]
    by_cases e1 : p = j
    · rw [if_pos e1, if_neg (by omega)]
      exact h.old (j - 1) q (by omega) (by omega) h3 (by omega) (by omega)
    · rw [if_neg e1]
      by_cases e2 : q = j
      · rw [if_pos e2]; exact h.old p (j - 1) h1 (by omega) (by omega) e1 (by omega)
      · rw [if_neg e2]; exact h.old p q h1 h2 h3 e1 e2
  · rw [g, g, if_pos rfl, if_neg (by omega)]
    by_cases e2 : q = j
    · rw [if_pos e2]; omega
    · rw [if_neg e2]; exact h.new q (by omega) h2
theorem InB.done {xs l : List Int} {a b i j : Nat} (h : InB xs l a b i j) (hs : j ≤ a ∨ l.getD (j - 1) 0 ≤ l.getD j 0) : PO xs l a b ∧ Srt l a (i + 1) := by
  refine ⟨h.po, fun p q h0 h1 h2 => ?_⟩
  have hj := h.aj
  by_cases e1 : p = j
  · subst e1; exact h.new q h1 (by omega)
  by_cases e2 : q = j
  · subst e2
    rcases hs with hs | hs
    · omega
    · by_cases e3 : p = q - 1
      · subst e3; exact hs
      · exact Int.le_trans (h.old p (q - 1) h0 (by omega) (by have := h.ji; omega) e1 (by omega)) hs
  · exact h.old p q h0 h1 (by omega) e1 e2
/-! ### heaps -/
def Hp (l : List Int) (f lo hi : Nat) : Prop := ∀ k, lo ≤ k → ∀ c, c = 2 * k + 1 ∨ c = 2 * k + 2 → c < hi → l.getD (f + c) 0 ≤ l.getD (f + k) 0
structure HpX (xs l : List Int) (f lo hi r : Nat) : Prop where
  po : PO xs l (f + lo) (f + hi)
  lr : lo ≤ r
  rh : r < hi ∨ r = lo
  hl : f + hi ≤ xs.length
  most : ∀ k, lo ≤ k → k ≠ r → ∀ c, c = 2 * k + 1 ∨ c = 2 * k + 2 → c < hi → l.getD (f + c) 0 ≤ l.getD (f + k) 0
  gap : ∀ k, lo ≤ k → r = 2 * k + 1 ∨ r = 2 * k + 2 → ∀ c, c = 2 * r + 1 ∨ c = 2 * r + 2 → c < hi → l.getD (f + c) 0 ≤ l.getD (f + k) 0
theorem HpX.opn {xs : List Int} {f lo hi : Nat} (h : Hp xs f (lo + 1) hi) (hl : f + hi ≤ xs.length) : HpX xs xs f lo hi lo :=
  ⟨.refl _ _ _, Nat.le_refl _, .inr rfl, hl, fun k h1 h2 => h k (by omega), fun k h1 h2 => by omega⟩
theorem HpX.none {xs l : List Int} {f lo hi r : Nat} (h : HpX xs l f lo hi r) (hr : hi ≤ 2 * r + 1) : PO xs l (f + lo) (f + hi) ∧ Hp l f lo hi := by
  refine ⟨h.po, fun k h1 c h2 h3 => ?_⟩
  by_cases e : k = r
  · omega
  · exact h.most k h1 e c h2 h3
theorem HpX.fin {xs l : List Int} {f lo hi r m : Nat} (h : HpX xs l f lo hi r) (hm : ∀ c, c = 2 * r + 1 ∨ c = 2 * r + 2 → c < hi → l.getD (f + c) 0 ≤ l.getD (f + m) 0) (hr : l.getD (f + m) 0 ≤ l.getD (f + r) 0) : PO xs l (f + lo) (f + hi) ∧ Hp l f lo hi := by
  refine ⟨h.po, fun k h1 c h2 h3 => ?_⟩
  by_cases e : k = r
  · subst e; exact Int.le_trans (hm c h2 h3) hr
  · exact h.most k h1 e c h2 h3
theorem HpX.step {xs l : List Int} {f lo hi r m : Nat} (h : HpX xs l f lo hi r) (hm : ∀ c, c = 2 * r + 1 ∨ c = 2 * r + 2 → c < hi → l.getD (f + c) 0 ≤ l.getD (f + m) 0) (hc : m = 2 * r + 1 ∨ m = 2 * r + 2) (hh : m < hi) (hr : l.getD (f + r) 0 < l.getD (f + m) 0) : HpX xs (PQ.sw l (f + r) (f + m)) f lo hi m := by
  have hlr := h.lr
  have hl := h.po.len
  have hhl := h.hl
  have g := sw_at (l := l) (i := f + r) (j := f + m) (by omega) (by omega)
  refine ⟨h.po.sw (by omega) (by omega) (by omega) (by omega) (by omega) (by omega), by omega, .inl hh, hhl, fun k h1 h2 c h3 h4 => ?_, fun k h1 h2 c h3 h4 => ?_⟩
  · rw [g, g, if_neg (c := f + k = f + m) (by omega)]
    by_cases e : k = r
    · subst e
      rw [if_pos (c := f + k = f + k) rfl]
      by_cases e2 : c = m
      · rw [if_pos (by omega)]; omega
      · rw [if_neg (by omega), if_neg (by omega)]; exact hm c h3 h4
    · rw [if_neg (c := f + k = f + r) (by omega), if_neg (by omega)]
      by_cases e2 : c = r
      · subst e2; rw [if_pos rfl]; exact h.gap k h1 h3 m hc hh
      · rw [if_neg (by omega)]; exact h.most k h1 e c h3 h4
  · rw [g, g, if_neg (c := f + c = f + m) (by omega), if_neg (c := f + c = f + r) (by omega), if_neg (c := f + k = f + m) (by omega), if_pos (by omega)]
    exact h.most m (by omega) (by omega) c h3 h4
theorem Hp.root {l : List Int} {f hi : Nat} (h : Hp l f 0 hi) : ∀ k, k < hi → l.getD (f + k) 0 ≤ l.getD f 0 := fun k => by
  induction k using Nat.strongRecOn with
  | ind k ih =>
    intro hk
    by_cases e : k = 0
    · subst e; exact Int.le_refl _
    · exact Int.le_trans (h ((k - 1) / 2) (by omega) k (by omega) hk) (ih _ (by omega) (by omega))
/-- Popping: the greatest stand behind i, sorted. -/
structure Pop (xs l : List Int) (a b i : Nat) : Prop where
  po : PO xs l a b
  hp : Hp l a 0 i
  srt : Srt l (a + i) b
  top : ∀ p q, a ≤ p → p < a + i → a + i ≤ q → q < b → l.getD p 0 ≤ l.getD q 0
  bl : b ≤ xs.length
  ib : a + i ≤ b
theorem Pop.opn {xs l : List Int} {a b : Nat} (h : PO xs l a b) (hp : Hp l a 0 (b - a)) (hb : b ≤ xs.length) (hab : a ≤ b) : Pop xs l a b (b - a) :=
  ⟨h, hp, fun p q h1 h2 h3 => by omega, fun p q h1 h2 h3 h4 => by omega, hb, by omega⟩
theorem Pop.fin {xs l : List Int} {a b : Nat} (h : Pop xs l a b 0) : PO xs l a b ∧ Srt l a b := ⟨h.po, h.srt⟩
theorem Pop.pre {xs l : List Int} {a b i : Nat} (h : Pop xs l a b (i + 1)) : Hp (sw l a (a + i)) a (0 + 1) i := fun k h1 c h2 h3 => by
  have hl := h.po.len
  have := h.bl
  have := h.ib
  rw [sw_at (by omega) (by omega), sw_at (by omega) (by omega), if_neg (by omega), if_neg (by omega), if_neg (by omega), if_neg (by omega)]
  exact h.hp k (by omega) c h2 (by omega)
theorem Pop.next {xs l l' : List Int} {a b i : Nat} (h : Pop xs l a b (i + 1)) (k : PO (sw l a (a + i)) l' (a + 0) (a + i) ∧ Hp l' a 0 i) : Pop xs l' a b i := by
  have hl := h.po.len
  have hbl := h.bl
  have hib := h.ib
  have k1 := k.1
  rw [Nat.add_zero] at k1
  have g := sw_at (l := l) (i := a) (j := a + i) (by omega) (by omega)
  have hs : PO xs (PQ.sw l a (a + i)) a b := h.po.sw (by omega) (by omega) (by omega) (by omega) (by omega) (by omega)
  have hx : l'.getD (a + i) 0 = l.getD a 0 := by rw [k1.out _ (.inr (by omega)), g, if_pos rfl]
  have hr : ∀ q, a + i < q → l'.getD q 0 = l.getD q 0 := fun q hq => by rw [k1.out _ (.inr (by omega)), g, if_neg (by omega), if_neg (by omega)]
  have hroot := h.hp.root
  have hlow : Al l' a (a + i) (· ≤ l.getD a 0) := by
    refine k1.al (by rw [sw_len]; omega) fun p h1 h2 => ?_
    rw [g, if_neg (by omega)]
    by_cases e : p = a
    · rw [if_pos e]; exact hroot i (by omega)
    · rw [if_neg e]
      have := hroot (p - a) (by omega)
      rw [show a + (p - a) = p from by omega] at this
      exact this
  have hold : Al l' a (a + i) fun v => ∀ q, a + (i + 1) ≤ q → q < b → v ≤ l.getD q 0 := by
    refine k1.al (by rw [sw_len]; omega) fun p h1 h2 q h3 h4 => ?_
    rw [g, if_neg (by omega)]
    by_cases e : p = a
    · rw [if_pos e]; exact h.top (a + i) q (by omega) (by omega) h3 h4
    · rw [if_neg e]; exact h.top p q h1 (by omega) h3 h4
  refine ⟨hs.trans (k1.sub (Nat.le_refl _) (by omega)), k.2, fun p q h1 h2 h3 => ?_, fun p q h1 h2 h3 h4 => ?_, hbl, by omega⟩
  · rw [hr q (by omega)]
    by_cases e : p = a + i
    · rw [e, hx]; exact h.top a q (by omega) (by omega) (by omega) h3
    · rw [hr p (by omega)]; exact h.srt p q (by omega) h2 h3
  · by_cases e : q = a + i
    · rw [e, hx]; exact hlow p h1 h2
    · rw [hr q (by omega)]; exact hold p h1 h2 q (by omega) h4
/-! ### partition -/
structure Pt (xs l : List Int) (a b i j : Nat) : Prop where
  po : PO xs l a b
  ai : a < i
  ij : i ≤ j + 1
  jb : j < b
  bl : b ≤ xs.length
  lo : ∀ q, a < q → q < i → l.getD q 0 < l.getD a 0
  hi : ∀ q, j < q → q < b → l.getD a 0 ≤ l.getD q 0
theorem Pt.opn {xs : List Int} {a b v : Nat} (h1 : a ≤ v) (h2 : v < b) (hb : b ≤ xs.length) : Pt xs (sw xs a v) a b (a + 1) (b - 1) :=
  ⟨(PO.refl xs a b).sw (by omega) (by omega) (by omega) (by omega) h1 h2, by omega, by omega, by omega, hb, fun q h1 h2 => by omega, fun q h1 h2 => by omega⟩
theorem Pt.up {xs l : List Int} {a b i j : Nat} (h : Pt xs l a b i j) (hij : i ≤ j) (hl : l.getD i 0 < l.getD a 0) : Pt xs l a b (i + 1) j :=
  ⟨h.po, by have := h.ai; omega, by omega, h.jb, h.bl, fun q h1 h2 => by
    by_cases e : q = i
    · rw [e]; exact hl
    · exact h.lo q h1 (by omega), h.hi⟩
theorem Pt.down {xs l : List Int} {a b i j : Nat} (h : Pt xs l a b i j) (hij : i ≤ j) (hl : l.getD a 0 ≤ l.getD j 0) : Pt xs l a b i (j - 1) :=
  ⟨h.po, h.ai, by omega, by have := h.jb; omega, h.bl, h.lo, fun q h1 h2 => by
    by_cases e : q = j
    · rw [e]; exact hl
    · exact h.hi q (by omega) h2⟩
theorem Pt.swap {xs l : List Int} {a b i j : Nat} (h : Pt xs l a b i j) (hij : i ≤ j) (h1 : l.getD a 0 ≤ l.getD i 0) (h2 : l.getD j 0 < l.getD a 0) : Pt xs (sw l i j) a b (i + 1) (j - 1) ∧ i < j := by
  have hne : i ≠ j := fun e => by rw [e] at h1; omega
  have hl := h.po.len
  have hbl := h.bl
  have hjb := h.jb
  have hai := h.ai
  have g := sw_at (l := l) (i := i) (j := j) (by omega) (by omega)
  refine ⟨⟨h.po.sw (by omega) (by omega) (by omega) (by omega) (by omega) (by omega), by omega, by omega, by omega, hbl, fun q h3 h4 => ?_, fun q h3 h4 => ?_⟩, by omega⟩
  · rw [g, g, if_neg (c := a = j) (by omega), if_neg (c := a = i) (by omega), if_neg (by omega)]
    by_cases e : q = i
    · rw [if_pos e]; exact h2
    · rw [if_neg e]; exact h.lo q h3 (by omega)
  · rw [g, g, if_neg (c := a = j) (by omega), if_neg (c := a = i) (by omega)]
    by_cases e : q = j
    · rw [if_pos e]; exact h1
    · rw [if_neg e, if_neg (by omega)]; exact h.hi q (by omega) h4
/-- Parted at m. -/
structure Pd (xs ys : List Int) (a b m : Nat) : Prop where
  po : PO xs ys a b
  am : a ≤ m
  mb : m < b
  lo : ∀ q, a ≤ q → q < m → ys.getD q 0 ≤ ys.getD m 0
  hi : ∀ q, m < q → q < b → ys.getD m 0 ≤ ys.getD q 0
theorem Pt.fin {xs l : List Int} {a b i j : Nat} (h : Pt xs l a b i j) (hij : j < i) : Pd xs (sw l j a) a b j := by
  have hl := h.po.len
  have hbl := h.bl
  have hjb := h.jb
  have hai := h.ai
  have hij := h.ij
  have g := sw_at (l := l) (i := j) (j := a) (by omega) (by omega)
  refine ⟨h.po.sw (by omega) (by omega) (by omega) (by omega) (by omega) (by omega), by omega, by omega, fun q h1 h2 => ?_, fun q h1 h2 => ?_⟩
  · rw [g, g]
    by_cases e : q = a
    · rw [if_pos e, if_neg (c := j = a) (by omega), if_pos rfl]; exact Int.le_of_lt (h.lo j (by omega) (by omega))
    · rw [if_neg e, if_neg (by omega), if_neg (c := j = a) (by omega), if_pos rfl]; exact Int.le_of_lt (h.lo q (by omega) (by omega))
  · rw [g, g, if_neg (c := q = a) (by omega), if_neg (c := q = j) (by omega)]
    by_cases e : j = a
    · rw [if_pos e, e]; exact h.hi q h1 h2
    · rw [if_neg e, if_pos rfl]; exact h.hi q h1 h2
/-! ### partition by equals -/
structure Pe (xs l : List Int) (a b i j : Nat) : Prop where
  po : PO xs l a b
  ai : a < i
  ij : i ≤ j + 1
  jb : j < b
  bl : b ≤ xs.length
  lo : ∀ q, a ≤ q → q < i → l.getD q 0 ≤ l.getD a 0
  hi : ∀ q, j < q → q < b → l.getD a 0 < l.getD q 0
theorem Pe.opn {xs : List Int} {a b v : Nat} (h1 : a ≤ v) (h2 : v < b) (hb : b ≤ xs.length) : Pe xs (sw xs a v) a b (a + 1) (b - 1) :=
  ⟨(PO.refl xs a b).sw (by omega) (by omega) (by omega) (by omega) h1 h2, by omega, by omega, by omega, hb, fun q h1 h2 => by rw [show q = a from by omega]; exact Int.le_refl _, fun q h1 h2 => by omega⟩
theorem Pe.up {xs l : List Int} {a b i j : Nat} (h : Pe xs l a b i j) (hij : i ≤ j) (hl : l.getD i 0 ≤ l.getD a 0) : Pe xs l a b (i + 1) j :=
  ⟨h.po, by have := h.ai; omega, by omega, h.jb, h.bl, fun q h1 h2 => by
    by_cases e : q = i
    · rw [e]; exact hl
    · exact h.lo q h1 (by omega), h.hi⟩
theorem Pe.down {xs l : List Int} {a b i j : Nat} (h : Pe xs l a b i j) (hij : i ≤ j) (hl : l.getD a 0 < l.getD j 0) : Pe xs l a b i (j - 1) :=
  ⟨h.po, h.ai, by omega, by have := h.jb; omega, h.bl, h.lo, fun q h1 h2 => by
    by_cases e : q = j
    · rw [e]; exact hl
    · exact h.hi q (by omega) h2⟩
theorem Pe.swap {xs l : List Int} {a b i j : Nat} (h : Pe xs l a b i j) (hij : i ≤ j) (h1 : l.getD a 0 < l.getD i 0) (h2 : l.getD j 0 ≤ l.getD a 0) : Pe xs (sw l i j) a b (i + 1) (j - 1) ∧ i < j := by
  have hne : i ≠ j := fun e => by rw [e] at h1; omega
  have hl := h.po.len
  have hbl := h.bl
  have hjb := h.jb
  have hai := h.ai
  have g := sw_at (l := l) (i := i) (j := j) (by omega) (by omega)
  refine ⟨⟨h.po.sw (by omega) (by omega) (by omega) (by omega) (by omega) (by omega), by omega, by omega, by omega, hbl, fun q h3 h4 => ?_, fun q h3 h4 => ?_⟩, by omega⟩
  · rw [g, g, if_neg (c := a = j) (by omega), if_neg (c := a = i) (by omega), if_neg (by omega)]
    by_cases e : q = i
    · rw [if_pos e]; exact h2
    · rw [if_neg e]; exact h.lo q h3 (by omega)
  · rw [g, g, if_neg (c := a = j) (by omega), if_neg (c := a = i) (by omega)]
    by_cases e : q = j
    · rw [if_pos e]; exact h1
    · rw [if_neg e, if_neg (by omega)]; exact h.hi q (by omega) h4
structure Pq (xs ys : List Int) (a b m : Nat) : Prop where
  po : PO xs ys a b
  am : a < m
  mb : m ≤ b
  bl : b ≤ xs.length
  lo : ∀ q, a ≤ q → q < m → ys.getD q 0 ≤ ys.getD a 0
  hi : ∀ q, m ≤ q → q < b → ys.getD a 0 < ys.getD q 0
theorem Pe.fin {xs l : List Int} {a b i j : Nat} (h : Pe xs l a b i j) (hij : j < i) : Pq xs l a b i :=
  ⟨h.po, h.ai, by have := h.ij; have := h.jb; omega, h.bl, h.lo, fun q h1 h2 => h.hi q (by omega) h2⟩
/-! ### the whole -/
/-- Every pair that is not inside of [a', b') is in order. -/
structure Fr (xs l : List Int) (a b a' b' : Nat) : Prop where
  po : PO xs l a b
  aa : a ≤ a'
  ab : a' ≤ b'
  bb : b' ≤ b
  bl : b ≤ xs.length
  out : ∀ p q, a ≤ p → p < q → q < b → p < a' ∨ b' ≤ q → l.getD p 0 ≤ l.getD q 0
  low : Low l a' b'
theorem Fr.opn {xs : List Int} {a b : Nat} (h : a ≤ b) (hb : b ≤ xs.length) (hl : Low xs a b) : Fr xs xs a b a b := ⟨.refl _ _ _, Nat.le_refl _, h, Nat.le_refl _, hb, fun p q h1 h2 h3 h4 => by omega, hl⟩
theorem Fr.perm {xs l l' : List Int} {a b a' b' : Nat} (h : Fr xs l a b a' b') (k : PO l l' a' b') : Fr xs l' a b a' b' := by
  have h1 := h.aa
  have h2 := h.ab
  have h3 := h.bb
  have h4 := h.bl
  have hl := h.po.len
  refine ⟨h.po.trans (k.sub h1 h3), h1, h2, h3, h4, fun p q g1 g2 g3 g4 => ?_, k.low (by omega) h.low⟩
  have key : ∀ p, a ≤ p → p < b → ∃ p', l'.getD p 0 = l.getD p' 0 ∧ ((p < a' ∨ b' ≤ p) ∧ p' = p ∨ (a' ≤ p ∧ p < b' ∧ a' ≤ p' ∧ p' < b')) := fun p g1 g2 => by
    by_cases e : p < a' ∨ b' ≤ p
    · exact ⟨p, k.out p e, .inl ⟨e, rfl⟩⟩
    · obtain ⟨q, e1, e2, e3⟩ := k.from (by omega) (p := p) (by omega) (by omega)
      exact ⟨q, e3, .inr ⟨by omega, by omega, e1, e2⟩⟩
  obtain ⟨p', e1, k1⟩ := key p g1 (by omega)
  obtain ⟨q', e2, k2⟩ := key q (by omega) g3
  rw [e1, e2]
  exact h.out p' q' (by omega) (by omega) (by omega) (by omega)
theorem Fr.fin {xs l l' : List Int} {a b a' b' : Nat} (h : Fr xs l a b a' b') (k : PO l l' a' b') (hs : Srt l' a' b') : PO xs l' a b ∧ Srt l' a b := by
  have f := h.perm k
  refine ⟨f.po, fun p q h1 h2 h3 => ?_⟩
  by_cases e : p < a' ∨ b' ≤ q
  · exact f.out p q h1 h2 h3 e
  · exact hs p q (by omega) h2 (by omega)
/-- The left part has been sorted. -/
theorem Fr.left {xs l l1 l2 : List Int} {a b a' b' m : Nat} (h : Fr xs l a b a' b') (k : Pd l l1 a' b' m) (hs : PO l1 l2 a' m ∧ Srt l2 a' m) : Fr xs l2 a b (m + 1) b' := by
  have f := h.perm k.po
  have h1 := f.aa
  have h2 := f.ab
  have h3 := f.bb
  have h4 := f.bl
  have hl := f.po.len
  have hm1 := k.am
  have hm2 := k.mb
  have f2 := f.perm (hs.1.sub (Nat.le_refl _) (by omega))
  have em : ∀ q, m ≤ q → l2.getD q 0 = l1.getD q 0 := fun q hq => hs.1.out q (.inr hq)
  have hlo : Al l2 a' m (· ≤ l1.getD m 0) := hs.1.al (by omega) fun q g1 g2 => k.lo q g1 g2
  refine ⟨f2.po, by omega, by omega, h3, h4, fun p q g1 g2 g3 g4 => ?_, .inr fun q g1 g2 => ?_⟩
  · by_cases e : p < a' ∨ b' ≤ q
    · exact f2.out p q g1 g2 g3 e
    by_cases e2 : q < m
    · exact hs.2 p q (by omega) g2 e2
    by_cases e3 : p = m
    · rw [em q (by omega), em p (by omega), e3]; exact k.hi q (by omega) (by omega)
    have := hlo p (by omega) (by omega)
    rw [em q (by omega)]
    by_cases e4 : q = m
    · rw [e4]; exact this
    · exact Int.le_trans this (k.hi q (by omega) (by omega))
  · rw [Nat.add_sub_cancel, em m (Nat.le_refl _), em q (by omega)]; exact k.hi q (by omega) g2
theorem Fr.right {xs l l1 l2 : List Int} {a b a' b' m : Nat} (h : Fr xs l a b a' b') (k : Pd l l1 a' b' m) (hs : PO l1 l2 (m + 1) b' ∧ Srt l2 (m + 1) b') : Fr xs l2 a b a' m := by
  have f := h.perm k.po
  have h1 := f.aa
  have h2 := f.ab
  have h3 := f.bb
  have h4 := f.bl
  have hl := f.po.len
  have hm1 := k.am
  have hm2 := k.mb
  have f2 := f.perm (hs.1.sub (by omega) (Nat.le_refl _))
  have em : ∀ q, q ≤ m → l2.getD q 0 = l1.getD q 0 := fun q hq => hs.1.out q (.inl (by omega))
  have hhi : Al l2 (m + 1) b' (l1.getD m 0 ≤ ·) := hs.1.al (by omega) fun q g1 g2 => k.hi q (by omega) g2
  refine ⟨f2.po, h1, hm1, by omega, h4, fun p q g1 g2 g3 g4 => ?_, f2.low.sub (by omega)⟩
  by_cases e : p < a' ∨ b' ≤ q
  · exact f2.out p q g1 g2 g3 e
  by_cases e2 : m < p
  · exact hs.2 p q (by omega) g2 (by omega)
  by_cases e3 : q = m
  · rw [em q (by omega), em p (by omega), e3]; exact k.lo p (by omega) (by omega)
  have := hhi q (by omega) (by omega)
  rw [em p (by omega)]
  by_cases e4 : p = m
  · rw [e4]; exact this
  · exact Int.le_trans (k.lo p (by omega) (by omega)) this
theorem Pd.lowL {xs l l1 : List Int} {a b a' b' m : Nat} (h : Fr xs l a b a' b') (k : Pd l l1 a' b' m) : Low l1 a' m := (h.perm k.po).low.sub (by have := k.mb; omega)
theorem Pd.lowR {l l1 : List Int} {a' b' m : Nat} (k : Pd l l1 a' b' m) : Low l1 (m + 1) b' := .inr fun q h1 h2 => by rw [Nat.add_sub_cancel]; exact k.hi q (by omega) h2
/-- Equal ones have been set apart. -/
theorem Fr.equal {xs l l1 : List Int} {a b a' b' m : Nat} (h : Fr xs l a b a' b') (ha : a' ≠ 0) (k : Pq l l1 a' b' m) (hv : l1.getD a' 0 ≤ l.getD (a' - 1) 0) : Fr xs l1 a b m b' := by
  have f := h.perm k.po
  have h1 := f.aa
  have h2 := f.ab
  have h3 := f.bb
  have h4 := f.bl
  have hm1 := k.am
  have hm2 := k.mb
  have hge : ∀ q, a' ≤ q → q < b' → l1.getD a' 0 ≤ l1.getD q 0 := fun q g1 g2 => by
    refine Int.le_trans hv ?_
    rw [← k.po.out _ (.inl (by omega))]
    exact f.low.le ha g1 g2
  refine ⟨f.po, by omega, hm2, h3, h4, fun p q g1 g2 g3 g4 => ?_, .inr fun q g1 g2 => ?_⟩
  · by_cases e : p < a' ∨ b' ≤ q
    · exact f.out p q g1 g2 g3 e
    have := k.lo p (by omega) (by omega)
    exact Int.le_trans this (hge q (by omega) (by omega))
  · exact Int.le_trans (k.lo (m - 1) (by omega) (by omega)) (hge q (by omega) g2)
end Go.Proofs.Ytfepjcmjkaolgaa.G.PQ
