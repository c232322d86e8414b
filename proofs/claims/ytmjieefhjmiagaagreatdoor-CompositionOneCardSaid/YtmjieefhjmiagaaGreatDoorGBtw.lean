/- The search for a middle string: the steps between configurations. Plain Lean. -/
/- utf8.ValidString and utf8.RuneCountInString at this seat, by the kit's contracts. -/
/- The search for a middle string: its block in memory; what newBetween and Through answer. -/
import Derived.Test.YtmjieefhjmiagaaGreatDoorGBfs
import Derived.Test.YtmjieefhjmiagaaGreatDoorGMap
import Derived.Test.YtmjieefhjmiagaaGreatDoorGTyp
import Derived.Test.YtmjieefhjmiagaaGreatDoorGStr
import Derived.Test.YtmjieefhjmiagaaGreatDoorGLay
import Derived.Shelf.Unicode.ValidAny
import Derived.Shelf.Utf8.RuneCount
import Derived.Test.YtmjieefhjmiagaaGreatDoorGRel
set_option linter.all false
namespace Go.Proofs.YtmjieefhjmiagaaGreatDoor.G
open Go Go.RowKit
def spkB (zs : List Int) (i j : Nat) (t u : Arc) : List (Int × Config) := if (eatB zs j u.out && decide (u.inp = t.out)) = true then [(t.out, ⟨t.dst, eatK i t.inp, u.dst, eatK j u.out⟩)] else []
def spkA (xs zs : List Int) (i j : Nat) (us : List Arc) (t : Arc) : List (Int × Config) := if (!(eatB xs i t.inp) || decide (t.out = 0)) = true then [] else us.flatMap (spkB zs i j t)
theorem spkB_len (zs : List Int) (i j : Nat) (t u : Arc) : (spkB zs i j t u).length ≤ 1 := by unfold spkB; split <;> simp
theorem spkA_len (xs zs : List Int) (i j : Nat) (us : List Arc) (t : Arc) : (spkA xs zs i j us t).length ≤ us.length := by
  unfold spkA
  split
  · simp
  · have := flat_len (spkB_len zs i j t) us; omega
def silL (a b : Tra) (xs zs : List Int) (c : Config) : List Config := (a.outs c.p).flatMap (silA xs c.i.toNat c.q.toNat c.j.toNat) ++ (b.outs c.q).flatMap (silB zs c.p.toNat c.i.toNat c.j.toNat)
def spkL (a b : Tra) (xs zs : List Int) (c : Config) : List (Int × Config) := (a.outs c.p).flatMap (spkA xs zs c.i.toNat c.j.toNat (b.outs c.q))
def cfgN (a b : Tra) (xs zs : List Int) (c : Config) : List Config := silL a b xs zs c ++ (spkL a b xs zs c).map (·.2)
theorem spkL_len (a b : Tra) (xs zs : List Int) (c : Config) : (spkL a b xs zs c).length ≤ a.arcs.length * b.arcs.length := by
  refine Nat.le_trans (flat_len (spkA_len xs zs c.i.toNat c.j.toNat (b.outs c.q)) _) ?_
  exact Nat.mul_le_mul (a.outs_len _) (b.outs_len _)
theorem silL_len (a b : Tra) (xs zs : List Int) (c : Config) : (silL a b xs zs c).length ≤ a.arcs.length + b.arcs.length := by
  rw [silL, List.length_append]
  have h1 := flat_len (silA_len xs c.i.toNat c.q.toNat c.j.toNat) (a.outs c.p)
  have h2 := flat_len (silB_len zs c.p.toNat c.i.toNat c.j.toNat) (b.outs c.q)
  have h3 := a.outs_len c.p
  have h4 := b.outs_len c.q
  omega
theorem cfg_eq {p i q j : Nat} : (Config.mk (p : Int) (i : Int) (q : Int) (j : Int)).p = (p : Int) := rfl
theorem silL_of (a b : Tra) (xs zs : List Int) (p i q j : Nat) : silL a b xs zs ⟨(p : Int), (i : Int), (q : Int), (j : Int)⟩ = (a.outs p).flatMap (silA xs i q j) ++ (b.outs q).flatMap (silB zs p i j) := rfl
theorem spkL_of (a b : Tra) (xs zs : List Int) (p i q j : Nat) : spkL a b xs zs ⟨(p : Int), (i : Int), (q : Int), (j : Int)⟩ = (a.outs p).flatMap (spkA xs zs i j (b.outs q)) := rfl
section
variable {κ β γ : Type} [DecidableEq κ]
theorem grp_nodup (key : γ → κ) (f : γ → β) (ls : List γ) : (gk (grp key f ls)).Nodup := by
  refine rev_ind (P := fun ls => (gk (grp key f ls)).Nodup) (by simp [gk, grp]) (fun l x ih => ?_) ls
  rw [grp_snoc]; exact nodup_aput ih _ _
theorem mem_gk_grp (key : γ → κ) (f : γ → β) (ls : List γ) (k : κ) : k ∈ gk (grp key f ls) ↔ ∃ e ∈ ls, key e = k := by
  refine rev_ind (P := fun ls => k ∈ gk (grp key f ls) ↔ ∃ e ∈ ls, key e = k) (by simp [gk, grp]) (fun l x ih => ?_) ls
  rw [grp_snoc, gk, keys_aput]
  simp only [gk] at ih
  split
  · rename_i h
    rw [ih]
    constructor
    · rintro ⟨e, he, h2⟩; exact ⟨e, List.mem_append.2 (.inl he), h2⟩
    · rintro ⟨e, he, h2⟩
      rcases List.mem_append.1 he with he | he
      · exact ⟨e, he, h2⟩
      · rw [List.mem_singleton.1 he] at h2
        rw [h2] at h
        exact ih.1 h
  · rw [List.mem_append, ih, List.mem_singleton]
    constructor
    · rintro (⟨e, he, h2⟩ | rfl)
      · exact ⟨e, List.mem_append.2 (.inl he), h2⟩
      · exact ⟨x, List.mem_append.2 (.inr (by simp)), rfl⟩
    · rintro ⟨e, he, h2⟩
      rcases List.mem_append.1 he with he | he
      · exact .inl ⟨e, he, h2⟩
      · rw [List.mem_singleton.1 he] at h2; exact .inr h2.symm
/-- The rows of all keys, in whatever order, hold what was grouped. -/
theorem grp_all (key : γ → κ) (f : γ → β) (ls : List γ) {α : Type} {l dn : List (κ × α)} (hk : l.map (·.1) = gk (grp key f ls)) (hp : dn.Perm l) (x : β) : x ∈ dn.flatMap (fun p => (aget (grp key f ls) p.1).getD []) ↔ x ∈ ls.map f := by
  simp only [List.mem_flatMap, grp_look, List.mem_map, List.mem_filter, decide_eq_true_eq]
  constructor
  · rintro ⟨p, _, e, ⟨he, _⟩, rfl⟩; exact ⟨e, he, rfl⟩
  · rintro ⟨e, he, rfl⟩
    have : key e ∈ l.map (·.1) := by rw [hk]; exact (mem_gk_grp key f ls _).2 ⟨e, he, rfl⟩
    obtain ⟨p, hp', h2⟩ := List.mem_map.1 this
    exact ⟨p, hp.mem_iff.2 hp', e, ⟨he, h2.symm⟩, rfl⟩
theorem grp_rows_len (key : γ → κ) (f : γ → β) (ls : List γ) {α : Type} (dn : List (κ × α)) : (dn.flatMap (fun p => (aget (grp key f ls) p.1).getD [])).length ≤ dn.length * ls.length :=
  flat_len (fun p => grp_look_len key f p.1 ls) dn
end
/-- The configurations of a search. -/
def rect4 (m lx n lz : Nat) : List Config := (List.range m).flatMap fun (p : Nat) => (List.range (lx + 1)).flatMap fun (i : Nat) => (List.range n).flatMap fun (q : Nat) => (List.range (lz + 1)).map fun (j : Nat) => ⟨p, i, q, j⟩
theorem mem_rect4 {m lx n lz : Nat} {c : Config} : c ∈ rect4 m lx n lz ↔ ∃ p i q j : Nat, c = ⟨p, i, q, j⟩ ∧ p < m ∧ i ≤ lx ∧ q < n ∧ j ≤ lz := by
  simp only [rect4, List.mem_flatMap, List.mem_range, List.mem_map]
  constructor
  · rintro ⟨p, hp, i, hi, q, hq, j, hj, rfl⟩; exact ⟨p, i, q, j, rfl, hp, by omega, hq, by omega⟩
  · rintro ⟨p, i, q, j, rfl, hp, hi, hq, hj⟩; exact ⟨p, hp, i, by omega, q, hq, j, by omega, rfl⟩
theorem flat_len_eq {α β : Type} {f : α → List β} {B : Nat} (hf : ∀ x, (f x).length = B) (xs : List α) : (xs.flatMap f).length = xs.length * B := by
  induction xs with
  | nil => simp
  | cons x xs ih => rw [List.flatMap_cons, List.length_append, ih, hf, List.length_cons, Nat.succ_mul]; omega
theorem rect4_len (m lx n lz : Nat) : (rect4 m lx n lz).length = m * ((lx + 1) * (n * (lz + 1))) := by
  rw [rect4, flat_len_eq (B := (lx + 1) * (n * (lz + 1))), List.length_range]
  intro p
  rw [flat_len_eq (B := n * (lz + 1)), List.length_range]
  intro i
  rw [flat_len_eq (B := lz + 1), List.length_range]
  intro q
  simp
theorem eat_in {l : List Int} {k : Nat} {r : Int} (h : eatB l k r = true) (hk : k ≤ l.length) : ∃ k' : Nat, eatK k r = (k' : Int) ∧ k' ≤ l.length := by
  unfold eatB at h; unfold eatK
  split
  · exact ⟨k, rfl, hk⟩
  · rename_i h0
    rw [if_neg h0] at h
    simp only [Bool.and_eq_true, decide_eq_true_eq] at h
    exact ⟨k + 1, by simp, by omega⟩
theorem cfgN_in {a b : Tra} {m n : Nat} (ha : a.Ok m) (hb : b.Ok n) {xs zs : List Int} {c d : Config} (hc : c ∈ rect4 m xs.length n zs.length) (hd : d ∈ cfgN a b xs zs c) : d ∈ rect4 m xs.length n zs.length := by
  obtain ⟨p, i, q, j, rfl, hp, hi, hq, hj⟩ := mem_rect4.1 hc
  have hA : ∀ x ∈ a.outs (p : Int), ∃ d : Nat, x.dst = (d : Int) ∧ d < m := fun x hx => by
    have := (ha.arcs x (List.mem_filter.1 hx).1).2
    exact ⟨x.dst.toNat, by omega, by omega⟩
  have hB : ∀ x ∈ b.outs (q : Int), ∃ d : Nat, x.dst = (d : Int) ∧ d < n := fun x hx => by
    have := (hb.arcs x (List.mem_filter.1 hx).1).2
    exact ⟨x.dst.toNat, by omega, by omega⟩
  rcases List.mem_append.1 hd with hd | hd
  · rw [silL_of] at hd
    rcases List.mem_append.1 hd with hd | hd
    · obtain ⟨x, hx, hd⟩ := List.mem_flatMap.1 hd
      unfold silA at hd
      split at hd
      · rename_i h
        rw [Bool.and_eq_true] at h
        obtain ⟨k, e, hk⟩ := eat_in h.1 hi
        obtain ⟨d', e', hd'⟩ := hA x hx
        rw [List.mem_singleton.1 hd]
        exact mem_rect4.2 ⟨d', k, q, j, by rw [e, e'], hd', hk, hq, hj⟩
      · simp at hd
    · obtain ⟨x, hx, hd⟩ := List.mem_flatMap.1 hd
      unfold silB at hd
      split at hd
      · rename_i h
        rw [Bool.and_eq_true] at h
        obtain ⟨k, e, hk⟩ := eat_in h.1 hj
        obtain ⟨d', e', hd'⟩ := hB x hx
        rw [List.mem_singleton.1 hd]
        exact mem_rect4.2 ⟨p, i, d', k, by rw [e, e'], hp, hi, hd', hk⟩
      · simp at hd
  · rw [spkL_of] at hd
    obtain ⟨⟨r, c⟩, hc, rfl⟩ := List.mem_map.1 hd
    obtain ⟨x, hx, hc⟩ := List.mem_flatMap.1 hc
    unfold spkA at hc
    split at hc
    · simp at hc
    · rename_i h1
      simp only [Bool.or_eq_true, Bool.not_eq_true', not_or, Bool.not_eq_false, decide_eq_true_eq] at h1
      obtain ⟨y, hy, hc⟩ := List.mem_flatMap.1 hc
      unfold spkB at hc
      split at hc
      · rename_i h2
        rw [Bool.and_eq_true] at h2
        obtain ⟨k, e, hk⟩ := eat_in h1.1 hi
        obtain ⟨k', e2, hk'⟩ := eat_in h2.1 hj
        obtain ⟨d', e', hd'⟩ := hA x hx
        obtain ⟨d2, e2', hd2⟩ := hB y hy
        have := List.mem_singleton.1 hc
        cases this
        exact mem_rect4.2 ⟨d', k, d2, k', by rw [e, e', e2, e2'], hd', hk, hd2, hk'⟩
      · simp at hc
theorem cfg_rect {a b : Tra} {m n : Nat} (ha : a.Ok m) (hb : b.Ok n) {xs zs : List Int} (x : Config) (h : Reach (cfgN a b xs zs) (· = ⟨a.start, 0, b.start, 0⟩) x) : x ∈ rect4 m xs.length n zs.length := by
  induction h with
  | base h =>
    subst h
    have h1 := ha.start
    have h2 := hb.start
    exact mem_rect4.2 ⟨a.start.toNat, 0, b.start.toNat, 0, by
      have e1 : ((a.start.toNat : Nat) : Int) = a.start := by omega
      have e2 : ((b.start.toNat : Nat) : Int) = b.start := by omega
      rw [e1, e2]; rfl, by omega, by omega, by omega, by omega⟩
  | tail _ hy ih => exact cfgN_in ha hb ih hy
def doneB (a b : Tra) (xs zs : List Int) (c : Config) : Bool := ((decide (c.i = (xs.length : Int)) && decide (c.j = (zs.length : Int))) && decide (c.p ∈ a.finals)) && decide (c.q ∈ b.finals)
end Go.Proofs.YtmjieefhjmiagaaGreatDoor.G

set_option linter.all false
namespace Go.Proofs.YtmjieefhjmiagaaGreatDoor.G
open Go Go.RowKit
/-- The tables of unicode/utf8 lie in the part of memory that nobody writes. -/
def Tabs (I : Heap) : Prop := (∃ o, I 0 = some o) ∧ ∀ w, hle I (hp w) → Lib.Utf8Tabs (Tryz.laysValid_ren.g 3) (Tryz.laysValid_ren.g 4) w
theorem Tabs.mono {I I' : Heap} (h : Tabs I) (k : hle I I') : Tabs I' := ⟨let ⟨o, e⟩ := h.1; ⟨o, k _ _ e⟩, fun w hw => h.2 w (k.trans hw)⟩
theorem grow_of {w w' : World} {I : Heap} (hI : hle I (hp w)) (hb : Below w.heap.size w w') (hd : I 0 = none → w.drawn ≤ w'.drawn) : Grow w I w' I :=
  ⟨hb, fun b o e => by
    have h := hI b o e
    show w'.heap[b]? = _
    rw [hb.block b (hp_lt h)]; exact h, fun _ _ => rfl, fun h _ => hd h⟩
theorem validS_c (s : ByteArray) (hs : s.size ≤ 70368744177664) {I : Heap} {w : World} (hI : hle I (hp w)) (hT : Tabs I) : Calls A 101 #[.string s] w (Ret w I fun r _ => r = .bool (Lib.validD s.data.toList)) :=
  (Any.utf8_ValidString Tryz.laysValid s w (by omega) (hT.2 w hI)).mono fun e w' h => ⟨_, I, h.1, grow_of hI h.2 (fun h0 => by obtain ⟨o, ho⟩ := hT.1; rw [ho] at h0; cases h0), rfl⟩
theorem runeCount_c (s : ByteArray) (hs : s.size ≤ 70368744177664) {I : Heap} {w : World} (hI : hle I (hp w)) : Calls A 81 #[.string s] w (Ret w I fun r _ => r = .int .i64 ((runesL s).length : Int)) :=
  (Any.utf8_RuneCountInString Tryz.laysCount s w (by omega)).mono fun e w' h => by
    obtain ⟨h1, q, rfl⟩ := h
    exact ⟨_, I, h1, grow_of hI ((Below.refl _ _).alloc (Nat.le_refl _) _) (fun _ => Nat.le_refl _), by rw [runesL_len]⟩
/-- A string that can be read. -/
def okS (s : ByteArray) : Bool := Lib.validD s.data.toList && !decide ((0 : Int) ∈ bytesL s)
def longS (s : ByteArray) : Bool := decide (40 < ((runesL s).length : Int))
/-- The error of strings that are read or written. -/
def chkS (ss : List ByteArray) : Int := if ss.all okS = true then (if ss.all (fun s => !longS s) = true then 0 else 2) else 1
end Go.Proofs.YtmjieefhjmiagaaGreatDoor.G

set_option linter.all false
namespace Go.Proofs.YtmjieefhjmiagaaGreatDoor.G
open Go Go.RowKit
theorem spk_keys (a b : Tra) (xs zs : List Int) (c : Config) : (gk (grp (fun e : Int × Config => e.1) (fun e : Int × Config => e.2) (spkL a b xs zs c))).length ≤ a.arcs.length := by
  have h1 := (grp_nodup (fun e : Int × Config => e.1) (fun e : Int × Config => e.2) (spkL a b xs zs c)).length_le_of_subset (l₂ := (a.outs c.p).map (·.out)) (fun k hk => by
    obtain ⟨e, he, rfl⟩ := (mem_gk_grp _ _ _ _).1 hk
    obtain ⟨x, hx, he⟩ := List.mem_flatMap.1 he
    refine List.mem_map.2 ⟨x, hx, ?_⟩
    unfold spkA at he
    split at he
    · simp at he
    · obtain ⟨y, hy, he⟩ := List.mem_flatMap.1 he
      unfold spkB at he
      split at he
      · rw [List.mem_singleton.1 he]
      · simp at he)
  rw [List.length_map] at h1
  exact Nat.le_trans h1 (a.outs_len _)
def BtwAt (I : Heap) (sb m n : Nat) (a b : Tra) (xs zs : List Int) : Prop := ∃ fu1 au1 fu2 au2 ux uz uf ut : SV,
  I sb = some (.cells ([.int .i64 a.states, .int .i64 a.start, sv fu1, sv au1, .int .i64 b.states, .int .i64 b.start, sv fu2, sv au2, sv ux, sv uz, sv uf, sv ut] : List Value).toArray 131 (0, 0)) ∧ rdSl EInt I (sv fu1) a.finals ∧ rdSl EInt I (sv fu2) b.finals ∧ rdSl ERune I (sv ux) xs ∧ rdSl ERune I (sv uz) zs ∧ rdMat EArc VArc I (sv uf) (lv m a.arcs) ∧ rdMat EArc VArc I (sv ut) (lv n b.arcs)
/-- The error of a search's arguments. -/
def btwE (a b : Tra) (x z : ByteArray) : Int := if (!(validT a) || !(validT b)) = true then 1 else chkS [x, z]
def NewB (a b : Tra) (x z : ByteArray) (r : Value) (I : Heap) : Prop := ∃ pv, r = .tuple #[pv, .int .i64 (btwE a b x z)] ∧ (btwE a b x z = 0 → ∃ m n sb : Nat, a.Ok m ∧ b.Ok n ∧ pv = .pointer (some ⟨sb, 0, none⟩) ∧ BtwAt I sb m n a b (runesL x) (runesL z))
theorem chk_short {x z : ByteArray} (h : chkS [x, z] = 0) : (runesL x).length ≤ 40 ∧ (runesL z).length ≤ 40 := by
  unfold chkS at h
  split at h
  · split at h
    · rename_i h2
      simp [longS] at h2
      omega
    · cases h
  · cases h
theorem btw_ok {a b : Tra} {x z : ByteArray} (h : btwE a b x z = 0) : (validT a = true ∧ validT b = true) ∧ chkS [x, z] = 0 := by
  unfold btwE at h
  split at h
  · cases h
  · rename_i h1; exact ⟨by simpa using h1, h⟩
open Classical in
noncomputable def thrS (a b : Tra) (x z : ByteArray) : Bool × Int := if btwE a b x z = 0 then (decide (∃ c, Reach (cfgN a b (runesL x) (runesL z)) (· = ⟨a.start, 0, b.start, 0⟩) c ∧ doneB a b (runesL x) (runesL z) c = true), 0) else (false, btwE a b x z)
theorem thr_yes {a b : Tra} {x z : ByteArray} (h : btwE a b x z = 0) {c : Config} (hr : Reach (cfgN a b (runesL x) (runesL z)) (· = ⟨a.start, 0, b.start, 0⟩) c) (hd : doneB a b (runesL x) (runesL z) c = true) : thrS a b x z = (true, 0) := by
  unfold thrS
  rw [if_pos h]
  rw [@decide_eq_true _ (Classical.propDecidable _) ⟨c, hr, hd⟩]
theorem thr_no {a b : Tra} {x z : ByteArray} (h : btwE a b x z = 0) {vs : List Config} (hc : Closure (cfgN a b (runesL x) (runesL z)) (· = ⟨a.start, 0, b.start, 0⟩) vs) (hd : ∀ c ∈ vs, doneB a b (runesL x) (runesL z) c = false) : thrS a b x z = (false, 0) := by
  unfold thrS
  rw [if_pos h]
  rw [@decide_eq_false _ (Classical.propDecidable _) ?_]
  rintro ⟨c, hr, hd'⟩
  rw [hd c ((hc.mem c).2 hr)] at hd'
  cases hd'
theorem thr_err {a b : Tra} {x z : ByteArray} (h : ¬ btwE a b x z = 0) : thrS a b x z = (false, btwE a b x z) := by unfold thrS; rw [if_neg h]
end Go.Proofs.YtmjieefhjmiagaaGreatDoor.G
