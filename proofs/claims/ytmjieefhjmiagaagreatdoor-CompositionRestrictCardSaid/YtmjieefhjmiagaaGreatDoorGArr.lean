/- Arrays of two strings, make([]T, 0, n), max; strings.Contains at the byte 0. -/
/- Rounds over the runes of a string. -/
/- What a trie of pairs relates. Plain Lean. -/
/- The reference's Pairs: the same trie by a linear search; flags of the final states. Plain Lean. -/
/- Restrict: what it answers. Plain Lean. -/
/- Restrict relates the words alone. Plain Lean. -/
import Derived.Test.YtmjieefhjmiagaaGreatDoorGFin
import Derived.Test.YtmjieefhjmiagaaGreatDoorGLayC
import Derived.Shelf.Strings.Search3
import Derived.Lib.MinMax
import Derived.Lib.IndexLaws
import Derived.Laws.RangeString
import Derived.Test.YtmjieefhjmiagaaGreatDoorGChn
set_option linter.all false
namespace Go.Proofs.YtmjieefhjmiagaaGreatDoor.G
open Go Go.RowKit Go.Shelf
section
variable {P : Program} {n : Nat} {ops : Array Oper} {e : Env} {dst : Option Tmp} {ty : TypeId} {pos : String} {af : Array Go.Edge} {S : World → Prop}
theorem q_ia {t el len sz : Nat} {x ix : Operand} {b o : Nat} {k : IntKind} {i : Nat} (ht : P.underlying t = some (.array len el)) (hs : (P.info? el).map (·.size) = some sz) (hx : evo e x = some (.pointer (some ⟨b, o, none⟩))) (hi : evo e ix = some (.int k (i : Int))) (hl : i < len) : Quiet P n ops S ⟨dst, .indexAddr t x ix, ty, pos, af, none⟩ e (.pointer (some ⟨b, o + i * sz, none⟩)) := by
  replace hx := ev_of hx
  replace hi := ev_of hi
  refine q_of rfl fun w _ => ?_
  obtain ⟨d, hd, hsz⟩ := Option.map_eq_some_iff.1 hs
  have h2 : (i : Int) < (len : Int) := by omega
  simp [execOp, hx, hi, Instr.indexAt, asIntOf, run_underlying ht, Instr.sureAddr, sizeOf, typeInfo, hd, hsz, hl, add_off]
theorem q_max {x y : Operand} {a b : Int} {tys : Array TypeId} (hx : evo e x = some (.int .i64 a)) (hy : evo e y = some (.int .i64 b)) : Quiet P n ops S ⟨dst, .call { callee := .builtin .max, args := #[x, y], argTypes := tys }, ty, pos, af, none⟩ e (.int .i64 (max a b)) := by
  replace hx := ev_of hx
  replace hy := ev_of hy
  refine q_of rfl fun w _ => ?_
  simp [execOp, resolve, invoke, builtin, hx, hy, Lib.run_max_ints]
end
section
variable {P : Program} {n : Nat} {ops : Array Oper} {e : Env} {dst : Option Tmp} {ty : TypeId} {pos : String} {af : Array Go.Edge} {w0 w : World} {I0 I : Heap} {L : List Res} {α : Type} {E : ET P α}
/-- make([]T, 0, m). -/
theorem e_make0 {t : TypeId} {x y : Operand} {k k2 : IntKind} {m : Nat} (M : Mem w0 I0 I L w) (ht : P.underlying t = some (.slice E.T)) (hx : evo e x = some (.int k 0)) (hy : evo e y = some (.int k2 (m : Int))) (hb : m * E.by' ≤ 281474976710656) :
    Eff P n ops ⟨dst, .makeSlice t x y, ty, pos, af, none⟩ e w fun v w' => ∃ u : SV, v = sv u ∧ Mem w0 I0 I (row E (sv u) [] :: L) w' := by
  replace hx := ev_of hx
  replace hy := ev_of hy
  obtain ⟨i, z, hi, hsz, hby, hz1, hzs⟩ := E.info
  have hpos := E.pos
  have hby0 := E.byb
  have hm : m ≤ 281474976710656 := Nat.le_trans (Nat.le_mul_of_pos_right _ hby0) hb
  have hbz : (i.bytes : Int) * (m : Int) ≤ 281474976710656 := by
    have : ((i.bytes * m : Nat) : Int) ≤ 281474976710656 := by rw [hby, Nat.mul_comm]; omega
    rwa [Int.natCast_mul] at this
  have hrun := run_make (P := P) w t E.T i z ht hi hz1 k k2 0 m (by omega) (by omega) hbz (by omega)
  simp only [Int.toNat_natCast, Int.toNat_zero] at hrun
  refine Eff.run (v := .slice (some ⟨w.heap.size, 0, none⟩) 0 m) (w' := w.alloc (.cells (madeCells z.cells (m * i.size)) E.T)) ?_ rfl ⟨(some ⟨w.heap.size, 0, none⟩, 0, m), rfl, M.alloc _ _ (by simp [row, Value.ownBlock, sv]) fun h eh => .inr ⟨w.heap.size, 0, m, madeCells z.cells (m * i.size), by simp [sv], eh, by simp, by simp only [maxLen]; omega, ?_, ?_⟩⟩
  · simp only [execOp, hx, hy, hrun, Sem.run_bind, Result.andThen_ok, Sem.run_pure]
  · rw [size_madeCells, hsz]; omega
  · simp [ET.all]
end
theorem containsZ_c (s : ByteArray) {I : Heap} {w : World} (hI : hle I (hp w)) : Calls A 134 #[.string s, .string ⟨#[0]⟩] w (Ret w I fun r _ => r = .bool (decide ((0 : Int) ∈ bytesL s))) :=
  (Any.strings_Contains_one Tryz.laysCon s 0 w).mono fun e w' h => by
    obtain ⟨h1, rfl⟩ := h
    refine ⟨_, I, h1, grow_of hI (Below.refl _ _) (fun _ => Nat.le_refl _), ?_⟩
    congr 1
    rw [Bool.eq_iff_iff, decide_eq_true_eq, decide_eq_true_eq, ← zero_runes, zero_runes]
    have hz : (0 : Int) ∈ bytesL s ↔ (0 : UInt8) ∈ s.data.toList := by
      simp only [bytesL, List.mem_map]
      constructor
      · rintro ⟨b, hb, h0⟩
        have : b = 0 := UInt8.toNat_inj.1 (by simpa using h0)
        rw [← this]; exact hb
      · intro h0; exact ⟨0, h0, rfl⟩
    rw [hz]
    constructor
    · intro h0
      obtain ⟨k, hk⟩ : ∃ k : Nat, Lib.indexByte s.data.toList 0 = (k : Int) := ⟨(Lib.indexByte s.data.toList 0).toNat, by omega⟩
      exact List.mem_of_getElem? (Lib.indexByte_some hk).1
    · intro h0
      have hge := Lib.indexByte_ge s.data.toList 0
      by_cases h2 : Lib.indexByte s.data.toList 0 = -1
      · obtain ⟨k, hk⟩ := List.getElem?_of_mem h0
        exact absurd hk (Lib.indexByte_none h2 k)
      · omega
/-! tries -/
def tkey (x : Arc) : Arc × Int := (⟨x.src, 0, x.inp, x.out⟩, x.dst)
def tstep (s : List Arc × Int) (ab : Int × Int) : List Arc × Int := match aget (s.1.map tkey) (⟨s.2, 0, ab.1, ab.2⟩ : Arc) with
  | some d => (s.1, d)
  | none => (s.1 ++ [⟨s.2, (s.1.length : Int) + 1, ab.1, ab.2⟩], (s.1.length : Int) + 1)
def zipAt (x y : List Int) (i : Nat) : Int × Int := (x.getD i 0, y.getD i 0)
def zipL (x y : List Int) : List (Int × Int) := (List.range (max x.length y.length)).map (zipAt x y)
def tword (A : List Arc) (x y : List Int) : List Arc × Int := (zipL x y).foldl tstep (A, 0)
def tone (s : List Arc × List Int) (p : SPair) : List Arc × List Int := ((tword s.1 (runesL p.x) (runesL p.y)).1, s.2 ++ [(tword s.1 (runesL p.x) (runesL p.y)).2])
def tries (ps : List SPair) : List Arc × List Int := ps.foldl tone ([], [])
def trieT (ps : List SPair) : Tra := ⟨((tries ps).1.length : Int) + 1, 0, (tries ps).2, (tries ps).1⟩
def okP (p : SPair) : Bool := okS p.x && okS p.y
theorem okP_bad {p : SPair} (h : (!(okS p.x) || !(okS p.y)) = true) : okP p = false := by
  revert h
  unfold okP
  cases okS p.x <;> cases okS p.y <;> simp
noncomputable def PairsS (ps : List SPair) : Tra × Int := if ps.all okP = true then FinS (trieT ps) ((tries ps).1.length + 1) else (zeroTra, 1)
theorem pairs_bad {ps : List SPair} {k : Nat} {p : SPair} (hp : ps[k]? = some p) (h : okP p = false) : PairsS ps = (zeroTra, 1) := by
  have h1 := all_false_at (f := okP) hp h
  unfold PairsS
  rw [if_neg (by rw [h1]; decide)]
theorem pairs_ok {ps : List SPair} (h : ps.all okP = true) : PairsS ps = FinS (trieT ps) ((tries ps).1.length + 1) := by unfold PairsS; rw [if_pos h]
theorem zipL_len (x y : List Int) : (zipL x y).length = max x.length y.length := by simp [zipL]
theorem zip_take {x y : List Int} {k : Nat} (h : k < max x.length y.length) : (zipL x y).take (k + 1) = (zipL x y).take k ++ [zipAt x y k] :=
  take_snoc (by rw [zipL, List.getElem?_map, List.getElem?_range h]; rfl)
theorem getD_none {l : List Int} {k : Nat} (h : l.length ≤ k) : l.getD k 0 = 0 := by rw [List.getD_eq_getElem?_getD, List.getElem?_eq_none h]; rfl
section
variable {x y : List Int} {k : Nat} {A : List Arc} {p a b : Int} {s0 : List Arc × Int}
theorem trie_new (hk : k < max x.length y.length) (h : (A, p) = ((zipL x y).take k).foldl tstep s0) (ha : x.getD k 0 = a) (hb : y.getD k 0 = b) (hn : aget (A.map tkey) (⟨p, 0, a, b⟩ : Arc) = none) :
    (A ++ [⟨p, (A.length : Int) + 1, a, b⟩], (A.length : Int) + 1) = ((zipL x y).take (k + 1)).foldl tstep s0 := by
  rw [zip_take hk, List.foldl_append, ← h, List.foldl_cons, List.foldl_nil, zipAt, ha, hb]
  simp only [tstep, hn]
theorem trie_old (hk : k < max x.length y.length) (h : (A, p) = ((zipL x y).take k).foldl tstep s0) (ha : x.getD k 0 = a) (hb : y.getD k 0 = b) (hn : (aget (A.map tkey) (⟨p, 0, a, b⟩ : Arc)).isSome = true) :
    (A, (aget (A.map tkey) (⟨p, 0, a, b⟩ : Arc)).getD 0) = ((zipL x y).take (k + 1)).foldl tstep s0 := by
  rw [zip_take hk, List.foldl_append, ← h, List.foldl_cons, List.foldl_nil, zipAt, ha, hb]
  obtain ⟨d, hd⟩ := Option.isSome_iff_exists.1 hn
  simp only [tstep, hd, Option.getD_some]
theorem trie_put {v : Int} (hn : aget (A.map tkey) (⟨p, 0, a, b⟩ : Arc) = none) : aput (A.map tkey) (⟨p, 0, a, b⟩ : Arc) v = (A ++ [(⟨p, v, a, b⟩ : Arc)]).map tkey := by
  rw [aput_new hn, List.map_append]; rfl
theorem trie_all {q : Int} (h : (A, q) = ((zipL x y).take (max x.length y.length)).foldl tstep s0) : (A, q) = (zipL x y).foldl tstep s0 := by
  rwa [← zipL_len, List.take_length] at h
end
theorem trie_word {ps : List SPair} {k : Nat} {x : SPair} {A A' : List Arc} {F : List Int} {q : Int} (hx : ps[k]? = some x) (hA : (A, F) = (ps.take k).foldl tone (([] : List Arc), ([] : List Int))) (hW : (A', q) = (zipL (runesL x.x) (runesL x.y)).foldl tstep (A, 0)) : (A', F ++ [q]) = (ps.take (k + 1)).foldl tone (([] : List Arc), ([] : List Int)) := by
  rw [take_snoc hx, List.foldl_append, ← hA, List.foldl_cons, List.foldl_nil]
  simp only [tone, tword, ← hW]
def TrieOk (A : List Arc) : Prop := ∀ x ∈ A, (0 ≤ x.src ∧ x.src ≤ (A.length : Int)) ∧ 0 ≤ x.dst ∧ x.dst ≤ (A.length : Int)
theorem trie_mem : ∀ {A : List Arc} {key : Arc} {d : Int}, aget (A.map tkey) key = some d → ∃ x ∈ A, x.dst = d ∧ (⟨x.src, 0, x.inp, x.out⟩ : Arc) = key
  | [], _, _, h => by simp [aget] at h
  | x :: A, key, d, h => by
    simp only [List.map_cons, tkey, aget] at h
    split at h
    · rename_i e; exact ⟨x, by simp, Option.some.inj h, e⟩
    · obtain ⟨y, hy, h1⟩ := trie_mem h
      exact ⟨y, List.mem_cons_of_mem _ hy, h1⟩
theorem tstep_ok {s : List Arc × Int} {ab : Int × Int} (h : TrieOk s.1 ∧ 0 ≤ s.2 ∧ s.2 ≤ (s.1.length : Int)) : (TrieOk (tstep s ab).1 ∧ 0 ≤ (tstep s ab).2 ∧ (tstep s ab).2 ≤ ((tstep s ab).1.length : Int)) ∧ s.1.length ≤ (tstep s ab).1.length ∧ (tstep s ab).1.length ≤ s.1.length + 1 := by
  unfold tstep
  split
  · rename_i d hd
    obtain ⟨x, hx, rfl, _⟩ := trie_mem hd
    exact ⟨⟨h.1, (h.1 x hx).2⟩, Nat.le_refl _, Nat.le_succ _⟩
  · refine ⟨⟨fun x hx => ?_, by simp only []; omega, by simp⟩, by simp, by simp⟩
    simp only [List.length_append, List.length_singleton] at hx ⊢
    rcases List.mem_append.1 hx with h1 | h1
    · have := h.1 x h1; omega
    · rw [List.mem_singleton.1 h1]; simp only []; omega
theorem tfold_ok : ∀ (l : List (Int × Int)) {s : List Arc × Int}, (TrieOk s.1 ∧ 0 ≤ s.2 ∧ s.2 ≤ (s.1.length : Int)) → (TrieOk (l.foldl tstep s).1 ∧ 0 ≤ (l.foldl tstep s).2 ∧ (l.foldl tstep s).2 ≤ ((l.foldl tstep s).1.length : Int)) ∧ s.1.length ≤ (l.foldl tstep s).1.length
  | [], _, h => ⟨h, Nat.le_refl _⟩
  | ab :: l, s, h => by
    obtain ⟨h1, h2, _⟩ := tstep_ok (ab := ab) h
    obtain ⟨h3, h4⟩ := tfold_ok l h1
    exact ⟨h3, Nat.le_trans h2 h4⟩
theorem tries_ok : ∀ (ps : List SPair) {s : List Arc × List Int}, (TrieOk s.1 ∧ ∀ f ∈ s.2, 0 ≤ f ∧ f ≤ (s.1.length : Int)) → TrieOk (ps.foldl tone s).1 ∧ ∀ f ∈ (ps.foldl tone s).2, 0 ≤ f ∧ f ≤ ((ps.foldl tone s).1.length : Int)
  | [], _, h => h
  | p :: ps, s, h => by
    refine tries_ok ps ?_
    obtain ⟨⟨h1, h2⟩, h3⟩ := tfold_ok (zipL (runesL p.x) (runesL p.y)) (s := (s.1, 0)) ⟨h.1, by simp only []; omega, by simp only []; omega⟩
    refine ⟨h1, fun f hf => ?_⟩
    simp only [tone] at hf ⊢
    rcases List.mem_append.1 hf with h4 | h4
    · have := h.2 f h4
      have h5 : s.1.length ≤ (tword s.1 (runesL p.x) (runesL p.y)).1.length := h3
      omega
    · rw [List.mem_singleton.1 h4]; exact h2
theorem trie_rng (ps : List SPair) : (trieT ps).Rng ((tries ps).1.length + 1) := by
  obtain ⟨h1, h2⟩ := tries_ok ps (s := ([], [])) ⟨fun x hx => (by simp at hx), by simp⟩
  refine ⟨by simp only [trieT]; omega, fun f hf => ?_, fun x hx => ?_⟩
  · have : 0 ≤ f ∧ f ≤ ((tries ps).1.length : Int) := h2 f hf
    omega
  · have : (0 ≤ x.src ∧ x.src ≤ ((tries ps).1.length : Int)) ∧ 0 ≤ x.dst ∧ x.dst ≤ ((tries ps).1.length : Int) := h1 x hx
    omega
end Go.Proofs.YtmjieefhjmiagaaGreatDoor.G

set_option linter.all false
namespace Go.Proofs.YtmjieefhjmiagaaGreatDoor.G
open Go Go.RowKit
open Go.ChangeMaps (setBlock)
def sitr (r : Nat) (s : ByteArray) (pos : Nat) : Res where
  blks := [r]
  holds h := h r = some (.stringIter s pos)
  loc h h' e k := by rw [← e r (by simp)]; exact k
section
variable {P : Program} {n : Nat} {ops : Array Oper} {e : Env} {dst : Option Tmp} {ty : TypeId} {ps : String} {af : Array Go.Edge} {w0 w : World} {I0 I : Heap} {L : List Res}
theorem e_rngS {t : TypeId} {x : Operand} {s : ByteArray} (M : Mem w0 I0 I L w) (ht : P.underlying t = some .string) (hx : evo e x = some (.string s)) :
    Eff P n ops ⟨dst, .range t x, ty, ps, af, none⟩ e w fun v w' => ∃ r, v = .pointer (some ⟨r, 0, none⟩) ∧ Mem w0 I0 I (sitr r s 0 :: L) w' := by
  replace hx := ev_of hx
  refine Eff.run (v := .pointer (some ⟨w.heap.size, 0, none⟩)) (w' := w.alloc (.stringIter s 0)) ?_ rfl ⟨_, rfl, M.alloc _ _ rfl (fun h eh => eh)⟩
  simp only [execOp, hx, Sem.run_bind, run_range_string w t s ht, Result.andThen_ok, Sem.run_pure, World.iter]
theorem run_next_rune {w : World} {s : ByteArray} {r pos : Nat} (hr : hp w r = some (.stringIter s pos)) (h : pos < s.size) :
    (Instr.next (.pointer (some ⟨r, 0, none⟩)) true ty).run P w = .ok (.tuple #[.bool true, .int .i64 pos, .int .i32 (Utf8.decode s pos).1]) (setBlock w r (.stringIter s (pos + (Utf8.decode s pos).2))) := by
  have hr' : w.heap[r]? = some (.stringIter s pos) := hr
  have hl : r < w.heap.size := hp_lt hr
  simp only [Instr.next, getObj, setObj, Sem.run_bind, Sem.run, hr', Result.andThen, h, if_true]
  simp [goInt, Sem.run, setBlock, hr']
theorem run_next_over {w : World} {s : ByteArray} {r pos : Nat} (hr : hp w r = some (.stringIter s pos)) (h : ¬ pos < s.size) :
    (Instr.next (.pointer (some ⟨r, 0, none⟩)) true ty).run P w = .ok (.tuple #[.bool false]) w := by
  have hr' : w.heap[r]? = some (.stringIter s pos) := hr
  simp [Instr.next, getObj, Sem.run, hr', h]
theorem e_nxS (i : Nat) {it : Operand} {r pos : Nat} {s : ByteArray} (M : Mem w0 I0 I L w) (hi : L[i]? = some (sitr r s pos)) (hit : evo e it = some (.pointer (some ⟨r, 0, none⟩))) :
    Eff P n ops ⟨dst, .next it true, ty, ps, af, none⟩ e w fun v w' => (v = .tuple #[.bool false] ∧ ¬ pos < s.size ∧ Mem w0 I0 I L w') ∨ (v = .tuple #[.bool true, .int .i64 pos, .int .i32 (Utf8.decode s pos).1] ∧ pos < s.size ∧ Mem w0 I0 I (L.set i (sitr r s (pos + (Utf8.decode s pos).2))) w') := by
  replace hit := ev_of hit
  have hr : hp w r = some (.stringIter s pos) := M.holds _ (getElem?_mem' hi)
  by_cases h : pos < s.size
  · refine Eff.run (v := .tuple #[.bool true, .int .i64 pos, .int .i32 (Utf8.decode s pos).1]) (w' := setBlock w r (.stringIter s (pos + (Utf8.decode s pos).2))) ?_ rfl (.inr ⟨rfl, h, M.upd i hi _ (chg_setBlock w r _) (by simp [sitr]) (fun c hc => .inl hc) (fun c hc => ?_) (setBlock_heap hr)⟩)
    · simp only [execOp, hit, Sem.run_bind, run_next_rune (P := P) (ty := ty) hr h, Result.andThen_ok, Sem.run_pure]
    · exact Nat.lt_of_lt_of_le (M.own (getElem?_mem' hi) hc).2.1 (chg_setBlock w r _).size
  · refine Eff.run (v := .tuple #[.bool false]) (w' := w) ?_ rfl (.inl ⟨rfl, h, M⟩)
    simp only [execOp, hit, Sem.run_bind, run_next_over (P := P) (ty := ty) hr h, Result.andThen_ok, Sem.run_pure]
end
theorem text_step {s : ByteArray} {b pos : Nat} (h : pos < s.size) (hb : s.size ≤ pos + b) (hc : ¬ ((Utf8.decode s pos).1 : Int) = 0) : ((0 : Int) ∈ rnF s b pos ↔ (0 : Int) ∈ rnF s (b - 1) (pos + (Utf8.decode s pos).2)) ∧ s.size ≤ pos + (Utf8.decode s pos).2 + (b - 1) := by
  have hw := Lib.width_pos s pos
  obtain ⟨q, rfl⟩ : ∃ q, b = q + 1 := ⟨b - 1, by omega⟩
  refine ⟨?_, by omega⟩
  rw [rnF, if_pos h, List.mem_cons, Nat.add_sub_cancel]
  exact ⟨fun e => e.resolve_left fun e => hc e.symm, .inr⟩
theorem text_zero {s : ByteArray} {b pos : Nat} (h : pos < s.size) (hb : s.size ≤ pos + b) (hc : ((Utf8.decode s pos).1 : Int) = 0) : (0 : Int) ∈ rnF s b pos := by
  obtain ⟨q, rfl⟩ : ∃ q, b = q + 1 := ⟨b - 1, by omega⟩
  rw [rnF, if_pos h, hc]; simp
theorem text_end {s : ByteArray} {b pos : Nat} (h : ¬ pos < s.size) : ¬ (0 : Int) ∈ rnF s b pos := by
  cases b with
  | zero => simp [rnF]
  | succ b => rw [rnF, if_neg h]; simp
theorem okT_bad {s : ByteArray} (h : (0 : Int) ∈ runesL s) : okT s = false := by rw [okT, decide_eq_true h]; simp
theorem okT_good {s : ByteArray} (h : ¬ (0 : Int) ∈ runesL s) : okT s = decide (strL (runesL s) = s) := by rw [okT, decide_eq_false h]; simp
end Go.Proofs.YtmjieefhjmiagaaGreatDoor.G

set_option linter.all false
namespace Go.Proofs.YtmjieefhjmiagaaGreatDoor.G
open Go Go.RowKit
inductive Path (A : List Arc) : List (Int × Int) → Int → Prop
  | nil : Path A [] 0
  | snoc {l : List (Int × Int)} {x : Arc} : Path A l x.src → x ∈ A → Path A (l ++ [(x.inp, x.out)]) x.dst
structure TOk (A : List Arc) : Prop where
  nd : (A.map (·.dst)).Nodup
  rng : ∀ x ∈ A, 1 ≤ x.dst ∧ x.dst ≤ (A.length : Int)
section
variable {A B : List Arc} {l l' : List (Int × Int)} {q : Int}
theorem Path.mono (h : ∀ x ∈ A, x ∈ B) (k : Path A l q) : Path B l q := by
  induction k with
  | nil => exact .nil
  | snoc _ hx ih => exact .snoc ih (h _ hx)
theorem Path.inv (k : Path A l q) : (l = [] ∧ q = 0) ∨ ∃ l0, ∃ x ∈ A, l = l0 ++ [(x.inp, x.out)] ∧ q = x.dst ∧ Path A l0 x.src := by
  cases k with
  | nil => exact .inl ⟨rfl, rfl⟩
  | snoc h hx => exact .inr ⟨_, _, hx, rfl, rfl, h⟩
theorem nodup_map_inj {α β : Type} {f : α → β} : ∀ {l : List α}, (l.map f).Nodup → ∀ x ∈ l, ∀ y ∈ l, f x = f y → x = y
  | [], _, x, hx, _, _, _ => by simp at hx
  | a :: l, h, x, hx, y, hy, e => by
    rw [List.map_cons, List.nodup_cons] at h
    rcases List.mem_cons.1 hx with rfl | hx' <;> rcases List.mem_cons.1 hy with rfl | hy'
    · rfl
    · exact absurd (List.mem_map.2 ⟨y, hy', e.symm⟩) h.1
    · exact absurd (List.mem_map.2 ⟨x, hx', e⟩) h.1
    · exact nodup_map_inj h.2 x hx' y hy' e
theorem Path.uniq (hA : TOk A) (k : Path A l q) : ∀ {l' : List (Int × Int)}, Path A l' q → l = l' := by
  induction k with
  | nil =>
    intro l' k'
    rcases k'.inv with ⟨rfl, _⟩ | ⟨l0, x, hx, _, h0, _⟩
    · rfl
    · have := (hA.rng x hx).1; omega
  | @snoc l x k hx ih =>
    intro l' k'
    rcases k'.inv with ⟨_, h0⟩ | ⟨l0, y, hy, rfl, h0, k0⟩
    · have := (hA.rng x hx).1; omega
    · obtain rfl := nodup_map_inj hA.nd x hx y hy h0
      rw [ih k0]
theorem tstep_path {p : Int} {ab : Int × Int} (hA : TOk A) (k : Path A l p) : TOk (tstep (A, p) ab).1 ∧ Path (tstep (A, p) ab).1 (l ++ [ab]) (tstep (A, p) ab).2 ∧ ∀ x ∈ A, x ∈ (tstep (A, p) ab).1 := by
  unfold tstep
  split
  · rename_i d hd
    obtain ⟨x, hx, rfl, e⟩ := trie_mem hd
    simp only [Arc.mk.injEq] at e
    obtain ⟨e1, _, e2, e3⟩ := e
    refine ⟨hA, ?_, fun y hy => hy⟩
    have : ab = (x.inp, x.out) := by rw [e2, e3]
    rw [this]
    exact .snoc (by rw [e1]; exact k) hx
  · refine ⟨⟨?_, fun x hx => ?_⟩, ?_, fun y hy => List.mem_append_left _ hy⟩
    · rw [List.map_append]
      refine List.nodup_append.2 ⟨hA.nd, by simp, fun a ha b hb e => ?_⟩
      obtain ⟨x, hx, rfl⟩ := List.mem_map.1 ha
      have h1 := (hA.rng x hx).2
      simp only [List.map_cons, List.map_nil, List.mem_singleton] at hb
      omega
    · simp only [List.length_append, List.length_singleton] at hx ⊢
      rcases List.mem_append.1 hx with h | h
      · have := hA.rng x h; omega
      · rw [List.mem_singleton.1 h]; simp only []; omega
    · exact Path.snoc (x := ⟨p, (A.length : Int) + 1, ab.1, ab.2⟩) (k.mono fun y hy => List.mem_append_left _ hy) (by simp)
theorem tfold_path : ∀ (abs : List (Int × Int)) {A : List Arc} {p : Int} {l : List (Int × Int)}, TOk A → Path A l p → TOk (abs.foldl tstep (A, p)).1 ∧ Path (abs.foldl tstep (A, p)).1 (l ++ abs) (abs.foldl tstep (A, p)).2 ∧ ∀ x ∈ A, x ∈ (abs.foldl tstep (A, p)).1
  | [], _, _, l, hA, k => ⟨hA, by rw [List.append_nil]; exact k, fun _ h => h⟩
  | ab :: abs, A, p, l, hA, k => by
    obtain ⟨h1, h2, h3⟩ := tstep_path (ab := ab) hA k
    obtain ⟨h4, h5, h6⟩ := tfold_path abs h1 h2
    rw [List.foldl_cons]
    refine ⟨h4, ?_, fun x hx => h6 x (h3 x hx)⟩
    rw [List.append_assoc] at h5
    exact h5
def zl (p : SPair) : List (Int × Int) := zipL (runesL p.x) (runesL p.y)
theorem tries_path : ∀ (ps : List SPair) {A : List Arc} {F : List Int} {done : List SPair}, TOk A → (∀ f ∈ F, ∃ p ∈ done, Path A (zl p) f) → (∀ p ∈ done, ∃ f ∈ F, Path A (zl p) f) →
    TOk (ps.foldl tone (A, F)).1 ∧ (∀ f ∈ (ps.foldl tone (A, F)).2, ∃ p ∈ done ++ ps, Path (ps.foldl tone (A, F)).1 (zl p) f) ∧ ∀ p ∈ done ++ ps, ∃ f ∈ (ps.foldl tone (A, F)).2, Path (ps.foldl tone (A, F)).1 (zl p) f
  | [], A, F, done, hA, h1, h2 => by rw [List.append_nil]; exact ⟨hA, h1, h2⟩
  | p :: ps, A, F, done, hA, h1, h2 => by
    obtain ⟨h3, h4, h5⟩ := tfold_path (zl p) hA (Path.nil (A := A))
    rw [List.nil_append] at h4
    have h6 := tries_path ps (A := (tone (A, F) p).1) (F := (tone (A, F) p).2) (done := done ++ [p]) h3 (fun f hf => by
      rcases List.mem_append.1 hf with h | h
      · obtain ⟨q, hq, k⟩ := h1 f h
        exact ⟨q, List.mem_append_left _ hq, k.mono h5⟩
      · rw [List.mem_singleton.1 h]; exact ⟨p, by simp, h4⟩) (fun q hq => by
      rcases List.mem_append.1 hq with h | h
      · obtain ⟨f, hf, k⟩ := h2 q h
        exact ⟨f, List.mem_append_left _ hf, k.mono h5⟩
      · rw [List.mem_singleton.1 h]; exact ⟨_, List.mem_append_right _ (by simp; rfl), h4⟩)
    rw [List.append_assoc, List.singleton_append] at h6
    rw [List.foldl_cons]
    exact h6
end
theorem tries_all (ps : List SPair) : TOk (tries ps).1 ∧ (∀ f ∈ (tries ps).2, ∃ p ∈ ps, Path (tries ps).1 (zl p) f) ∧ ∀ p ∈ ps, ∃ f ∈ (tries ps).2, Path (tries ps).1 (zl p) f := by
  have := tries_path ps (A := []) (F := []) (done := []) ⟨by simp, by simp⟩ (by simp) (by simp)
  rwa [List.nil_append] at this
def insL (l : List (Int × Int)) : List Int := l.flatMap fun e => lab e.1
def outL (l : List (Int × Int)) : List Int := l.flatMap fun e => lab e.2
theorem path_run {t : Tra} {l : List (Int × Int)} {q : Int} (k : Path t.arcs l q) : Run t 0 (insL l) (outL l) q := by
  induction k with
  | nil => exact .nil 0
  | @snoc l x k hx ih =>
    have := ih.snoc hx rfl
    simpa [insL, outL] using this
theorem run_path {t : Tra} {p q : Int} {us vs : List Int} (h : Run t p us vs q) : ∀ {l : List (Int × Int)}, Path t.arcs l p → ∃ l', Path t.arcs (l ++ l') q ∧ us = insL l' ∧ vs = outL l' := by
  induction h with
  | nil p => intro l k; exact ⟨[], by rw [List.append_nil]; exact k, rfl, rfl⟩
  | @cons x xs ys q hx _ ih =>
    intro l k
    obtain ⟨l', h1, h2, h3⟩ := ih (Path.snoc k hx)
    refine ⟨(x.inp, x.out) :: l', ?_, by rw [h2]; simp [insL], by rw [h3]; simp [outL]⟩
    rw [List.append_assoc] at h1
    exact h1
theorem lab_pad {x : List Int} (hx : (0 : Int) ∉ x) : ∀ n, (List.range n).flatMap (fun i => lab (x.getD i 0)) = x.take n
  | 0 => by simp
  | n + 1 => by
    rw [range_flat, lab_pad hx n]
    by_cases h : n < x.length
    · have h1 : x[n]? = some (x[n]'h) := List.getElem?_eq_getElem h
      have h2 : x.getD n 0 = x[n]'h := by rw [List.getD_eq_getElem?_getD, h1]; rfl
      have h3 : ¬ x[n]'h = 0 := fun e => hx (e ▸ List.getElem_mem h)
      rw [take_snoc h1, h2, lab_ne h3]
    · rw [getD_none (by omega), lab_zero, List.append_nil, List.take_of_length_le (by omega), List.take_of_length_le (by omega)]
theorem ins_zip {x y : List Int} (hx : (0 : Int) ∉ x) : insL (zipL x y) = x := by
  have := lab_pad hx (max x.length y.length)
  rw [List.take_of_length_le (by omega)] at this
  rw [insL, zipL, List.flatMap_map]
  exact this
theorem out_zip {x y : List Int} (hy : (0 : Int) ∉ y) : outL (zipL x y) = y := by
  have := lab_pad hy (max x.length y.length)
  rw [List.take_of_length_le (by omega)] at this
  rw [outL, zipL, List.flatMap_map]
  exact this
/-- A trie relates exactly the pairs. -/
theorem trie_rel {ps : List SPair} (hz : ∀ p ∈ ps, (0 : Int) ∉ runesL p.x ∧ (0 : Int) ∉ runesL p.y) {xs ys : List Int} : Rel (trieT ps) xs ys ↔ ∃ p ∈ ps, xs = runesL p.x ∧ ys = runesL p.y := by
  obtain ⟨hT, h1, h2⟩ := tries_all ps
  constructor
  · rintro ⟨f, hf, hr⟩
    obtain ⟨l, k, e1, e2⟩ := run_path (t := trieT ps) hr Path.nil
    rw [List.nil_append] at k
    obtain ⟨p, hp, k2⟩ := h1 f hf
    have hl : l = zl p := Path.uniq hT k k2
    exact ⟨p, hp, by rw [e1, hl, zl, ins_zip (hz p hp).1], by rw [e2, hl, zl, out_zip (hz p hp).2]⟩
  · rintro ⟨p, hp, rfl, rfl⟩
    obtain ⟨f, hf, k⟩ := h2 p hp
    have := path_run (t := trieT ps) k
    rw [zl, ins_zip (hz p hp).1, out_zip (hz p hp).2] at this
    exact ⟨f, hf, this⟩
end Go.Proofs.YtmjieefhjmiagaaGreatDoor.G

set_option linter.all false
namespace Go.Proofs.YtmjieefhjmiagaaGreatDoor.G
open Go Go.RowKit
def hitB (p a b : Int) (x : Arc) : Bool := (decide (x.src = p) && decide (x.inp = a)) && decide (x.out = b)
def lastD (A : List Arc) (p a b : Int) : Int := A.foldl (fun d x => if hitB p a b x = true then x.dst else d) (-1)
theorem lastD_snoc {A : List Arc} {p a b : Int} {k : Nat} {x : Arc} (hx : A[k]? = some x) : lastD (A.take (k + 1)) p a b = if hitB p a b x = true then x.dst else lastD (A.take k) p a b := by
  rw [take_snoc hx, lastD, List.foldl_append]; rfl
def KU (A : List Arc) : Prop := ((A.map tkey).map (·.1)).Nodup
theorem hit_key {p a b : Int} {x : Arc} : hitB p a b x = true ↔ (tkey x).1 = (⟨p, 0, a, b⟩ : Arc) := by
  simp only [hitB, tkey, Bool.and_eq_true, decide_eq_true_eq, Arc.mk.injEq, true_and]
  exact ⟨fun h => ⟨h.1.1, h.1.2, h.2⟩, fun h => ⟨⟨h.1, h.2.1⟩, h.2.2⟩⟩
theorem last_val {p a b : Int} : ∀ {A : List Arc} (d0 : Int), KU A → A.foldl (fun d x => if hitB p a b x = true then x.dst else d) d0 = (aget (A.map tkey) (⟨p, 0, a, b⟩ : Arc)).getD d0
  | [], d0, _ => rfl
  | x :: A, d0, h => by
    rw [KU, List.map_cons, List.map_cons, List.nodup_cons] at h
    have hc : aget ((x :: A).map tkey) (⟨p, 0, a, b⟩ : Arc) = if (tkey x).1 = (⟨p, 0, a, b⟩ : Arc) then some x.dst else aget (A.map tkey) (⟨p, 0, a, b⟩ : Arc) := rfl
    rw [List.foldl_cons, hc]
    by_cases hk : hitB p a b x = true
    · have e := hit_key.1 hk
      rw [if_pos hk, last_val _ h.2, if_pos e]
      have h1 : aget (A.map tkey) (⟨p, 0, a, b⟩ : Arc) = none := aget_none.2 (by rw [← e]; exact h.1)
      rw [h1]; rfl
    · rw [if_neg hk, last_val _ h.2, if_neg fun e => hk (hit_key.2 e)]
theorem lastD_val {A : List Arc} {p a b : Int} (h : KU A) : lastD A p a b = (aget (A.map tkey) (⟨p, 0, a, b⟩ : Arc)).getD (-1) := last_val (-1) h
theorem tstep_KU {s : List Arc × Int} {ab : Int × Int} (h : KU s.1) : KU (tstep s ab).1 := by
  unfold tstep
  split
  · exact h
  · rename_i hn
    unfold KU at h ⊢
    rw [List.map_append, List.map_append]
    refine List.nodup_append.2 ⟨h, by simp, fun a ha b hb e => ?_⟩
    simp only [tkey, List.map_cons, List.map_nil, List.mem_singleton] at hb
    rw [e, hb] at ha
    exact aget_none.1 hn ha
theorem tfold_KU : ∀ (l : List (Int × Int)) {s : List Arc × Int}, KU s.1 → KU (l.foldl tstep s).1
  | [], _, h => h
  | ab :: l, s, h => tfold_KU l (tstep_KU h)
theorem tries_KU : ∀ (ps : List SPair) {s : List Arc × List Int}, KU s.1 → KU (ps.foldl tone s).1
  | [], _, h => h
  | p :: ps, s, h => tries_KU ps (s := tone s p) (tfold_KU _ (s := (s.1, 0)) h)
/-- What is known of the arcs and the state amid a word. -/
theorem mid_ok {ps : List SPair} {k i : Nat} {abs : List (Int × Int)} {A0 A : List Arc} {F : List Int} {p : Int} (hA : (A0, F) = (ps.take k).foldl tone (([] : List Arc), ([] : List Int))) (hW : (A, p) = (abs.take i).foldl tstep (A0, 0)) : KU A ∧ TrieOk A ∧ (0 ≤ p ∧ p ≤ (A.length : Int)) ∧ (∀ x ∈ A, 1 ≤ x.dst) ∧ A0.length ≤ A.length := by
  have k1 : KU A0 := by
    have := tries_KU (ps.take k) (s := (([] : List Arc), ([] : List Int))) (by simp [KU])
    rw [← hA] at this; exact this
  have k2 := tfold_KU (abs.take i) (s := (A0, 0)) k1
  rw [← hW] at k2
  have k3 := tries_ok (ps.take k) (s := (([] : List Arc), ([] : List Int))) ⟨fun x hx => (by simp at hx), by simp⟩
  rw [← hA] at k3
  have k4 := tfold_ok (abs.take i) (s := (A0, 0)) ⟨k3.1, by simp only []; omega, by simp only []; omega⟩
  rw [← hW] at k4
  have k5 := tries_path (ps.take k) (A := []) (F := []) (done := []) ⟨by simp, by simp⟩ (by simp) (by simp)
  rw [← hA] at k5
  have k6 := tfold_path (abs.take i) k5.1 (Path.nil (A := A0))
  rw [← hW] at k6
  exact ⟨k2, k4.1.1, k4.1.2, fun x hx => (k6.1.rng x hx).1, k4.2⟩
theorem last_none {A : List Arc} {p a b : Int} (hk : KU A) (hd : ∀ x ∈ A, 1 ≤ x.dst) (h : lastD A p a b < 0) : aget (A.map tkey) (⟨p, 0, a, b⟩ : Arc) = none := by
  rw [lastD_val hk] at h
  cases hg : aget (A.map tkey) (⟨p, 0, a, b⟩ : Arc) with
  | none => rfl
  | some d =>
    obtain ⟨x, hx, rfl, _⟩ := trie_mem hg
    have := hd x hx
    rw [hg, Option.getD_some] at h; omega
theorem last_some {A : List Arc} {p a b : Int} (hk : KU A) (h : ¬ lastD A p a b < 0) : (aget (A.map tkey) (⟨p, 0, a, b⟩ : Arc)).isSome = true ∧ lastD A p a b = (aget (A.map tkey) (⟨p, 0, a, b⟩ : Arc)).getD 0 := by
  rw [lastD_val hk] at h ⊢
  cases hg : aget (A.map tkey) (⟨p, 0, a, b⟩ : Arc) with
  | none => rw [hg] at h; simp at h
  | some d => simp
/-- The flags of the final states. -/
def Flg (fl : List Bool) (n : Nat) (F : List Int) : Prop := fl.length = n + 1 ∧ ∀ i : Nat, fl[i]? = some true ↔ (i : Int) ∈ F
theorem Flg.grow {fl : List Bool} {n : Nat} {F : List Int} (h : Flg fl n F) (hF : ∀ f ∈ F, f ≤ (n : Int)) : Flg (fl ++ [false]) (n + 1) F := by
  refine ⟨by simp [h.1], fun i => ?_⟩
  rw [List.getElem?_append]
  split
  · exact h.2 i
  · rename_i hi
    constructor
    · intro h1
      have : i - fl.length = 0 ∨ 0 < i - fl.length := by omega
      rcases this with h2 | h2
      · rw [h2] at h1; simp at h1
      · rw [List.getElem?_eq_none (by simp; omega)] at h1; cases h1
    · intro h1
      have := hF _ h1
      have := h.1
      omega
theorem Flg.mark {fl : List Bool} {n : Nat} {F : List Int} {q : Int} (h : Flg fl n F) (hq : 0 ≤ q ∧ q ≤ (n : Int)) : Flg (fl.set q.toNat true) n (F ++ [q]) := by
  refine ⟨by simp [h.1], fun i => ?_⟩
  rw [List.getElem?_set, List.mem_append, List.mem_singleton, ← h.2]
  have hl := h.1
  by_cases e : q.toNat = i
  · rw [if_pos e, if_pos (by omega)]
    exact ⟨fun _ => .inr (by omega), fun _ => rfl⟩
  · rw [if_neg e]
    exact ⟨.inl, fun h1 => h1.elim id fun h1 => absurd (by omega) e⟩
def flgL (fl : List Bool) (k : Nat) : List Int := ((List.range k).filter fun i => fl.getD i false).map fun (i : Nat) => (i : Int)
theorem flgL_yes {fl : List Bool} {k : Nat} (h : fl[k]? = some true) : flgL fl (k + 1) = flgL fl k ++ [(k : Int)] := by
  simp [flgL, List.range_succ, List.filter_append, List.filter_cons, h]
theorem flgL_no {fl : List Bool} {k : Nat} (h : fl[k]? = some false) : flgL fl (k + 1) = flgL fl k := by
  simp [flgL, List.range_succ, List.filter_append, List.filter_cons, h]
theorem flgL_sorted (fl : List Bool) (k : Nat) : (flgL fl k).Pairwise (· < ·) := by
  rw [flgL, List.pairwise_map]
  exact (List.pairwise_lt_range (n := k)).filter _ |>.imp fun h => by omega
theorem flgL_len (fl : List Bool) (k : Nat) : (flgL fl k).length ≤ k := by
  rw [flgL, List.length_map]
  have := List.length_filter_le (fun i => fl.getD i false) (List.range k)
  simpa using this
theorem mem_flgL {fl : List Bool} {n : Nat} {F : List Int} (h : Flg fl n F) (hF : ∀ f ∈ F, 0 ≤ f ∧ f ≤ (n : Int)) (x : Int) : x ∈ flgL fl fl.length ↔ x ∈ F := by
  simp only [flgL, List.mem_map, List.mem_filter, List.mem_range]
  constructor
  · rintro ⟨i, ⟨hi, hb⟩, rfl⟩
    refine (h.2 i).1 ?_
    rw [List.getD_eq_getElem?_getD, List.getElem?_eq_getElem hi, Option.getD_some] at hb
    rw [List.getElem?_eq_getElem hi, hb]
  · intro hx
    have h1 := hF x hx
    have h2 := h.1
    refine ⟨x.toNat, ⟨by omega, ?_⟩, by omega⟩
    have := (h.2 x.toNat).2 (by rw [Int.toNat_of_nonneg h1.1]; exact hx)
    rw [List.getD_eq_getElem?_getD, this]; simp
/-- Trimming asks only which states are final. -/
theorem reach_congr {E : Int → List Int} {S S' : Int → Prop} (h : ∀ x, S x ↔ S' x) {s : Int} (k : Reach E S s) : Reach E S' s := by
  induction k with
  | base hb => exact .base ((h _).1 hb)
  | tail _ hy ih => exact .tail ih hy
theorem trim_fin {t : Tra} {F : List Int} {m : Nat} (h : ∀ x, x ∈ F ↔ x ∈ t.finals) : TrimS ⟨t.states, t.start, F, t.arcs⟩ m = TrimS t m := by
  have hk : kpS ⟨t.states, t.start, F, t.arcs⟩ = kpS t := funext fun i => by
    rw [Bool.eq_iff_iff, kpS_iff, kpS_iff]
    exact and_congr Iff.rfl ⟨reach_congr h, reach_congr fun x => (h x).symm⟩
  have hf : finS ⟨t.states, t.start, F, t.arcs⟩ m = finS t m := by
    unfold finS
    rw [hk]
    congr 1
    exact List.filter_congr fun i _ => by rw [decide_eq_decide.2 (h (i : Int))]
  have ha : arcS ⟨t.states, t.start, F, t.arcs⟩ = arcS t := funext fun x => by unfold arcS; rw [hk]
  unfold TrimS
  rw [hk, hf, ha]
theorem pairs_fin {ps : List SPair} {F : List Int} (h : ∀ x, x ∈ F ↔ x ∈ (tries ps).2) : FinS ⟨((tries ps).1.length : Int) + 1, 0, F, (tries ps).1⟩ ((tries ps).1.length + 1) = FinS (trieT ps) ((tries ps).1.length + 1) := by
  rw [FinS, FinS, ← trim_fin (t := trieT ps) h]; rfl
theorem okT_P (p : SPair) : (okT p.x && okT p.y) = okP p := by rw [okT_S, okT_S]; rfl
theorem okT_bad2 {p : SPair} (h : (!(okT p.x) || !(okT p.y)) = true) : okP p = false := by
  rw [okT_S, okT_S] at h; exact okP_bad h
theorem okT_good2 {p : SPair} (h : (!(okT p.x) || !(okT p.y)) = false) : okP p = true := by
  rw [okT_S, okT_S] at h
  revert h
  unfold okP
  cases okS p.x <;> cases okS p.y <;> simp
end Go.Proofs.YtmjieefhjmiagaaGreatDoor.G

set_option linter.all false
namespace Go.Proofs.YtmjieefhjmiagaaGreatDoor.G
open Go Go.RowKit
def wordP (ws : List ByteArray) : List SPair := ws.map fun s => ⟨s, s⟩
noncomputable def RestrS (a : Tra) (ws : List ByteArray) : Tra × Int := if validT a = true then (if (PairsS (wordP ws)).2 = 0 then CompS (PairsS (wordP ws)).1 a else (zeroTra, (PairsS (wordP ws)).2)) else (zeroTra, 1)
theorem restr_bad {a : Tra} {ws : List ByteArray} (h : (!(validT a)) = true) : RestrS a ws = (zeroTra, 1) := by rw [RestrS, if_neg (by simpa using h)]
theorem restr_err {a t : Tra} {ws : List ByteArray} {e : Int} (hv : validT a = true) (h : (t, e) = PairsS (wordP ws)) (he : ¬ e = 0) : RestrS a ws = (zeroTra, e) := by rw [RestrS, if_pos hv, ← h, if_neg he]
theorem restr_ok {a t : Tra} {ws : List ByteArray} {e : Int} (hv : validT a = true) (h : (t, e) = PairsS (wordP ws)) (he : e = 0) : RestrS a ws = CompS t a := by rw [RestrS, if_pos hv, ← h, if_pos he]
theorem pairs_lim {t : Tra} {ps : List SPair} {e : Int} (h : (t, e) = PairsS ps) (he : e = 0) : t.states ≤ 512 ∧ t.arcs.length ≤ 4096 := by
  subst he
  unfold PairsS at h
  split at h
  · rw [FinS, limS] at h
    split at h
    · cases h
    · rename_i hl
      simp only [Bool.or_eq_true, decide_eq_true_eq, not_or] at hl
      cases h
      omega
  · cases h
theorem restr_big {a t : Tra} {ps : List SPair} {e : Int} (h : (t, e) = PairsS ps) (he : e = 0) (hb : fewB a = true) : (t.states.toNat * a.states.toNat + 1) * (t.arcs.length * (a.arcs.length + 1) + a.arcs.length + 1) ≤ 1099511627776 := by
  obtain ⟨h4, h3⟩ := pairs_lim h he
  have h1 := few_lens hb
  have h5 := Nat.mul_le_mul (show t.states.toNat ≤ 512 by omega) (show a.states.toNat ≤ 5 by omega)
  have h6 := Nat.mul_le_mul h3 (show a.arcs.length + 1 ≤ 13 by omega)
  exact Nat.le_trans (Nat.mul_le_mul (show _ ≤ 2561 by omega) (show _ ≤ 53261 by omega)) (by decide)
end Go.Proofs.YtmjieefhjmiagaaGreatDoor.G

set_option linter.all false
namespace Go.Proofs.YtmjieefhjmiagaaGreatDoor.G
open Go Go.RowKit
theorem rdTras1 {I : Heap} {u : SV} {a : Tra} {fa aa : SV} (R : rdSl ETra I (sv u) [⟨a.states, a.start, fa, aa⟩]) (h1 : rdSl EInt I (sv fa) a.finals) (h2 : rdSl EArc I (sv aa) a.arcs) : rdTras I (sv u) [a] := by
  refine ⟨_, R, rfl, fun j r t hr ht => ?_⟩
  match j, hr, ht with
  | 0, hr, ht => simp at hr ht; subst hr ht; exact ⟨fa, aa, rfl, h1, h2⟩
theorem brief_sz {ws : List ByteArray} (h : (ws.all fun s => !decide (20 < (s.size : Int))) = true) : ∀ s ∈ ws, s.size ≤ 100000 := fun s hs => by
  have := List.all_eq_true.1 h s hs
  simp at this; omega
theorem okS_runes {s : ByteArray} (h : okS s = true) : strL (runesL s) = s ∧ (0 : Int) ∉ runesL s := by
  rw [okS, Bool.and_eq_true] at h
  refine ⟨(strL_valid s).2 h.1, fun h0 => ?_⟩
  rw [zero_runes] at h0
  simp [h0] at h
theorem pairs_rel {ps : List SPair} {t : Tra} {e : Int} (h : (t, e) = PairsS ps) (he : e = 0) : (∀ p ∈ ps, okP p = true) ∧ ∀ xs ys, Rel t xs ys ↔ ∃ p ∈ ps, xs = runesL p.x ∧ ys = runesL p.y := by
  subst he
  unfold PairsS at h
  split at h
  · rename_i hok
    have hok' : ∀ p ∈ ps, okP p = true := fun p hp => List.all_eq_true.1 hok p hp
    refine ⟨hok', fun xs ys => ?_⟩
    rw [FinS, limS] at h
    split at h
    · cases h
    · cases h
      rw [rel_trim (trie_rng ps)]
      refine trie_rel fun p hp => ?_
      have h1 := hok' p hp
      rw [okP, Bool.and_eq_true] at h1
      exact ⟨(okS_runes h1.1).2, (okS_runes h1.2).2⟩
  · cases h
theorem restr_law {a t : Tra} {ws : List ByteArray} {e : Int} {x y : ByteArray} (h : (t, e) = RestrS a ws) (he : e = 0) : relS t x y = ((ws.any fun s => decide (s = x)) && relS a x y) := by
  subst he
  unfold RestrS at h
  split at h
  · rename_i hva
    split at h
    · rename_i h0
      obtain ⟨⟨_, _⟩, hvt, hrel⟩ := comp_ok h
      obtain ⟨hok, hw⟩ := pairs_rel (ps := wordP ws) (t := (PairsS (wordP ws)).1) (e := (PairsS (wordP ws)).2) rfl h0
      unfold relS
      rw [hvt, hva]
      cases hx : okT x with
      | false => simp
      | true =>
        cases hy : okT y with
        | false => simp
        | true =>
          simp only [Bool.and_self, Bool.true_and]
          rw [Bool.eq_iff_iff, Bool.and_eq_true, relB_iff, relB_iff, hrel, List.any_eq_true]
          have hxs : strL (runesL x) = x := by
            rw [okT_S] at hx; exact (okS_runes hx).1
          constructor
          · rintro ⟨us, h1, h2⟩
            obtain ⟨p, hp, e1, e2⟩ := (hw _ _).1 h1
            have hpo := hok p hp
            obtain ⟨s, hs, rfl⟩ := List.mem_map.1 hp
            rw [okP, Bool.and_eq_true] at hpo
            have hsx : s = x := by rw [← hxs, e1]; exact (okS_runes hpo.1).1.symm
            refine ⟨⟨s, hs, by simp [hsx]⟩, ?_⟩
            rw [e2] at h2
            rw [e1]; exact h2
          · rintro ⟨⟨s, hs, h1⟩, h2⟩
            have hsx : s = x := by simpa using h1
            subst hsx
            exact ⟨runesL s, (hw _ _).2 ⟨⟨s, s⟩, List.mem_map.2 ⟨s, hs, rfl⟩, rfl, rfl⟩, h2⟩
    · rename_i h0; exact absurd (congrArg Prod.snd h).symm h0
  · cases h
end Go.Proofs.YtmjieefhjmiagaaGreatDoor.G
