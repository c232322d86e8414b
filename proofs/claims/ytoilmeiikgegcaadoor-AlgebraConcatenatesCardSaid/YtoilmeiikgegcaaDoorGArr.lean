/- Arrays of two strings, make([]T, 0, n), max; strings.Contains at the byte 0. -/
import Derived.Test.YtoilmeiikgegcaaDoorGFin
import Derived.Test.YtoilmeiikgegcaaDoorGLayC
import Derived.Shelf.Strings.Search3
import Derived.Lib.MinMax
import Derived.Lib.IndexLaws
set_option linter.all false
namespace Go.Proofs.YtoilmeiikgegcaaDoor.G
open Go Go.RowKit Go.Shelf
section
variable {P : Program} {n : Nat} {ops : Array Oper} {e : Env} {dst : Option Tmp} {ty : TypeId} {pos : String} {af : Array Go.Edge} {S : World → Prop}
theorem q_ia {t el len sz : Nat} {x ix : Operand} {b o : Nat} {k : IntKind} {i : Nat} (ht : P.underlying t = some (.array len el)) (hs : (P.info? el).map (·.size) = some sz) (hx : evo e x = some (.pointer (some ⟨b, o, none⟩))) (hi : evo e ix = some (.int k (i : Int))) (hl : i < len) : Quiet P n ops S ⟨dst, .indexAddr t x ix, ty, pos, af, none⟩ e (.pointer (some ⟨b, o + i * sz, none⟩)) := by
  replace hx := ev_of hx
  replace hi := ev_of hi
  refine q_of rfl fun w _ => ?_
  obtain ⟨d, hd, hsz⟩ := Option.map_eq_some_iff.1 hs
  have h2 : (i : Int) < (len : Int) := by omega
  simp [execOp, hx, hi, Instr.indexAt, asIntOf, run_underlying ht, Instr.sureAddr, sizeOf, typeInfo, hd, hsz, hl, add_off]
theorem q_max {x y : Operand} {a b : Int} {tys : Array TypeId} (hx : evo e x = some (.int .i64 a)) (hy : evo e y = some (.int .i64 b)) : Quiet P n ops S ⟨dst, .call { callee := .builtin .max, args := #[x, y], argTypes := tys }, ty, pos, af, none⟩ e (.int .i64 (max a b)) := by
  replace hx := ev_of hx
  replace hy := ev_of hy
  refine q_of rfl fun w _ => ?_
  simp [execOp, resolve, invoke, builtin, hx, hy, Lib.run_max_ints]
end
section
variable {P : Program} {n : Nat} {ops : Array Oper} {e : Env} {dst : Option Tmp} {ty : TypeId} {pos : String} {af : Array Go.Edge} {w0 w : World} {I0 I : Heap} {L : List Res} {α : Type} {E : ET P α}
/-- make([]T, 0, m). -/
theorem e_make0 {t : TypeId} {x y : Operand} {k k2 : IntKind} {m : Nat} (M : Mem w0 I0 I L w) (ht : P.underlying t = some (.slice E.T)) (hx : evo e x = some (.int k 0)) (hy : evo e y = some (.int k2 (m : Int))) (hb : m * E.by' ≤ 281474976710656) :
    Eff P n ops ⟨dst, .makeSlice t x y, ty, pos, af, none⟩ e w fun v w' => ∃ u : SV, v = sv u ∧ Mem w0 I0 I (row E (sv u) [] :: L) w' := by
  replace hx := ev_of hx
  replace hy := ev_of hy
  obtain ⟨i, z, hi, hsz, hby, hz1, hzs⟩ := E.info
  have hpos := E.pos
  have hby0 := E.byb
  have hm : m ≤ 281474976710656 := Nat.le_trans (Nat.le_mul_of_pos_right _ hby0) hb
  have hbz : (i.bytes : Int) * (m : Int) ≤ 281474976710656 := by
    have : ((i.bytes * m : Nat) : Int) ≤ 281474976710656 := by rw [hby, Nat.mul_comm]; omega
    rwa [Int.natCast_mul] at this
  have hrun := run_make (P := P) w t E.T i z ht hi hz1 k k2 0 m (by omega) (by omega) hbz (by omega)
  simp only [Int.toNat_natCast, Int.toNat_zero] at hrun
  refine Eff.run (v := .slice (some ⟨w.heap.size, 0, none⟩) 0 m) (w' := w.alloc (.cells (madeCells z.cells (m * i.size)) E.T)) ?_ rfl ⟨(some ⟨w.heap.size, 0, none⟩, 0, m), rfl, M.alloc _ _ (by simp [row, Value.ownBlock, sv]) fun h eh => .inr ⟨w.heap.size, 0, m, madeCells z.cells (m * i.size), by simp [sv], eh, by simp, by simp only [maxLen]; omega, ?_, ?_⟩⟩
  · simp only [execOp, hx, hy, hrun, Sem.run_bind, Result.andThen_ok, Sem.run_pure]
  · rw [size_madeCells, hsz]; omega
  · simp [ET.all]
end
theorem containsZ_c (s : ByteArray) {I : Heap} {w : World} (hI : hle I (hp w)) : Calls A 68 #[.string s, .string ⟨#[0]⟩] w (Ret w I fun r _ => r = .bool (decide ((0 : Int) ∈ bytesL s))) :=
  (Any.strings_Contains_one Tryd.laysCon s 0 w).mono fun e w' h => by
    obtain ⟨h1, rfl⟩ := h
    refine ⟨_, I, h1, grow_of hI (Below.refl _ _) (fun _ => Nat.le_refl _), ?_⟩
    congr 1
    rw [Bool.eq_iff_iff, decide_eq_true_eq, decide_eq_true_eq, ← zero_runes, zero_runes]
    have hz : (0 : Int) ∈ bytesL s ↔ (0 : UInt8) ∈ s.data.toList := by
      simp only [bytesL, List.mem_map]
      constructor
      · rintro ⟨b, hb, h0⟩
        have : b = 0 := UInt8.toNat_inj.1 (by simpa using h0)
        rw [← this]; exact hb
      · intro h0; exact ⟨0, h0, rfl⟩
    rw [hz]
    constructor
    · intro h0
      obtain ⟨k, hk⟩ : ∃ k : Nat, Lib.indexByte s.data.toList 0 = (k : Int) := ⟨(Lib.indexByte s.data.toList 0).toNat, by omega⟩
      exact List.mem_of_getElem? (Lib.indexByte_some hk).1
    · intro h0
      have hge := Lib.indexByte_ge s.data.toList 0
      by_cases h2 : Lib.indexByte s.data.toList 0 = -1
      · obtain ⟨k, hk⟩ := List.getElem?_of_mem h0
        exact absurd hk (Lib.indexByte_none h2 k)
      · omega
/-! tries -/
def tkey (x : Arc) : Arc × Int := (⟨x.src, 0, x.inp, x.out⟩, x.dst)
def tstep (s : List Arc × Int) (ab : Int × Int) : List Arc × Int := match aget (s.1.map tkey) (⟨s.2, 0, ab.1, ab.2⟩ : Arc) with
  | some d => (s.1, d)
  | none => (s.1 ++ [⟨s.2, (s.1.length : Int) + 1, ab.1, ab.2⟩], (s.1.length : Int) + 1)
def zipAt (x y : List Int) (i : Nat) : Int × Int := (x.getD i 0, y.getD i 0)
def zipL (x y : List Int) : List (Int × Int) := (List.range (max x.length y.length)).map (zipAt x y)
def tword (A : List Arc) (x y : List Int) : List Arc × Int := (zipL x y).foldl tstep (A, 0)
def tone (s : List Arc × List Int) (p : SPair) : List Arc × List Int := ((tword s.1 (runesL p.x) (runesL p.y)).1, s.2 ++ [(tword s.1 (runesL p.x) (runesL p.y)).2])
def tries (ps : List SPair) : List Arc × List Int := ps.foldl tone ([], [])
def trieT (ps : List SPair) : Tra := ⟨((tries ps).1.length : Int) + 1, 0, (tries ps).2, (tries ps).1⟩
def okP (p : SPair) : Bool := okS p.x && okS p.y
theorem okP_bad {p : SPair} (h : (!(okS p.x) || !(okS p.y)) = true) : okP p = false := by
  revert h
  unfold okP
  cases okS p.x <;> cases okS p.y <;> simp
noncomputable def PairsS (ps : List SPair) : Tra × Int := if ps.all okP = true then FinS (trieT ps) ((tries ps).1.length + 1) else (zeroTra, 1)
theorem pairs_bad {ps : List SPair} {k : Nat} {p : SPair} (hp : ps[k]? = some p) (h : okP p = false) : PairsS ps = (zeroTra, 1) := by
  have h1 := all_false_at (f := okP) hp h
  unfold PairsS
  rw [if_neg (by rw [h1]; decide)]
theorem pairs_ok {ps : List SPair} (h : ps.all okP = true) : PairsS ps = FinS (trieT ps) ((tries ps).1.length + 1) := by unfold PairsS; rw [if_pos h]
theorem zipL_len (x y : List Int) : (zipL x y).length = max x.length y.length := by simp [zipL]
theorem zip_take {x y : List Int} {k : Nat} (h : k < max x.length y.length) : (zipL x y).take (k + 1) = (zipL x y).take k ++ [zipAt x y k] :=
  take_snoc (by rw [zipL, List.getElem?_map, List.getElem?_range h]; rfl)
theorem getD_none {l : List Int} {k : Nat} (h : l.length ≤ k) : l.getD k 0 = 0 := by rw [List.getD_eq_getElem?_getD, List.getElem?_eq_none h]; rfl
section
variable {x y : List Int} {k : Nat} {A : List Arc} {p a b : Int} {s0 : List Arc × Int}
theorem trie_new (hk : k < max x.length y.length) (h : (A, p) = ((zipL x y).take k).foldl tstep s0) (ha : x.getD k 0 = a) (hb : y.getD k 0 = b) (hn : aget (A.map tkey) (⟨p, 0, a, b⟩ : Arc) = none) :
    (A ++ [⟨p, (A.length : Int) + 1, a, b⟩], (A.length : Int) + 1) = ((zipL x y).take (k + 1)).foldl tstep s0 := by
  rw [zip_take hk, List.foldl_append, ← h, List.foldl_cons, List.foldl_nil, zipAt, ha, hb]
  simp only [tstep, hn]
theorem trie_old (hk : k < max x.length y.length) (h : (A, p) = ((zipL x y).take k).foldl tstep s0) (ha : x.getD k 0 = a) (hb : y.getD k 0 = b) (hn : (aget (A.map tkey) (⟨p, 0, a, b⟩ : Arc)).isSome = true) :
    (A, (aget (A.map tkey) (⟨p, 0, a, b⟩ : Arc)).getD 0) = ((zipL x y).take (k + 1)).foldl tstep s0 := by
  rw [zip_take hk, List.foldl_append, ← h, List.foldl_cons, List.foldl_nil, zipAt, ha, hb]
  obtain ⟨d, hd⟩ := Option.isSome_iff_exists.1 hn
  simp only [tstep, hd, Option.getD_some]
theorem trie_put {v : Int} (hn : aget (A.map tkey) (⟨p, 0, a, b⟩ : Arc) = none) : aput (A.map tkey) (⟨p, 0, a, b⟩ : Arc) v = (A ++ [(⟨p, v, a, b⟩ : Arc)]).map tkey := by
  rw [aput_new hn, List.map_append]; rfl
theorem trie_all {q : Int} (h : (A, q) = ((zipL x y).take (max x.length y.length)).foldl tstep s0) : (A, q) = (zipL x y).foldl tstep s0 := by
  rwa [← zipL_len, List.take_length] at h
end
theorem trie_word {ps : List SPair} {k : Nat} {x : SPair} {A A' : List Arc} {F : List Int} {q : Int} (hx : ps[k]? = some x) (hA : (A, F) = (ps.take k).foldl tone (([] : List Arc), ([] : List Int))) (hW : (A', q) = (zipL (runesL x.x) (runesL x.y)).foldl tstep (A, 0)) : (A', F ++ [q]) = (ps.take (k + 1)).foldl tone (([] : List Arc), ([] : List Int)) := by
  rw [take_snoc hx, List.foldl_append, ← hA, List.foldl_cons, List.foldl_nil]
  simp only [tone, tword, ← hW]
def TrieOk (A : List Arc) : Prop := ∀ x ∈ A, (0 ≤ x.src ∧ x.src ≤ (A.length : Int)) ∧ 0 ≤ x.dst ∧ x.dst ≤ (A.length : Int)
theorem trie_mem : ∀ {A : List Arc} {key : Arc} {d : Int}, aget (A.map tkey) key = some d → ∃ x ∈ A, x.dst = d ∧ (⟨x.src, 0, x.inp, x.out⟩ : Arc) = key
  | [], _, _, h => by simp [aget] at h
  | x :: A, key, d, h => by
    simp only [List.map_cons, tkey, aget] at h
    split at h
    · rename_i e; exact ⟨x, by simp, Option.some.inj h, e⟩
    · obtain ⟨y, hy, h1⟩ := trie_mem h
      exact ⟨y, List.mem_cons_of_mem _ hy, h1⟩
theorem tstep_ok {s : List Arc × Int} {ab : Int × Int} (h : TrieOk s.1 ∧ 0 ≤ s.2 ∧ s.2 ≤ (s.1.length : Int)) : (TrieOk (tstep s ab).1 ∧ 0 ≤ (tstep s ab).2 ∧ (tstep s ab).2 ≤ ((tstep s ab).1.length : Int)) ∧ s.1.length ≤ (tstep s ab).1.length ∧ (tstep s ab).1.length ≤ s.1.length + 1 := by
  unfold tstep
  split
  · rename_i d hd
    obtain ⟨x, hx, rfl, _⟩ := trie_mem hd
    exact ⟨⟨h.1, (h.1 x hx).2⟩, Nat.le_refl _, Nat.le_succ _⟩
  · refine ⟨⟨fun x hx => ?_, by simp only []; omega, by simp⟩, by simp, by simp⟩
    simp only [List.length_append, List.length_singleton] at hx ⊢
    rcases List.mem_append.1 hx with h1 | h1
    · have := h.1 x h1; omega
    · rw [List.mem_singleton.1 h1]; simp only []; omega
theorem tfold_ok : ∀ (l : List (Int × Int)) {s : List Arc × Int}, (TrieOk s.1 ∧ 0 ≤ s.2 ∧ s.2 ≤ (s.1.length : Int)) → (TrieOk (l.foldl tstep s).1 ∧ 0 ≤ (l.foldl tstep s).2 ∧ (l.foldl tstep s).2 ≤ ((l.foldl tstep s).1.length : Int)) ∧ s.1.length ≤ (l.foldl tstep s).1.length
  | [], _, h => ⟨h, Nat.le_refl _⟩
  | ab :: l, s, h => by
    obtain ⟨h1, h2, _⟩ := tstep_ok (ab := ab) h
    obtain ⟨h3, h4⟩ := tfold_ok l h1
    exact ⟨h3, Nat.le_trans h2 h4⟩
theorem tries_ok : ∀ (ps : List SPair) {s : List Arc × List Int}, (TrieOk s.1 ∧ ∀ f ∈ s.2, 0 ≤ f ∧ f ≤ (s.1.length : Int)) → TrieOk (ps.foldl tone s).1 ∧ ∀ f ∈ (ps.foldl tone s).2, 0 ≤ f ∧ f ≤ ((ps.foldl tone s).1.length : Int)
  | [], _, h => h
  | p :: ps, s, h => by
    refine tries_ok ps ?_
    obtain ⟨⟨h1, h2⟩, h3⟩ := tfold_ok (zipL (runesL p.x) (runesL p.y)) (s := (s.1, 0)) ⟨h.1, by simp only []; omega, by simp only []; omega⟩
    refine ⟨h1, fun f hf => ?_⟩
    simp only [tone] at hf ⊢
    rcases List.mem_append.1 hf with h4 | h4
    · have := h.2 f h4
      have h5 : s.1.length ≤ (tword s.1 (runesL p.x) (runesL p.y)).1.length := h3
      omega
    · rw [List.mem_singleton.1 h4]; exact h2
theorem trie_rng (ps : List SPair) : (trieT ps).Rng ((tries ps).1.length + 1) := by
  obtain ⟨h1, h2⟩ := tries_ok ps (s := ([], [])) ⟨fun x hx => (by simp at hx), by simp⟩
  refine ⟨by simp only [trieT]; omega, fun f hf => ?_, fun x hx => ?_⟩
  · have : 0 ≤ f ∧ f ≤ ((tries ps).1.length : Int) := h2 f hf
    omega
  · have : (0 ≤ x.src ∧ x.src ≤ ((tries ps).1.length : Int)) ∧ 0 ≤ x.dst ∧ x.dst ≤ ((tries ps).1.length : Int) := h1 x hx
    omega
end Go.Proofs.YtoilmeiikgegcaaDoor.G
