/- Walk library, part 6 (maps of one's own): key types, lookups, writes, rounds over the entries in whatever order. Plain theorems over any program. -/
/- Walk library, part 7 (maps in a walk): resources and operations. Plain theorems over any program. -/
/- Walk library, part 8 (maps of slices of one's own: m[k] = append(m[k], x)). Plain theorems over any program. -/
/- Walk library, part 10 (maps of slices of one's own, written as m[k] = append(m[k], x) by lookup, append and update). Plain theorems over any program. -/
/- Walk library, part 10: parts of a slice of one's own: s[k:] beside s, s[:k], s[:n:n], clear. Plain theorems over any program. -/
import Derived.Test.YtfepjcmjkaolgaaGOps
import Derived.Maps.RangeRun
import Derived.Maps.Keyed
import Derived.Laws.StructEq
import Derived.Laws.Slices
set_option linter.all false
namespace Go.Proofs.Ytfepjcmjkaolgaa.G
open Go Go.RowKit
open Go.ChangeMaps (setBlock)

/-! ### lists of pairs -/
section
variable {κ β : Type} [DecidableEq κ]
def aget : List (κ × β) → κ → Option β
  | [], _ => none
  | (k', v) :: l, k => if k' = k then some v else aget l k
def aput : List (κ × β) → κ → β → List (κ × β)
  | [], k, v => [(k, v)]
  | (k', v') :: l, k, v => if k' = k then (k, v) :: l else (k', v') :: aput l k v
def fl : List (κ × β) → κ → Option (Nat × β)
  | [], _ => none
  | (k', v) :: l, k => if k' = k then some (0, v) else (fl l k).map fun p => (p.1 + 1, p.2)
theorem fl_aget (l : List (κ × β)) (k : κ) : (fl l k).map (·.2) = aget l k := by
  induction l with
  | nil => rfl
  | cons p l ih =>
    obtain ⟨k', v⟩ := p
    simp only [fl, aget]
    split
    · rfl
    · rw [← ih, Option.map_map]; rfl
theorem fl_map {γ : Type} (f : β → γ) (l : List (κ × β)) (k : κ) : fl (l.map fun p => (p.1, f p.2)) k = (fl l k).map fun p => (p.1, f p.2) := by
  induction l with
  | nil => rfl
  | cons p l ih =>
    obtain ⟨k', v⟩ := p
    simp only [List.map_cons, fl]
    split
    · rfl
    · rw [ih, Option.map_map, Option.map_map]; rfl
theorem aput_map {γ : Type} (f : β → γ) (l : List (κ × β)) (k : κ) (v : β) : (aput l k v).map (fun p => (p.1, f p.2)) = aput (l.map fun p => (p.1, f p.2)) k (f v) := by
  induction l with
  | nil => rfl
  | cons p l ih =>
    obtain ⟨k', v'⟩ := p
    simp only [List.map_cons, aput]
    split
    · rfl
    · rw [List.map_cons, ih]
theorem aget_aput (l : List (κ × β)) (k k2 : κ) (v : β) : aget (aput l k v) k2 = if k = k2 then some v else aget l k2 := by
  induction l with
  | nil => simp [aput, aget]
  | cons p l ih =>
    obtain ⟨k', v'⟩ := p
    simp only [aput]
    by_cases h : k' = k
    · subst h
      simp only [if_true, aget]
      split <;> rfl
    · simp only [if_neg h, aget, ih]
      by_cases h2 : k' = k2
      · have : ¬ k = k2 := fun e => h (h2.trans e.symm)
        simp [h2, this]
      · simp [h2]
theorem aput_new {l : List (κ × β)} {k : κ} {v : β} (h : aget l k = none) : aput l k v = l ++ [(k, v)] := by
  induction l with
  | nil => rfl
  | cons p l ih =>
    obtain ⟨k', v'⟩ := p
    simp only [aget] at h
    split at h
    · cases h
    · rename_i hne
      simp [aput, hne, ih h]
theorem aget_none {l : List (κ × β)} {k : κ} : aget l k = none ↔ k ∉ l.map (·.1) := by
  induction l with
  | nil => simp [aget]
  | cons p l ih =>
    obtain ⟨k', v'⟩ := p
    simp only [aget, List.map_cons, List.mem_cons, not_or]
    split
    · rename_i h; simp [h]
    · rename_i h; rw [ih]; exact ⟨fun g => ⟨fun e => h e.symm, g⟩, fun g => g.2⟩
theorem keys_aput (l : List (κ × β)) (k : κ) (v : β) : (aput l k v).map (·.1) = if k ∈ l.map (·.1) then l.map (·.1) else l.map (·.1) ++ [k] := by
  induction l with
  | nil => simp [aput]
  | cons p l ih =>
    obtain ⟨k', v'⟩ := p
    simp only [aput]
    by_cases h : k' = k
    · subst h; simp
    · have h' : ¬ k = k' := fun e => h e.symm
      simp only [if_neg h, List.map_cons, ih, List.mem_cons, h', false_or]
      split <;> simp
theorem nodup_aput {l : List (κ × β)} (h : (l.map (·.1)).Nodup) (k : κ) (v : β) : ((aput l k v).map (·.1)).Nodup := by
  rw [keys_aput]
  split
  · exact h
  · rename_i hn
    exact List.nodup_append.2 ⟨h, by simp, fun a ha b hb e => hn (by rw [List.mem_singleton.1 hb] at e; exact e ▸ ha)⟩
theorem aget_mem {l : List (κ × β)} (h : (l.map (·.1)).Nodup) {k : κ} {v : β} : aget l k = some v ↔ (k, v) ∈ l := by
  induction l with
  | nil => simp [aget]
  | cons p l ih =>
    obtain ⟨k', v'⟩ := p
    simp only [List.map_cons, List.nodup_cons] at h
    simp only [aget, List.mem_cons, Prod.mk.injEq]
    split
    · rename_i he
      subst he
      constructor
      · intro e; cases e; exact .inl ⟨rfl, rfl⟩
      · rintro (⟨_, rfl⟩ | hm)
        · rfl
        · exact absurd (List.mem_map.2 ⟨_, hm, rfl⟩) h.1
    · rename_i hne
      rw [ih h.2]
      exact ⟨.inr, fun e => e.elim (fun e => absurd e.1.symm hne) id⟩
end

/-! ### key types -/
structure KT (P : Program) (κ : Type) [DecidableEq κ] where
  T : TypeId
  val : κ → Value
  check : ∀ em w k, (Instr.checkKey em 10000 T (val k)).run P w = .ok () w
  find : ∀ (w : World) (k : κ) (l : List (κ × Value)) (es : List MapEntry), es.map (fun e => (e.key, e.val)) = l.map (fun p => (val p.1, p.2)) → (Instr.findKey T (val k) es).run P w = .ok (fl l k) w
  stays : ∀ k, Instr.sameBits 10000 (val k) (val k) = true

section
variable {P : Program}
theorem findNow_of {κ : Type} [DecidableEq κ] {val : κ → Value} {d : TypeDesc} (hs : ∀ a b, Instr.sameNow d (val a) (val b) = some (decide (b = a))) (k : κ) : ∀ (l : List (κ × Value)) (es : List MapEntry) (i : Nat), es.map (fun e => (e.key, e.val)) = l.map (fun p => (val p.1, p.2)) →
    Instr.findNow d (val k) es i = some ((fl l k).map fun p => (i + p.1, p.2))
  | [], [], i, _ => rfl
  | [], _ :: _, i, h => by simp at h
  | _ :: _, [], i, h => by simp at h
  | (k', v) :: l, e :: es, i, h => by
    simp only [List.map_cons, List.cons.injEq, Prod.mk.injEq] at h
    obtain ⟨⟨h1, h2⟩, h3⟩ := h
    simp only [Instr.findNow, h1, hs, fl]
    by_cases he : k' = k
    · simp [he, h2]
    · simp only [he, decide_false, if_false]
      rw [findNow_of hs k l es (i + 1) h3, Option.map_map]
      congr 1
      congr 1
      funext p
      simp only [Function.comp]
      congr 1
      omega
theorem findAsking_of {κ : Type} [DecidableEq κ] {val : κ → Value} {T : TypeId} (hs : ∀ w a b, (Op.equal T (val a) (val b)).run P w = .ok (decide (a = b)) w) (w : World) (k : κ) : ∀ (l : List (κ × Value)) (es : List MapEntry) (i : Nat), es.map (fun e => (e.key, e.val)) = l.map (fun p => (val p.1, p.2)) →
    (Instr.findAsking T (val k) es i).run P w = .ok ((fl l k).map fun p => (i + p.1, p.2)) w
  | [], [], i, _ => rfl
  | [], _ :: _, i, h => by simp at h
  | _ :: _, [], i, h => by simp at h
  | (k', v) :: l, e :: es, i, h => by
    simp only [List.map_cons, List.cons.injEq, Prod.mk.injEq] at h
    obtain ⟨⟨h1, h2⟩, h3⟩ := h
    simp only [Instr.findAsking, Sem.run_bind, h1, hs, Result.andThen_ok, fl, Sem.run_ite]
    by_cases he : k = k'
    · simp [he, h2]
    · have he' : ¬ k' = k := fun x => he x.symm
      simp only [he, he', decide_false, if_false, Bool.false_eq_true]
      rw [findAsking_of hs w k l es (i + 1) h3, Option.map_map]
      congr 1
      congr 1
      funext p
      simp only [Function.comp]
      congr 1
      omega
theorem run_ck_int {em : Bool} (n : Nat) {T : TypeId} {q q2 : IntKind} {a : Int} (hu : P.underlying T = some (.int q)) (w : World) : (Instr.checkKey em (n + 1) T (.int q2 a)).run P w = .ok () w := by
  simp [Instr.checkKey, run_underlying hu]
theorem sb_int (n : Nat) (q : IntKind) (a : Int) : Instr.sameBits n (.int q a) (.int q a) = true := by cases n <;> simp [Instr.sameBits]
theorem toList_inj' {a b : ByteArray} (h : a.toList = b.toList) : a = b := by
  rw [ByteArray.toList_eq, ByteArray.toList_eq] at h
  obtain ⟨⟨x⟩⟩ := a
  obtain ⟨⟨y⟩⟩ := b
  simp at h
  rw [h]
theorem run_eqi {d : Nat} {t : TypeId} {q1 q : IntKind} {a b : Int} (w : World) (hu : P.underlying t = some (.int q)) : (Op.equalIn (d + 1) t (.int q1 a) (.int q1 b)).run P w = .ok (a == b) w := by
  simp [Op.equalIn, run_underlying hu]
/-- Whole numbers as keys. -/
def KT.int (T : TypeId) (q : IntKind) (hu : P.underlying T = some (.int q)) : KT P Int where
  T := T
  val n := .int q n
  check em w k := run_ck_int 9999 hu w
  find w k l es h := by
    have := findNow_of (val := fun n : Int => Value.int q n) (d := .int q) (fun a b => by simp [Instr.sameNow, eq_comm, Bool.beq_eq_decide_eq]) k l es 0 h
    simp [Instr.findKey, run_underlying hu, this]
  stays k := sb_int _ _ _
theorem sb_ints (l : List Value) (h : l.all (fun v => match v with | .int _ _ => true | _ => false) = true) : Instr.sameBits 10000 (.agg l.toArray) (.agg l.toArray) = true := by
  have hz : (l.zip l).all (fun (x, y) => Instr.sameBits 9999 x y) = true := by
    rw [List.all_eq_true]
    rintro ⟨x, y⟩ hxy
    have e : x = y := by
      obtain ⟨i, hi⟩ := List.getElem?_of_mem hxy
      obtain ⟨h1, h2⟩ := List.getElem?_zip_eq_some.1 hi
      rw [h1] at h2
      exact Option.some.inj h2
    subst e
    have := List.all_eq_true.1 h x (List.of_mem_zip hxy).1
    cases x <;> first | exact sb_int _ _ _ | simp at this
  show (l.toArray.size == l.toArray.size && (l.toArray.toList.zip l.toArray.toList).all fun (x, y) => Instr.sameBits 9999 x y) = true
  rw [List.toList_toArray, hz]
  simp
/-! structs of whole numbers -/
def intFlds (P : Program) : List Field → Nat → Bool
  | [], _ => true
  | f :: fs, i => (f.name != "_") && (Nat.beq f.offset i && ((match P.underlying f.type with | some (.int _) => true | _ => false) && intFlds P fs (i + 1)))
def ivals : List IntKind → List Int → List Value
  | q :: qs, a :: as => .int q a :: ivals qs as
  | _, _ => []
theorem ivals_get : ∀ {qs : List IntKind} {as : List Int} {j : Nat} {a : Int}, qs.length = as.length → as[j]? = some a → ∃ q, qs[j]? = some q ∧ (ivals qs as)[j]? = some (.int q a)
  | [], [], j, a, _, h => by simp at h
  | [], _ :: _, j, a, hl, h => by simp at hl
  | _ :: _, [], j, a, hl, h => by simp at hl
  | q :: qs, b :: as, 0, a, _, h => by simp at h; subst h; exact ⟨q, rfl, rfl⟩
  | q :: qs, b :: as, j + 1, a, hl, h => by simp at h hl; exact ivals_get (qs := qs) hl h
theorem run_part_int {t : TypeId} {q : IntKind} (hu : P.underlying t = some (.int q)) {cs : Array Value} {o : Nat} {v : Value} (hv : cs[o]? = some v) (w : World) : (part t cs o).run P w = .ok v w := by
  have hagg : (isAgg t).run P w = .ok false w := by
    unfold isAgg
    rw [Sem.run_bind, run_underlying hu w]
    rfl
  simp [part, Sem.run_bind, hagg, hv]
theorem run_eqFields_ints {d : Nat} {xs ys : Array Value} {w : World} : ∀ (fs : List Field) (i : Nat) (as bs : List Int), intFlds P fs i = true → as.length = fs.length → bs.length = fs.length →
    (∀ j a b, as[j]? = some a → bs[j]? = some b → ∃ q, xs[i + j]? = some (.int q a) ∧ ys[i + j]? = some (.int q b)) → (Op.eqFields (d + 1) xs ys fs).run P w = .ok (decide (as = bs)) w
  | [], i, as, bs, _, ha, hb, _ => by
    have : as = [] := by simpa using ha
    have : bs = [] := by simpa using hb
    subst_vars
    simp [Op.eqFields]
  | f :: fs, i, [], _, _, ha, _, _ => by simp at ha
  | f :: fs, i, _, [], _, _, hb, _ => by simp at hb
  | f :: fs, i, a :: as, b :: bs, hf, ha, hb, hx => by
    simp only [intFlds, Bool.and_eq_true, bne_iff_ne] at hf
    obtain ⟨h1, h2, h3, h4⟩ := hf
    have h2 := Nat.eq_of_beq_eq_true h2
    split at h3
    · rename_i q hu
      obtain ⟨q1, hq1, hq2⟩ := hx 0 a b rfl rfl
      simp only [Nat.add_zero] at hq1 hq2
      simp only [Op.eqFields, Sem.run_ite, ne_eq, h1, not_false_iff, if_true, Sem.run_bind, h2, run_part_int hu hq1, run_part_int hu hq2, Result.andThen_ok, run_eqi (P := P) (d := d) (t := f.type) (q1 := q1) (q := q) (a := a) (b := b) w hu]
      by_cases hab : a = b
      · subst hab
        simp only [beq_self_eq_true, Bool.not_true, Bool.false_eq_true, if_false]
        rw [run_eqFields_ints fs (i + 1) as bs h4 (by simpa using ha) (by simpa using hb) (fun j a' b' e e' => by have := hx (j + 1) a' b' (by simpa using e) (by simpa using e'); rwa [show i + (j + 1) = i + 1 + j by omega] at this)]
        simp
      · have : (a == b) = false := by simpa using hab
        simp [this, hab]
    · cases h3
theorem run_checkKey_flds {em : Bool} {m : Nat} {xs : Array Value} {w : World} : ∀ (fs : List Field) (i : Nat), intFlds P fs i = true → (∀ j, j < fs.length → ∃ v, xs[i + j]? = some v) →
    (forIn fs PUnit.unit fun f (_ : PUnit) => (if f.name ≠ "_" then (do Instr.checkKey em (m + 1) f.type (← part f.type xs f.offset); pure (ForInStep.yield PUnit.unit)) else pure (ForInStep.yield PUnit.unit) : Sem (ForInStep PUnit))).run P w = .ok PUnit.unit w
  | [], _, _, _ => by simp
  | f :: fs, i, hf, hx => by
    simp only [intFlds, Bool.and_eq_true, bne_iff_ne] at hf
    obtain ⟨h1, h2, h3, h4⟩ := hf
    have h2 := Nat.eq_of_beq_eq_true h2
    split at h3
    · rename_i q hu
      obtain ⟨v, hv⟩ := hx 0 (by simp)
      simp only [Nat.add_zero] at hv
      have hc : (Instr.checkKey em (m + 1) f.type v).run P w = .ok () w := by simp [Instr.checkKey, run_underlying hu]
      simp only [List.forIn_cons, ne_eq, h1, not_false_iff, if_true, Sem.run_bind, h2, run_part_int hu hv, Result.andThen_ok, hc, Sem.run_pure]
      have := run_checkKey_flds (em := em) (m := m) (xs := xs) (w := w) fs (i + 1) h4 (fun j hj => by have := hx (j + 1) (by simpa using hj); rwa [show i + (j + 1) = i + 1 + j by omega] at this)
      simpa only [ne_eq] using this
    · cases h3
/-- A struct of whole numbers as a key. -/
def KT.ints {κ : Type} [DecidableEq κ] (T : TypeId) (qs : List IntKind) (g : κ → List Int) (f : κ → List Value) (fs : Array Field) (hu : P.underlying T = some (.struct fs)) (hp : P.stoodInHeld T = false) (hfs : intFlds P fs.toList 0 = true) (hq : qs.length = fs.toList.length)
    (hg : ∀ k, (g k).length = fs.toList.length) (hf : ∀ k, ivals qs (g k) = f k) (hinj : ∀ a b, g a = g b → a = b) (hst : ∀ k, Instr.sameBits 10000 (.agg (f k).toArray) (.agg (f k).toArray) = true) : KT P κ where
  T := T
  val k := .agg (f k).toArray
  stays := hst
  check em w k := by
    have hget : ∀ j, j < fs.toList.length → ∃ v, (f k).toArray[0 + j]? = some v := fun j hj => by
      rw [← hf k]
      obtain ⟨q, _, h⟩ := ivals_get (qs := qs) (as := g k) (j := j) (a := (g k)[j]'(by rw [hg]; exact hj)) (by rw [hq, hg]) (by simp)
      exact ⟨_, by simpa using h⟩
    have := run_checkKey_flds (P := P) (em := em) (m := 9998) (xs := (f k).toArray) (w := w) fs.toList 0 hfs hget
    have hall : ∀ n, (Instr.checkKey em (n + 1) T (.agg (f k).toArray)).run P w = (forIn fs.toList PUnit.unit fun f' (_ : PUnit) => (if f'.name ≠ "_" then (do Instr.checkKey em n f'.type (← part f'.type (f k).toArray f'.offset); pure (ForInStep.yield PUnit.unit)) else pure (ForInStep.yield PUnit.unit) : Sem (ForInStep PUnit))).run P w := fun n => by
      simp only [Instr.checkKey, Sem.run_bind, run_underlying hu, Result.andThen_ok]
      rw [← Array.forIn_toList]
      generalize (forIn fs.toList PUnit.unit _ : Sem PUnit).run P w = r
      cases r <;> simp [Result.andThen]
    exact (hall 9999).trans this
  find w k l es h := by
    have heq : ∀ w a b, (Op.equal T (.agg (f a).toArray) (.agg (f b).toArray)).run P w = .ok (decide (a = b)) w := fun w a b => by
      have hfo : P.fieldsOf T = fs := by simp [Program.fieldsOf, hu]
      show (Op.equalIn (9999 + 1) T _ _).run P w = _
      rw [run_equalIn_struct w 9999 T _ _ (by rw [hfo]; exact hu) hp, hfo]
      rw [run_eqFields_ints fs.toList 0 (g a) (g b) hfs (hg a) (hg b) (fun j x y h1 h2 => by
        rw [← hf a, ← hf b]
        obtain ⟨q, hq1, h1⟩ := ivals_get (qs := qs) (by rw [hq, hg]) h1
        obtain ⟨q', hq2, h2⟩ := ivals_get (qs := qs) (by rw [hq, hg]) h2
        rw [hq1] at hq2
        cases hq2
        exact ⟨q, by simpa using h1, by simpa using h2⟩)]
      congr 1
      by_cases e : a = b
      · subst e; simp
      · have : ¬ g a = g b := fun x => e (hinj a b x)
        simp [e, this]
    have h1 := findAsking_of (P := P) (T := T) (val := fun k => Value.agg (f k).toArray) heq w k l es 0 h
    simp only [Nat.zero_add] at h1
    simp only [Instr.findKey, Sem.run_bind, run_underlying hu, Result.andThen_ok]
    cases es with
    | nil =>
      have : l = [] := by cases l with | nil => rfl | cons p l => simp at h
      subst this
      simp [Instr.findNow, fl]
    | cons e es =>
      simp only [Instr.findNow, Instr.sameNow, h1]
      simp
end

/-! ### a map's block -/
section
variable {P : Program} {κ : Type} [DecidableEq κ] (Q : KT P κ)
def ents : Nat → List (κ × Value) → List MapEntry
  | _, [] => []
  | n, (k, v) :: l => ⟨Q.val k, v, n⟩ :: ents (n + 1) l
variable {Q}
theorem ents_kv : ∀ (n : Nat) (l : List (κ × Value)), (ents Q n l).map (fun e => (e.key, e.val)) = l.map (fun p => (Q.val p.1, p.2))
  | _, [] => rfl
  | n, (k, v) :: l => by simp [ents, ents_kv (n + 1) l]
theorem ents_len : ∀ (n : Nat) (l : List (κ × Value)), (ents Q n l).length = l.length
  | _, [] => rfl
  | n, (k, v) :: l => by simp [ents, ents_len (n + 1) l]
theorem ents_get : ∀ (n : Nat) (l : List (κ × Value)) (j : Nat), (ents Q n l)[j]? = (l[j]?).map fun p => ⟨Q.val p.1, p.2, n + j⟩
  | _, [], j => by simp [ents]
  | n, (k, v) :: l, 0 => by simp [ents]
  | n, (k, v) :: l, j + 1 => by simp [ents, ents_get (n + 1) l j, show n + 1 + j = n + (j + 1) by omega]
theorem ents_new : ∀ (n : Nat) (l : List (κ × Value)) (k : κ) (v : Value), fl l k = none → ents Q n l ++ [⟨Q.val k, v, n + l.length⟩] = ents Q n (aput l k v)
  | _, [], k, v, _ => by simp [ents, aput]
  | n, (k', v') :: l, k, v, h => by
    simp only [fl] at h
    split at h
    · cases h
    · rename_i hne
      simp only [Option.map_eq_none_iff] at h
      simp only [aput, if_neg hne, ents, List.cons_append, ← ents_new (n + 1) l k v h, List.length_cons]
      rw [show n + 1 + l.length = n + (l.length + 1) by omega]
theorem ents_old : ∀ (n : Nat) (l : List (κ × Value)) (k : κ) (v : Value) (i : Nat) (v' : Value), fl l k = some (i, v') → (ents Q n l).modify i (fun e => { e with key := Q.val k, val := v }) = ents Q n (aput l k v)
  | _, [], k, v, i, v', h => by simp [fl] at h
  | n, (k', v0) :: l, k, v, i, v', h => by
    simp only [fl] at h
    split at h
    · rename_i he
      cases h
      simp [ents, aput, he]
    · rename_i hne
      obtain ⟨⟨j, x⟩, hj, he⟩ := Option.map_eq_some_iff.1 h
      cases he
      simp [ents, aput, if_neg hne, ← ents_old (n + 1) l k v j x hj]
theorem fl_get : ∀ {l : List (κ × Value)} {k : κ} {i : Nat} {v : Value}, fl l k = some (i, v) → l[i]? = some (k, v)
  | [], k, i, v, h => by simp [fl] at h
  | (k', v0) :: l, k, i, v, h => by
    simp only [fl] at h
    split at h
    · rename_i he; cases h; simp [he]
    · obtain ⟨⟨j, x⟩, hj, he⟩ := Option.map_eq_some_iff.1 h
      cases he
      simpa using fl_get hj
theorem aput_len : ∀ (l : List (κ × Value)) (k : κ) (v : Value), (aput l k v).length = match fl l k with | some _ => l.length | none => l.length + 1
  | [], k, v => rfl
  | (k', v0) :: l, k, v => by
    simp only [aput, fl]
    split
    · simp
    · simp only [List.length_cons, aput_len l k v]
      cases fl l k <;> simp

/-- The object of a map. -/
def mapObj (Q : KT P κ) (l : List (κ × Value)) : Obj := .map (ents Q 0 l).toArray l.length
theorem run_find (l : List (κ × Value)) (k : κ) (w : World) : (Instr.findKey Q.T (Q.val k) (ents Q 0 l)).run P w = .ok (fl l k) w := Q.find w k l _ (ents_kv 0 l)
theorem run_stays (k : κ) (w : World) : (Instr.keyThatStays (Q.val k) (Q.val k)).run P w = .ok (Q.val k) w := by
  simp [Instr.keyThatStays, Q.stays k]
theorem run_setObj_map {w : World} {b : Nat} {es : Array MapEntry} {c : Nat} (hb : w.heap[b]? = some (.map es c)) (o' : Obj) : (setObj b o').run P w = .ok () (setBlock w b o') := by
  simp [setObj, Sem.run, hb, setBlock]
theorem run_getObj_map' {w : World} {b : Nat} {l : List (κ × Value)} (hb : w.heap[b]? = some (mapObj Q l)) : (getObj b).run P w = .ok (mapObj Q l) w := by
  simp [getObj, Sem.run, hb, mapObj]
/-- A write. -/
theorem run_mapUpdate {t el : TypeId} {w : World} {b : Nat} {l : List (κ × Value)} (ht : P.underlying t = some (.map Q.T el)) (hb : w.heap[b]? = some (mapObj Q l)) (k : κ) (v : Value) :
    (Instr.mapUpdate t (.map (some b)) (Q.val k) v).run P w = .ok () (setBlock w b (mapObj Q (aput l k v))) := by
  simp only [Instr.mapUpdate, Sem.run_bind, run_underlying ht, Result.andThen_ok, run_getObj_map' hb, mapObj, Q.check, List.toList_toArray, run_find]
  have hlen := aput_len l k v
  cases h : fl l k with
  | none =>
    simp only [h] at hlen
    have := ents_new (Q := Q) 0 l k v h
    rw [Nat.zero_add] at this
    simp only [run_setObj_map hb, hlen, ← this]
    simp
  | some p =>
    obtain ⟨i, v'⟩ := p
    simp only [h] at hlen
    have hg := ents_get (Q := Q) 0 l i
    rw [fl_get h] at hg
    have : (ents Q 0 l).toArray[i]? = some ⟨Q.val k, v', 0 + i⟩ := by simpa using hg
    simp only [this, Option.map_some, Option.getD_some, Sem.run_bind, run_stays, Result.andThen_ok, run_setObj_map hb, hlen, ← ents_old (Q := Q) 0 l k v i v' h]
    simp
/-- A lookup. -/
theorem run_lookup {t el : TypeId} {w : World} {b : Nat} {l : List (κ × Value)} {z : Value} (ht : P.underlying t = some (.map Q.T el)) (hz : (P.info? el).bind (·.zero) = some z) (hb : w.heap[b]? = some (mapObj Q l)) (k : κ) (c : Bool) :
    (Instr.lookup t (.map (some b)) (Q.val k) c).run P w = .ok (if c then .tuple #[(aget l k).getD z, .bool (aget l k).isSome] else (aget l k).getD z) w := by
  have hz' : (zeroValue el).run P w = .ok z w := by
    obtain ⟨i, hi, hzi⟩ := Option.bind_eq_some_iff.1 hz
    simp [zeroValue, typeInfo, hi, hzi]
  simp only [Instr.lookup, Sem.run_bind, run_underlying ht, Result.andThen_ok, run_getObj_map' hb, mapObj, Sem.run_pure, Q.check, List.toList_toArray, run_find]
  rw [← fl_aget]
  cases h : fl l k with
  | none => simp [hz']
  | some p => simp
def stampOf (l : List (κ × Value)) (k : κ) : Nat := ((fl l k).map (·.1)).getD l.length
/-- An entry for a write to come. -/
theorem run_mapEntry {t el : TypeId} {w : World} {b : Nat} {l : List (κ × Value)} {z : Value} (ht : P.underlying t = some (.map Q.T el)) (hz : (P.info? el).bind (·.zero) = some z) (hb : w.heap[b]? = some (mapObj Q l)) (k : κ) :
    (Instr.mapEntry t (.map (some b)) (Q.val k)).run P w = .ok (.tuple #[(aget l k).getD z, goInt (stampOf l k : Nat)]) (setBlock w b (mapObj Q (aput l k ((aget l k).getD z)))) := by
  have hz' : ∀ w, (zeroValue el).run P w = .ok z w := fun w => by
    obtain ⟨i, hi, hzi⟩ := Option.bind_eq_some_iff.1 hz
    simp [zeroValue, typeInfo, hi, hzi]
  simp only [Instr.mapEntry, Sem.run_bind, run_underlying ht, Result.andThen_ok, run_getObj_map' hb, mapObj, Q.check, List.toList_toArray, run_find]
  have hlen := aput_len l k ((aget l k).getD z)
  rw [← fl_aget] at *
  unfold stampOf
  cases h : fl l k with
  | none =>
    simp only [h] at hlen
    have := ents_new (Q := Q) 0 l k z h
    rw [Nat.zero_add] at this
    simp only [Sem.run_bind, hz', Result.andThen_ok, run_setObj_map hb, h, Option.map_none, Option.getD_none, Sem.run_pure, hlen, ← this]
    simp at hlen
    simp [hlen]
  | some p =>
    obtain ⟨i, v'⟩ := p
    simp only [h] at hlen
    have hg := ents_get (Q := Q) 0 l i
    rw [fl_get h] at hg
    have h2 : (ents Q 0 l).toArray[i]? = some ⟨Q.val k, v', 0 + i⟩ := by simpa using hg
    have h3 := ents_old (Q := Q) 0 l k v' i v' h
    simp only [h2, Option.map_some, Option.getD_some, Sem.run_bind, run_stays, Result.andThen_ok, run_setObj_map hb, Sem.run_pure] at hlen ⊢
    rw [hlen, ← h3]
    simp only [Nat.zero_add]
    congr 3
    apply Array.toList_inj.1
    simp only [Array.toList_modify]
    apply List.ext_getElem?
    intro j
    simp only [List.getElem?_modify]
    by_cases e : i = j
    · subst e
      have : (ents Q 0 l)[i]? = some ⟨Q.val k, v', 0 + i⟩ := by simpa using hg
      simp [this]
    · simp [e]
theorem findIdx_born : ∀ (n : Nat) (l : List (κ × Value)) (i : Nat), i < l.length → (ents Q n l).findIdx? (fun e => (e.born : Int) == ((n + i : Nat) : Int)) = some i
  | _, [], i, h => by simp at h
  | n, (k, v) :: l, 0, _ => by simp [ents, List.findIdx?_cons]
  | n, (k, v) :: l, i + 1, h => by
    have ih := findIdx_born (n + 1) l i (by simpa using h)
    have hne : ((n : Int) == ((n + (i + 1) : Nat) : Int)) = false := by
      simp only [beq_eq_false_iff_ne, ne_eq]; omega
    rw [show n + 1 + i = n + (i + 1) by omega] at ih
    simp only [ents, List.findIdx?_cons, hne, Bool.false_eq_true, if_false, ih, Option.map_some]
end
end Go.Proofs.Ytfepjcmjkaolgaa.G

set_option linter.all false
namespace Go.Proofs.Ytfepjcmjkaolgaa.G
open Go Go.RowKit
open Go.ChangeMaps (setBlock)

section
variable {P : Program} {κ β α : Type} [DecidableEq κ] (Q : KT P κ) (V : β → Value)
def mobj (l : List (κ × β)) : Obj := mapObj Q (l.map fun p => (p.1, V p.2))
/-- A map of one's own. -/
def mpr (b : Nat) (l : List (κ × β)) : Res where
  blks := [b]
  holds h := h b = some (mobj Q V l)
  loc h h' e k := by rw [← e b (by simp)]; exact k
/-- A map that is read. -/
def rdMp (h : Heap) (v : Value) (l : List (κ × β)) : Prop := ∃ b, v = .map (some b) ∧ h b = some (mobj Q V l)
variable {Q V} in
theorem rdMp.mono {h h' : Heap} {v : Value} {l : List (κ × β)} (k : hle h h') (r : rdMp Q V h v l) : rdMp Q V h' v l := by
  obtain ⟨b, e, h1⟩ := r
  exact ⟨b, e, k _ _ h1⟩
variable {Q V} in
theorem rdMp.at_ {h : Heap} {b : Nat} {l : List (κ × β)} (r : rdMp Q V h (.map (some b)) l) : h b = some (mobj Q V l) := by
  obtain ⟨b', e, h1⟩ := r
  cases e
  exact h1
/-- A round over a map's entries: these have come. -/
def itr (r b : Nat) (l done : List (κ × β)) : Res where
  blks := [r]
  holds h := ∃ idx : List Nat, h r = some (.mapIter (some b) l.length idx.toArray l.length) ∧ idx.Nodup ∧ idx.map (fun i => l[i]?) = done.map some
  loc h h' e k := by
    obtain ⟨idx, h1, h2⟩ := k
    exact ⟨idx, by rw [← e r (by simp)]; exact h1, h2⟩
end

section
variable {P : Program} {n : Nat} {ops : Array Oper} {e : Env} {dst : Option Tmp} {ty : TypeId} {pos : String} {af : Array Edge} {w0 w : World} {I0 I : Heap} {L : List Res} {κ β α : Type} [DecidableEq κ] {Q : KT P κ} {V : β → Value} {S : World → Prop}

theorem chg_setBlock (w : World) (b : Nat) (o : Obj) : Chg w (setBlock w b o) [b] :=
  ⟨rfl, rfl, rfl, by simp [setBlock], fun k _ h => by
    have : ¬ b = k := fun e => h (by simp [e])
    simp [setBlock, Array.getElem?_setIfInBounds, this], Nat.le_refl _⟩
theorem setBlock_heap {w : World} {b : Nat} {o o' : Obj} (h : hp w b = some o') : hp (setBlock w b o) b = some o := by
  have := hp_lt h
  simp [hp, setBlock, this]
theorem Mem.mpAt (M : Mem w0 I0 I L w) (i : Nat) {b : Nat} {l : List (κ × β)} (hi : L[i]? = some (mpr Q V b l)) : hp w b = some (mobj Q V l) := M.holds _ (getElem?_mem' hi)
theorem Mem.frzMp (M : Mem w0 I0 I L w) (i : Nat) {b : Nat} {l : List (κ × β)} (hi : L[i]? = some (mpr Q V b l)) : ∃ I', Mem w0 I0 I' (L.eraseIdx i) w ∧ hle I I' ∧ rdMp Q V I' (.map (some b)) l := by
  obtain ⟨h1, h2, h3⟩ := M.freeze i hi
  exact ⟨_, h1, h2, b, rfl, h3⟩
theorem e_mkm {t : TypeId} (Q : KT P κ) (V : β → Value) (M : Mem w0 I0 I L w) :
    Eff P n ops ⟨dst, .makeMap t none, ty, pos, af, none⟩ e w fun v w' => ∃ b, v = .map (some b) ∧ Mem w0 I0 I (mpr Q V b [] :: L) w' := by
  refine Eff.run (v := .map (some w.heap.size)) (w' := w.alloc (.map #[] 0)) ?_ rfl ⟨_, rfl, M.alloc _ _ rfl (fun h eh => eh)⟩
  simp [execOp, Instr.makeMap]
theorem e_mpu (i : Nat) {t el : TypeId} {m x y : Operand} {b : Nat} {l : List (κ × β)} {k : κ} {v : β} (M : Mem w0 I0 I L w) (hi : L[i]? = some (mpr Q V b l)) (ht : P.underlying t = some (.map Q.T el)) (hm : evo e m = some (.map (some b))) (hx : evo e x = some (Q.val k)) (hy : evo e y = some (V v)) :
    Eff P n ops ⟨dst, .mapUpdate t m x y, ty, pos, af, none⟩ e w fun _ w' => Mem w0 I0 I (L.set i (mpr Q V b (aput l k v))) w' := by
  replace hm := ev_of hm
  replace hx := ev_of hx
  replace hy := ev_of hy
  have hb := M.mpAt i hi
  have := run_mapUpdate (Q := Q) ht hb k (V v)
  refine Eff.run0 (w' := setBlock w b (mobj Q V (aput l k v))) ?_ rfl (M.upd i hi _ (chg_setBlock w b _) (by simp [mpr]) (fun c hc => .inl hc) (fun c hc => ?_) (setBlock_heap hb))
  · rw [← aput_map] at this
    simp [execOp, hm, hx, hy, this, mobj]
  · exact Nat.lt_of_lt_of_le (M.own (getElem?_mem' hi) hc).2.1 (chg_setBlock w b _).size
theorem e_mpi (i : Nat) {t el : TypeId} {m x y : Operand} {b : Nat} {l : List (κ × β)} {k : κ} {v : β} (M : Mem w0 I0 I L w) (hi : L[i]? = some (mpr Q V b l)) (ht : P.underlying t = some (.map Q.T el)) (hm : evo e m = some (.map (some b))) (hx : evo e x = some (Q.val k)) (hy : evo e y = some (V v)) :
    Eff P n ops ⟨dst, .insert t m x y, ty, pos, af, none⟩ e w fun _ w' => Mem w0 I0 I (L.set i (mpr Q V b (aput l k v))) w' := by
  replace hm := ev_of hm
  replace hx := ev_of hx
  replace hy := ev_of hy
  have hb := M.mpAt i hi
  have := run_mapUpdate (Q := Q) ht hb k (V v)
  refine Eff.run0 (w' := setBlock w b (mobj Q V (aput l k v))) ?_ rfl (M.upd i hi _ (chg_setBlock w b _) (by simp [mpr]) (fun c hc => .inl hc) (fun c hc => ?_) (setBlock_heap hb))
  · rw [← aput_map] at this
    simp [execOp, hm, hx, hy, this, mobj]
  · exact Nat.lt_of_lt_of_le (M.own (getElem?_mem' hi) hc).2.1 (chg_setBlock w b _).size
theorem aget_map {γ : Type} (f : β → γ) (l : List (κ × β)) (k : κ) : aget (l.map fun p => (p.1, f p.2)) k = (aget l k).map f := by
  induction l with
  | nil => rfl
  | cons p l ih =>
    obtain ⟨k', v⟩ := p
    simp only [List.map_cons, aget]
    split
    · rfl
    · exact ih
def zeroV (P : Program) (el : TypeId) : Option Value := (P.info? el).bind (·.zero)
/-- A lookup, the map's place known in all worlds of S. -/
theorem q_lkS {t el : TypeId} {m x : Operand} {b : Nat} {l : List (κ × β)} {k : κ} {z : β} (R : ∀ w, S w → hp w b = some (mobj Q V l)) (ht : P.underlying t = some (.map Q.T el)) (hz : zeroV P el = some (V z)) (hm : evo e m = some (.map (some b))) (hx : evo e x = some (Q.val k)) :
    Quiet P n ops S ⟨dst, .lookup t m x false, ty, pos, af, none⟩ e (V ((aget l k).getD z)) := by
  replace hm := ev_of hm
  replace hx := ev_of hx
  refine q_of rfl fun w hw => ?_
  have := run_lookup (Q := Q) ht hz (R w hw) k false
  rw [aget_map] at this
  have e1 : ((aget l k).map V).getD (V z) = V ((aget l k).getD z) := by cases aget l k <;> rfl
  simp only [execOp, hm, hx, Sem.run_bind, this, Bool.false_eq_true, if_false, Result.andThen_ok, Sem.run_pure, e1]
theorem q_lkS2 {t el : TypeId} {m x : Operand} {b : Nat} {l : List (κ × β)} {k : κ} {z : β} (R : ∀ w, S w → hp w b = some (mobj Q V l)) (ht : P.underlying t = some (.map Q.T el)) (hz : zeroV P el = some (V z)) (hm : evo e m = some (.map (some b))) (hx : evo e x = some (Q.val k)) :
    Quiet P n ops S ⟨dst, .lookup t m x true, ty, pos, af, none⟩ e (.tuple #[V ((aget l k).getD z), .bool (aget l k).isSome]) := by
  replace hm := ev_of hm
  replace hx := ev_of hx
  refine q_of rfl fun w hw => ?_
  have := run_lookup (Q := Q) ht hz (R w hw) k true
  rw [aget_map] at this
  have e1 : ((aget l k).map V).getD (V z) = V ((aget l k).getD z) := by cases aget l k <;> rfl
  simp only [execOp, hm, hx, Sem.run_bind, this, if_true, Result.andThen_ok, Sem.run_pure, e1, Option.isSome_map]
/-- A lookup in a map of one's own. -/
theorem q_lk (i : Nat) {t el : TypeId} {m x : Operand} {b : Nat} {l : List (κ × β)} {k : κ} {z : β} (hi : L[i]? = some (mpr Q V b l)) (ht : P.underlying t = some (.map Q.T el)) (hz : zeroV P el = some (V z)) (hm : evo e m = some (.map (some b))) (hx : evo e x = some (Q.val k)) :
    Quiet P n ops (Mem w0 I0 I L) ⟨dst, .lookup t m x false, ty, pos, af, none⟩ e (V ((aget l k).getD z)) := by
  exact q_lkS (fun w M => M.mpAt i hi) ht hz hm hx
theorem q_lk2 (i : Nat) {t el : TypeId} {m x : Operand} {b : Nat} {l : List (κ × β)} {k : κ} {z : β} (hi : L[i]? = some (mpr Q V b l)) (ht : P.underlying t = some (.map Q.T el)) (hz : zeroV P el = some (V z)) (hm : evo e m = some (.map (some b))) (hx : evo e x = some (Q.val k)) :
    Quiet P n ops (Mem w0 I0 I L) ⟨dst, .lookup t m x true, ty, pos, af, none⟩ e (.tuple #[V ((aget l k).getD z), .bool (aget l k).isSome]) := by
  exact q_lkS2 (fun w M => M.mpAt i hi) ht hz hm hx
/-- A lookup in a map that is read. -/
theorem q_lkI {t el : TypeId} {m x : Operand} {v : Value} {l : List (κ × β)} {k : κ} {z : β} (R : rdMp Q V I v l) (ht : P.underlying t = some (.map Q.T el)) (hz : zeroV P el = some (V z)) (hm : evo e m = some v) (hx : evo e x = some (Q.val k)) :
    Quiet P n ops (Mem w0 I0 I L) ⟨dst, .lookup t m x false, ty, pos, af, none⟩ e (V ((aget l k).getD z)) := by
  obtain ⟨b, rfl, h⟩ := R
  exact q_lkS (fun w M => M.imm _ _ h) ht hz hm hx
theorem q_lkI2 {t el : TypeId} {m x : Operand} {v : Value} {l : List (κ × β)} {k : κ} {z : β} (R : rdMp Q V I v l) (ht : P.underlying t = some (.map Q.T el)) (hz : zeroV P el = some (V z)) (hm : evo e m = some v) (hx : evo e x = some (Q.val k)) :
    Quiet P n ops (Mem w0 I0 I L) ⟨dst, .lookup t m x true, ty, pos, af, none⟩ e (.tuple #[V ((aget l k).getD z), .bool (aget l k).isSome]) := by
  obtain ⟨b, rfl, h⟩ := R
  exact q_lkS2 (fun w M => M.imm _ _ h) ht hz hm hx
theorem mobj_len (l : List (κ × β)) : ∃ es c, mobj Q V l = .map es c ∧ es.size = l.length := ⟨_, _, rfl, by simp [ents_len]⟩
theorem q_lenS' {t kt el : TypeId} {m : Operand} {b : Nat} {l : List (κ × β)} (R : ∀ w, S w → hp w b = some (mobj Q V l)) (ht : P.underlying t = some (.map kt el)) (hm : evo e m = some (.map (some b))) :
    Quiet P n ops S ⟨dst, .call { callee := .builtin .len, args := #[m], argTypes := #[t] }, ty, pos, af, none⟩ e (.int .i64 (l.length : Int)) := by
  replace hm := ev_of hm
  refine q_of rfl fun w hw => ?_
  have hb := R w hw
  have hg : (getObj b).run P w = .ok (mobj Q V l) w := run_getObj_map' (Q := Q) hb
  obtain ⟨es, c, h1, h2⟩ := mobj_len (Q := Q) (V := V) l
  rw [h1] at hg
  simp [execOp, resolve, invoke, builtin, Builtin.len_, hm, run_underlying ht, hg, goInt, h2]
theorem q_lenMI {t kt el : TypeId} {m : Operand} {v : Value} {l : List (κ × β)} (R : rdMp Q V I v l) (ht : P.underlying t = some (.map kt el)) (hm : evo e m = some v) :
    Quiet P n ops (Mem w0 I0 I L) ⟨dst, .call { callee := .builtin .len, args := #[m], argTypes := #[t] }, ty, pos, af, none⟩ e (.int .i64 (l.length : Int)) := by
  obtain ⟨b, rfl, h⟩ := R
  exact q_lenS' (fun w M => M.imm _ _ h) ht hm

/-! rounds over the entries -/
theorem e_rng {t kt el : TypeId} {m : Operand} {b : Nat} {l : List (κ × β)} (M : Mem w0 I0 I L w) (hb : hp w b = some (mobj Q V l)) (ht : P.underlying t = some (.map kt el)) (hm : evo e m = some (.map (some b))) :
    Eff P n ops ⟨dst, .range t m, ty, pos, af, none⟩ e w fun v w' => ∃ r, v = .pointer (some ⟨r, 0, none⟩) ∧ Mem w0 I0 I (itr r b l [] :: L) w' := by
  replace hm := ev_of hm
  have := run_range_map (P := P) w t kt el b _ _ ht hb
  simp only [List.length_map] at this
  refine Eff.run (v := .pointer (some ⟨w.heap.size, 0, none⟩)) (w' := w.alloc (.mapIter (some b) l.length #[] l.length)) ?_ rfl ⟨_, rfl, M.alloc _ _ rfl (fun h eh => ?_)⟩
  · simp only [execOp, hm, Sem.run_bind, this, Result.andThen_ok, Sem.run_pure]
  · exact ⟨[], eh, by simp, rfl⟩
theorem e_rngI {t kt el : TypeId} {m : Operand} {v : Value} {l : List (κ × β)} (M : Mem w0 I0 I L w) (R : rdMp Q V I v l) (ht : P.underlying t = some (.map kt el)) (hm : evo e m = some v) :
    Eff P n ops ⟨dst, .range t m, ty, pos, af, none⟩ e w fun v' w' => ∃ r b, v' = .pointer (some ⟨r, 0, none⟩) ∧ v = .map (some b) ∧ Mem w0 I0 I (itr r b l [] :: L) w' := by
  obtain ⟨b, rfl, h⟩ := R
  have hE := e_rng (n := n) (ops := ops) (dst := dst) (ty := ty) (pos := pos) (af := af) (V := V) M (M.imm _ _ h) ht hm
  intro a ha
  have := hE a ha
  refine ⟨this.1, fun K Qx hk => this.2 K Qx fun v w' hp1 => hk v w' ?_⟩
  obtain ⟨r, rfl, M'⟩ := hp1
  exact ⟨r, b, rfl, rfl, M'⟩
theorem filterMap_map_id {γ : Type} (l : List (Option γ)) (d : List γ) (h : l = d.map some) : l.filterMap id = d := by
  subst h; induction d with
  | nil => rfl
  | cons x d ih => simp
theorem idx_perm {l done : List (κ × β)} {idx : List Nat} (hn : idx.Nodup) (hd : idx.map (fun i => l[i]?) = done.map some) (hall : ∀ i, i < l.length → i ∈ idx) : done.Perm l := by
  have hlt : ∀ i ∈ idx, i < l.length := fun i hi => by
    have : l[i]? ∈ done.map some := hd ▸ List.mem_map.2 ⟨i, hi, rfl⟩
    obtain ⟨p, _, hp⟩ := List.mem_map.1 this
    exact (List.getElem?_eq_some_iff.1 hp.symm).1
  have hp : idx.Perm (List.range l.length) := (List.perm_ext_iff_of_nodup hn List.nodup_range).2 fun i => ⟨fun h => List.mem_range.2 (hlt i h), fun h => hall i (List.mem_range.1 h)⟩
  have h1 := filterMap_map_id _ _ hd
  rw [List.filterMap_map] at h1
  have h2 : (List.range l.length).filterMap (id ∘ fun i => l[i]?) = l := by
    have : (List.range l.length).map (fun i => l[i]?) = l.map some := by
      apply List.ext_getElem?
      intro j
      by_cases hj : j < l.length
      · simp [hj]
      · simp [hj]
    have := filterMap_map_id _ _ this
    rwa [List.filterMap_map] at this
  rw [← h1]
  exact (hp.filterMap _).trans (by rw [h2])
theorem idx_len {l done : List (κ × β)} {idx : List Nat} (hn : idx.Nodup) (hd : idx.map (fun i => l[i]?) = done.map some) {j : Nat} (hj : j < l.length) (hji : j ∉ idx) : done.length < l.length := by
  have hlt : ∀ i ∈ idx, i < l.length := fun i hi => by
    have : l[i]? ∈ done.map some := hd ▸ List.mem_map.2 ⟨i, hi, rfl⟩
    obtain ⟨p, _, hp⟩ := List.mem_map.1 this
    exact (List.getElem?_eq_some_iff.1 hp.symm).1
  have e1 : done.length = idx.length := by have := congrArg List.length hd; simpa using this.symm
  have h2 : (j :: idx).Nodup := List.nodup_cons.2 ⟨hji, hn⟩
  have h3 : (j :: idx) ⊆ (List.range l.length) := fun i hi => List.mem_range.2 (by rcases List.mem_cons.1 hi with rfl | h; exact hj; exact hlt i h)
  have := h2.length_le_of_subset h3
  simp at this
  omega
theorem mem_ents {l : List (κ × Value)} {x : MapEntry} : ∀ {n : Nat}, x ∈ ents Q n l → ∃ j p, l[j]? = some p ∧ x = ⟨Q.val p.1, p.2, n + j⟩ := by
  intro n hx
  obtain ⟨j, hj⟩ := List.getElem?_of_mem hx
  rw [ents_get] at hj
  obtain ⟨p, hp1, rfl⟩ := Option.map_eq_some_iff.1 hj
  exact ⟨j, p, hp1, rfl⟩
theorem ents_born (l : List (κ × Value)) : ∀ n, ((ents Q n l).map (·.born)).Nodup := by
  induction l with
  | nil => intro n; simp [ents]
  | cons p l ih =>
    intro n
    obtain ⟨k, v⟩ := p
    simp only [ents, List.map_cons, List.nodup_cons]
    refine ⟨fun h => ?_, ih (n + 1)⟩
    obtain ⟨x, hx, hb⟩ := List.mem_map.1 h
    obtain ⟨j, p, _, rfl⟩ := mem_ents hx
    simp at hb
    omega
/-- The next entry, or none. -/
theorem e_nx (i : Nat) {it : Operand} {r b : Nat} {l done : List (κ × β)} (M : Mem w0 I0 I L w) (hb : hp w b = some (mobj Q V l)) (hi : L[i]? = some (itr r b l done)) (hit : evo e it = some (.pointer (some ⟨r, 0, none⟩))) :
    Eff P n ops ⟨dst, .next it false, ty, pos, af, none⟩ e w fun v w' => (v = .tuple #[.bool false] ∧ done.Perm l ∧ Mem w0 I0 I L w') ∨ ∃ p, p ∈ l ∧ done.length < l.length ∧ v = .tuple #[.bool true, Q.val p.1, V p.2] ∧ Mem w0 I0 I (L.set i (itr r b l (done ++ [p]))) w' := by
  replace hit := ev_of hit
  obtain ⟨idx, h1, h2, h3⟩ : ∃ idx : List Nat, hp w r = some (.mapIter (some b) l.length idx.toArray l.length) ∧ idx.Nodup ∧ idx.map (fun i => l[i]?) = done.map some := M.holds _ (getElem?_mem' hi)
  have hle : ∀ x ∈ (ents Q 0 (l.map fun p => (p.1, V p.2))).toArray.toList, x.born < l.length := fun x hx => by
    obtain ⟨j, p, hj, rfl⟩ := mem_ents (by simpa using hx)
    have := (List.getElem?_eq_some_iff.1 hj).1
    simpa using this
  rcases run_next_at (P := P) w ty r b l.length l.length idx.toArray _ _ h1 (show w.heap[b]? = some (.map (ents Q 0 (l.map fun p => (p.1, V p.2))).toArray (l.map fun p => (p.1, V p.2)).length) from hb) hle (Nat.le_refl _) with ⟨hz, hrun⟩ | ⟨x, hx, w1, hw1, hrun⟩
  · refine Eff.run (v := .tuple #[.bool false]) (w' := w) ?_ rfl (.inl ⟨rfl, idx_perm h2 h3 fun j hj => ?_, M⟩)
    · simp [execOp, hit, hrun]
    · have hmem : (⟨Q.val l[j].1, V l[j].2, 0 + j⟩ : MapEntry) ∈ (ents Q 0 (l.map fun p => (p.1, V p.2))).toArray.toList := by
        have := ents_get (Q := Q) 0 (l.map fun p => (p.1, V p.2)) j
        simp only [List.getElem?_map, List.getElem?_eq_getElem hj, Option.map_some] at this
        simpa using List.mem_of_getElem? this
      have := all_seen _ _ hz _ hmem
      simpa using this
  · obtain ⟨hm, hs⟩ := mem_left hx
    obtain ⟨j, p, hj, rfl⟩ := mem_ents (by simpa using hm)
    simp only [List.getElem?_map] at hj
    obtain ⟨q, hq, rfl⟩ := Option.map_eq_some_iff.1 hj
    have hji : j ∉ idx := by simpa using hs
    have hjl := (List.getElem?_eq_some_iff.1 hq).1
    have M1 : Mem w0 I0 I L w1 := by rcases hw1 with rfl | rfl; exact M; exact M.drew
    have hr1 : hp w1 r = some (.mapIter (some b) l.length idx.toArray l.length) := by rcases hw1 with rfl | rfl <;> exact h1
    refine Eff.run (v := .tuple #[.bool true, Q.val q.1, V q.2]) (w' := setBlock w1 r (.mapIter (some b) l.length (idx ++ [j]).toArray l.length)) ?_ rfl (.inr ⟨q, List.mem_of_getElem? hq, idx_len h2 h3 hjl hji, rfl, M1.upd i hi _ (chg_setBlock w1 r _) (by simp [itr]) (fun c hc => .inl hc) (fun c hc => ?_) ⟨idx ++ [j], ?_, ?_, ?_⟩⟩)
    · simp only [List.length_map, Nat.zero_add, List.push_toArray] at hrun
      simp only [execOp, hit, Sem.run_bind, hrun, Result.andThen_ok, Sem.run_pure]
    · exact Nat.lt_of_lt_of_le (M1.own (getElem?_mem' hi) hc).2.1 (chg_setBlock w1 r _).size
    · exact setBlock_heap hr1
    · exact List.nodup_append.2 ⟨h2, by simp, fun a ha c hc e => hji (by rw [List.mem_singleton.1 hc] at e; exact e ▸ ha)⟩
    · simp [h3, hq]
/-- The entry that the round stands at. -/
theorem q_ent (i : Nat) {it : Operand} {r b : Nat} {l done : List (κ × β)} {p : κ × β} (hb : ∀ w, Mem w0 I0 I L w → hp w b = some (mobj Q V l)) (hi : L[i]? = some (itr r b l (done ++ [p]))) (hit : evo e it = some (.pointer (some ⟨r, 0, none⟩))) :
    Quiet P n ops (Mem w0 I0 I L) ⟨dst, .entry it, ty, pos, af, none⟩ e (.tuple #[Q.val p.1, V p.2]) := by
  replace hit := ev_of hit
  refine q_of rfl fun w M => ?_
  obtain ⟨idx, h1, h2, h3⟩ : ∃ idx : List Nat, hp w r = some (.mapIter (some b) l.length idx.toArray l.length) ∧ idx.Nodup ∧ idx.map (fun i => l[i]?) = (done ++ [p]).map some := M.holds _ (getElem?_mem' hi)
  have hne : idx ≠ [] := fun h => by rw [h] at h3; simp at h3
  obtain ⟨idx', j, rfl⟩ : ∃ a j, idx = a ++ [j] := ⟨_, _, (List.dropLast_concat_getLast hne).symm⟩
  simp only [List.map_append, List.map_cons, List.map_nil] at h3
  have h4 := (List.append_inj' h3 rfl).2
  simp only [List.cons.injEq, and_true] at h4
  have hg := ents_get (Q := Q) 0 (l.map fun p => (p.1, V p.2)) j
  simp only [List.getElem?_map, h4, Option.map_some] at hg
  have := run_entry_at (P := P) w r b l.length idx'.toArray _ _ ⟨Q.val p.1, V p.2, 0 + j⟩ (by rw [show w.heap[r]? = _ from h1]; simp) (show w.heap[b]? = some (.map (ents Q 0 (l.map fun p => (p.1, V p.2))).toArray (l.map fun p => (p.1, V p.2)).length) from hb w M) (by simpa using List.mem_of_getElem? hg) (by simpa using ents_born (Q := Q) (l.map fun p => (p.1, V p.2)) 0)
  simp [execOp, hit, this]
end
end Go.Proofs.Ytfepjcmjkaolgaa.G

set_option linter.all false
namespace Go.Proofs.Ytfepjcmjkaolgaa.G
open Go Go.RowKit
open Go.ChangeMaps (setBlock)

section
variable {κ β γ : Type} [DecidableEq κ]
theorem flg_get : ∀ {l : List (κ × β)} {k : κ} {i : Nat} {v : β}, fl l k = some (i, v) → l[i]? = some (k, v)
  | [], k, i, v, h => by simp [fl] at h
  | (k', v0) :: l, k, i, v, h => by
    simp only [fl] at h
    split at h
    · rename_i he; cases h; simp [he]
    · obtain ⟨⟨j, x⟩, hj, he⟩ := Option.map_eq_some_iff.1 h
      cases he
      simpa using flg_get hj
theorem aput_at : ∀ {l : List (κ × β)} {k : κ} {i : Nat} {v : β}, fl l k = some (i, v) → ∀ x, aput l k x = l.set i (k, x)
  | [], k, i, v, h, x => by simp [fl] at h
  | (k', v0) :: l, k, i, v, h, x => by
    simp only [fl] at h
    split at h
    · rename_i he; cases h; simp [aput, he]
    · rename_i hne
      obtain ⟨⟨j, y⟩, hj, he⟩ := Option.map_eq_some_iff.1 h
      cases he
      simp [aput, hne, aput_at hj x]
theorem aput_same : ∀ {l : List (κ × β)} {k : κ} {i : Nat} {v : β}, fl l k = some (i, v) → aput l k v = l
  | [], k, i, v, h => by simp [fl] at h
  | (k', v0) :: l, k, i, v, h => by
    simp only [fl] at h
    split at h
    · rename_i he; cases h; simp [aput, he]
    · rename_i hne
      obtain ⟨⟨j, y⟩, hj, he⟩ := Option.map_eq_some_iff.1 h
      cases he
      simp [aput, hne, aput_same hj]
theorem zip_set {κ γ : Type} {k : κ} {u : γ} : ∀ {ks : List κ} {os : List γ} {j : Nat}, ks[j]? = some k → ks.zip (os.set j u) = (ks.zip os).set j (k, u)
  | [], _, _, h => by simp at h
  | _ :: _, [], j, h => by simp
  | k' :: ks, o :: os, 0, h => by simp at h; simp [h]
  | k' :: ks, o :: os, j + 1, h => by simp at h; simp [zip_set h]
theorem fl_zip : ∀ (g : List (κ × β)) (us : List γ) (k : κ), us.length = g.length → fl ((g.map (·.1)).zip us) k = (fl g k).bind fun p => (us[p.1]?).map fun u => (p.1, u)
  | [], us, k, h => by
    have : us = [] := by simpa using h
    subst this; rfl
  | (k', v) :: g, [], k, h => by simp at h
  | (k', v) :: g, u :: us, k, h => by
    simp only [List.map_cons, List.zip_cons_cons, fl]
    split
    · simp
    · rw [fl_zip g us k (by simpa using h)]
      cases fl g k with
      | none => rfl
      | some p => simp [Option.map_map]; rfl
end

section
def gk {κ α : Type} (g : List (κ × List α)) : List κ := g.map (·.1)
def gv {κ α : Type} (g : List (κ × List α)) : List (List α) := g.map (·.2)
variable {P : Program} {κ α : Type} [DecidableEq κ] (Q : KT P κ) (E : ET P α)
def gmap (b : Nat) (os us : List SV) (g : List (κ × List α)) : Res where
  blks := b :: oblks us
  holds h := h b = some (mobj Q sv ((gk g).zip os)) ∧ os.length ≤ g.length ∧ inner E us (gv g) h
  loc h h' e k := ⟨by rw [← e b (by simp)]; exact k.1, k.2.1, k.2.2.loc fun c hc => e c (by simp [hc])⟩
/-- A map of slices that is read. -/
def rdGm (h : Heap) (v : Value) (g : List (κ × List α)) : Prop := ∃ us : List SV, us.length = g.length ∧ rdMp Q sv h v ((gk g).zip us) ∧ ∀ (j : Nat) (u : SV) (p : κ × List α), us[j]? = some u → g[j]? = some p → rdSl E h (sv u) p.2
variable {Q E} in
theorem rdGm.mono {h h' : Heap} {v : Value} {g : List (κ × List α)} (k : hle h h') (r : rdGm Q E h v g) : rdGm Q E h' v g := by
  obtain ⟨us, h1, h2, h3⟩ := r
  exact ⟨us, h1, h2.mono k, fun j u p hu hx => (h3 j u p hu hx).mono k⟩
end

section
variable {P : Program} {n : Nat} {ops : Array Oper} {e : Env} {dst : Option Tmp} {ty : TypeId} {pos : String} {af : Array Edge} {w0 w : World} {I0 I : Heap} {L : List Res} {κ α : Type} [DecidableEq κ] {Q : KT P κ} {E : ET P α} {S : World → Prop}

theorem Mem.toGm (M : Mem w0 I0 I L w) (i : Nat) (E : ET P α) {b : Nat} (hi : L[i]? = some (mpr Q sv b [])) : Mem w0 I0 I (L.set i (gmap Q E b [] [] [])) w := by
  have h := M.mpAt i hi
  exact M.reval i hi _ (fun c hc => by simpa [gmap, oblks, mpr] using hc) (by simp [gmap, oblks]) ⟨h, Nat.le_refl _, rfl, fun j u xs hu => by simp at hu⟩
theorem Mem.gmAt (M : Mem w0 I0 I L w) {i : Nat} {b : Nat} {os us : List SV} {g : List (κ × List α)} (hi : L[i]? = some (gmap Q E b os us g)) : hp w b = some (mobj Q sv ((gk g).zip os)) := (M.holds _ (getElem?_mem' hi) : hp w b = _ ∧ _).1
theorem Mem.frzGm (M : Mem w0 I0 I L w) (i : Nat) {b : Nat} {us : List SV} {g : List (κ × List α)} (hi : L[i]? = some (gmap Q E b us us g)) : ∃ I', Mem w0 I0 I' (L.eraseIdx i) w ∧ hle I I' ∧ rdGm Q E I' (.map (some b)) g := by
  obtain ⟨h1, h2, h3⟩ := M.freeze i hi
  obtain ⟨h4, h5', h6⟩ : _ ∧ us.length ≤ g.length ∧ inner E us (gv g) _ := h3
  have h5 : us.length = g.length := by have := h6.1; simpa [gv] using this
  exact ⟨_, h1, h2, us, h5, ⟨b, rfl, h4⟩, fun j u p hu hx => (h6.2 j u p.2 hu (by simp [gv, hx])).rd⟩
/-- The entry for an append. -/
theorem e_gent (i : Nat) {t el : TypeId} {m x : Operand} {b : Nat} {us : List SV} {g : List (κ × List α)} {k : κ} (M : Mem w0 I0 I L w) (hi : L[i]? = some (gmap Q E b us us g)) (ht : P.underlying t = some (.map Q.T el)) (hz : zeroV P el = some (.slice none 0 0)) (hm : evo e m = some (.map (some b))) (hx : evo e x = some (Q.val k)) :
    Eff P n ops ⟨dst, .mapEntry t m x, ty, pos, af, none⟩ e w fun v w' => ∃ (us1 : List SV) (j : Nat) (u : SV), v = .tuple #[sv u, .int .i64 (j : Int)] ∧ us1[j]? = some u ∧ (aput g k ((aget g k).getD []))[j]? = some (k, (aget g k).getD []) ∧ (∀ ys, (aput g k ((aget g k).getD [])).set j (k, ys) = aput g k ys) ∧
      Mem w0 I0 I (L.set i (gmap Q E b us1 us1 (aput g k ((aget g k).getD [])))) w' := by
  replace hm := ev_of hm
  replace hx := ev_of hx
  have hri := getElem?_mem' hi
  obtain ⟨h0, h1', hin⟩ : hp w b = some (mobj Q sv ((gk g).zip us)) ∧ us.length ≤ g.length ∧ inner E us (gv g) (hp w) := M.holds _ hri
  have h1 : us.length = g.length := by have := hin.1; simpa [gv] using this
  have hrun := run_mapEntry (Q := Q) ht hz (show w.heap[b]? = some (mapObj Q _) from h0) k
  have hflz : fl ((gk g).zip us) k = _ := fl_zip g us k h1
  have hflm := fl_map sv ((gk g).zip us) k
  have hch := fun o => chg_setBlock w b o
  have hnd : (b :: oblks us).Nodup := M.resNodup hri
  cases hf : fl g k with
  | none =>
    have hg : aget g k = none := by rw [← fl_aget, hf]; rfl
    rw [hf] at hflz
    simp only [Option.bind_none] at hflz
    rw [hflz] at hflm
    simp only [Option.map_none] at hflm
    have ha : aget (((gk g).zip us).map fun p => (p.1, sv p.2)) k = none := by rw [← fl_aget, hflm]; rfl
    have hst : stampOf (((gk g).zip us).map fun p => (p.1, sv p.2)) k = g.length := by
      unfold stampOf
      rw [hflm]
      simp [gk, h1]
    rw [ha, hst, aput_new ha] at hrun
    simp only [Option.getD_none] at hrun
    have hg1 : aput g k ((aget g k).getD []) = g ++ [(k, [])] := by rw [hg]; exact aput_new hg
    rw [hg1, hg]
    have hobj : mapObj Q ((((gk g).zip us).map fun p => (p.1, sv p.2)) ++ [(k, .slice none 0 0)]) = mobj Q sv ((gk (g ++ [(k, ([] : List α))])).zip (us ++ [nilV])) := by
      rw [mobj, gk, gk, List.map_append, List.zip_append (by simp [h1])]; simp [sv, nilV]
    rw [hobj] at hrun
    refine Eff.run (v := .tuple #[sv nilV, .int .i64 (g.length : Int)]) (w' := _) (by simp only [execOp, hm, hx, Sem.run_bind, hrun, Result.andThen_ok, Sem.run_pure]; rfl) rfl ⟨us ++ [nilV], g.length, nilV, rfl, by simp [← h1], by simp, fun ys => by simp [aput_new hg], M.upd i hi _ ⟨(hch _).os, (hch _).tape, (hch _).output, (hch _).size, fun c hc hn => (hch _).block c hc fun h => hn (by simp [gmap, List.mem_singleton.1 h]), (hch _).dr⟩ ?_ (fun c hc => .inl ?_) (fun c hc => ?_) ⟨setBlock_heap h0, by simp [h1], ?_⟩⟩
    · simpa [gmap, oblks, sv, nilV, Value.ownBlock] using hnd
    · simpa [gmap, oblks, sv, nilV, Value.ownBlock] using hc
    · exact Nat.lt_of_lt_of_le (M.own hri (by simpa [gmap, oblks, sv, nilV, Value.ownBlock] using hc)).2.1 (hch _).size
    · refine ⟨by simp [gv, h1], fun j u xs hu hxs => ?_⟩
      rw [List.getElem?_append] at hu
      rw [gv, List.map_append, List.getElem?_append] at hxs
      simp only [List.length_map, ← h1] at hxs
      split at hu
      · rename_i hlt
        simp only [hlt, if_true] at hxs
        refine (row E (sv u) xs).loc _ _ (fun c hc => ((hch _).block c (M.own hri (by simp [gmap, mem_oblks hu hc])).2.1 fun h => ?_).symm) (hin.2 j u xs hu hxs)
        rw [List.mem_singleton.1 h] at hc
        exact (List.nodup_cons.1 hnd).1 (mem_oblks hu hc)
      · rename_i hlt
        simp only [hlt, if_false] at hxs
        have h2 : u = nilV := by cases hh : (j - us.length) with | zero => simpa [hh, eq_comm] using hu | succ x => simp [hh] at hu
        have h3 : xs = [] := by cases hh : (j - us.length) with | zero => simpa [hh, eq_comm] using hxs | succ x => simp [hh] at hxs
        subst h2 h3
        exact rowHolds_nil _
  | some q =>
    obtain ⟨j, xs⟩ := q
    have hg : aget g k = some xs := by rw [← fl_aget, hf]; rfl
    have hgj := flg_get hf
    have hjl := (List.getElem?_eq_some_iff.1 hgj).1
    have hu : us[j]? = some us[j] := List.getElem?_eq_getElem (by omega)
    rw [hf] at hflz
    simp only [Option.bind_some, hu, Option.map_some] at hflz
    rw [hflz] at hflm
    simp only [Option.map_some] at hflm
    have ha : aget (((gk g).zip us).map fun p => (p.1, sv p.2)) k = some (sv us[j]) := by rw [← fl_aget, hflm]; rfl
    have hst : stampOf (((gk g).zip us).map fun p => (p.1, sv p.2)) k = j := by simp [stampOf, hflm]
    rw [ha, hst] at hrun
    simp only [Option.getD_some] at hrun
    rw [aput_same hflm] at hrun
    have hg1 : aput g k ((aget g k).getD []) = g := by rw [hg]; exact aput_same hf
    rw [hg1, hg]
    simp only [Option.getD_some]
    refine Eff.run (v := .tuple #[sv us[j], .int .i64 (j : Int)]) (w' := setBlock w b (mobj Q sv ((gk g).zip us))) (by simp only [execOp, hm, hx, Sem.run_bind, hrun, Result.andThen_ok, Sem.run_pure]; rfl) rfl ⟨us, j, us[j], rfl, hu, hgj, fun ys => (aput_at hf ys).symm, M.upd i hi _ ⟨(hch _).os, (hch _).tape, (hch _).output, (hch _).size, fun c hc hn => (hch _).block c hc fun h => hn (by simp [gmap, List.mem_singleton.1 h]), (hch _).dr⟩ hnd (fun c hc => .inl hc) (fun c hc => Nat.lt_of_lt_of_le (M.own hri hc).2.1 (hch _).size) ⟨setBlock_heap h0, Nat.le_of_eq h1, hin.loc fun c hc => ((hch _).block c (M.own hri (by simp [gmap, hc])).2.1 fun h => ?_).symm⟩⟩
    rw [List.mem_singleton.1 h] at hc
    exact (List.nodup_cons.1 hnd).1 hc
/-- append onto an entry's row. -/
theorem e_gapp (i j : Nat) {t : TypeId} {x y : Operand} {b : Nat} {av : Value} {os vs : List SV} {g : List (κ × List α)} {u : SV} {k : κ} {xs ys : List α} (M : Mem w0 I0 I L w) (hi : L[i]? = some (gmap Q E b os vs g)) (ht : P.underlying t = some (.slice E.T)) (hu : vs[j]? = some u) (hg : g[j]? = some (k, xs)) (hx : evo e x = some (sv u)) (hy : evo e y = some (av)) (ha : rdSl E I av ys) (hb : (xs.length + ys.length) * E.by' ≤ 140737488355328) :
    Eff P n ops ⟨dst, .call { callee := .builtin .append, args := #[x, y], argTypes := #[t, t] }, ty, pos, af, none⟩ e w fun v1 w' => ∃ u', v1 = sv u' ∧ Mem w0 I0 I (L.set i (gmap Q E b os (vs.set j u') (g.set j (k, xs ++ ys)))) w' := by
  replace hx := ev_of hx
  replace hy := ev_of hy
  have hri := getElem?_mem' hi
  obtain ⟨h0, h01, hin⟩ : hp w b = some (mobj Q sv ((gk g).zip os)) ∧ os.length ≤ g.length ∧ inner E vs (gv g) (hp w) := M.holds _ hri
  have hxs : (gv g)[j]? = some xs := by simp [gv, hg]
  obtain ⟨v', w', hrun, h1, h2, h3⟩ := run_append (s0 := sv u) (ty := ty) M.imm ht (hin.2 j u xs hu hxs) ha hb
  obtain ⟨u', rfl⟩ := rowHolds_slice h1
  have hnd : (b :: oblks vs).Nodup := M.resNodup hri
  obtain ⟨n1, n2⟩ := List.nodup_cons.1 hnd
  have hlt : ∀ c ∈ b :: oblks vs, c < w.heap.size := fun c hc => (M.own hri hc).2.1
  have hjl : j < vs.length := (List.getElem?_eq_some_iff.1 hu).1
  have hjg : j < g.length := (List.getElem?_eq_some_iff.1 hg).1
  have hsub : ∀ c ∈ oblks (vs.set j u'), c ∈ oblks vs ∨ w.heap.size ≤ c := fun c hc => by
    rcases oblks_set_sub hc with h | ⟨k', _, y', hk, hy'⟩
    · rcases (h3 c h).1 with h' | h'
      · exact .inl (mem_oblks hu h')
      · exact .inr h'
    · exact .inl (mem_oblks hk hy')
  have hkeys : gk (g.set j (k, xs ++ ys)) = gk g := by
    simp only [gk, List.map_set]
    apply List.ext_getElem?
    intro c
    rw [List.getElem?_set]
    split
    · rename_i he; subst he
      have : g[j].1 = k := by have := List.getElem?_eq_getElem hjg; rw [hg] at this; exact (congrArg Prod.fst (Option.some.inj this)).symm
      simp [hjg, this]
    · rfl
  refine Eff.run (v := sv u') (w' := w') ?_ rfl ⟨u', rfl, M.upd i hi _ ?_ ?_ ?_ ?_ ?_⟩
  · simp only [execOp, resolve, invoke, builtin, Sem.run_bind, Sem.run_pure, Result.andThen_ok, List.map_toArray, List.map_cons, List.map_nil, hx, hy, hrun]
  · exact ⟨h2.os, h2.tape, h2.output, h2.size, fun c hc hcn => h2.block c hc fun hcu => hcn (List.mem_cons.2 (.inr (mem_oblks hu hcu))), h2.dr⟩
  · show (b :: oblks (vs.set j u')).Nodup
    refine List.nodup_cons.2 ⟨fun hc => ?_, flat_set_nodup n2 (fun c hc => hlt c (by simp [hc])) hu (fun c hc => (h3 c hc).1)⟩
    rcases hsub b hc with h | h
    · exact n1 h
    · have := hlt b (by simp); omega
  · intro c hc
    rcases List.mem_cons.1 hc with rfl | hc
    · exact .inl (by simp [gmap])
    · exact (hsub c hc).imp (fun h => List.mem_cons.2 (.inr h)) id
  · intro c hc
    rcases List.mem_cons.1 hc with rfl | hc
    · exact Nat.lt_of_lt_of_le (hlt c (by simp)) h2.size
    · rcases oblks_set_sub hc with h | ⟨k', _, y', hk, hy'⟩
      · exact (h3 c h).2
      · exact Nat.lt_of_lt_of_le (hlt c (List.mem_cons.2 (.inr (mem_oblks hk hy')))) h2.size
  · have hkeep : ∀ c, c < w.heap.size → c ∉ (sv u).ownBlock.toList → hp w c = hp w' c := fun c hc hn => (h2.block c hc hn).symm
    refine ⟨?_, by simp [h01], ⟨by simp [gv, hin.1] , fun k' y zs hk hz => ?_⟩⟩
    · rw [hkeys, ← hkeep b (hlt b (by simp)) fun h => n1 (mem_oblks hu h)]
      exact h0
    · rw [gv, List.map_set] at hz
      rw [List.getElem?_set] at hk hz
      by_cases hkj : j = k'
      · subst hkj
        simp only [if_true, hjl, List.length_map, hjg] at hk hz
        cases hk; cases hz
        exact h1
      · rw [if_neg hkj] at hk hz
        exact (row E (sv y) zs).loc _ _ (fun c hc => hkeep c (hlt c (List.mem_cons.2 (.inr (mem_oblks hk hc)))) (oblks_apart n2 hu hk (fun e => hkj e.symm) c hc)) (hin.2 k' y zs hk hz)
theorem ents_set (n : Nat) : ∀ (l : List (κ × Value)) (j : Nat) (k : κ) (v : Value), (∃ v0, l[j]? = some (k, v0)) → (ents Q n l).modify j (fun e => { e with val := v }) = ents Q n (l.set j (k, v)) := by
  intro l j k v h
  apply List.ext_getElem?
  intro c
  rw [ents_get, List.getElem?_modify, ents_get, List.getElem?_set]
  obtain ⟨v0, hv⟩ := h
  have hl := (List.getElem?_eq_some_iff.1 hv).1
  by_cases e : j = c
  · subst e
    have : l[j] = (k, v0) := by have := List.getElem?_eq_getElem hl; rw [hv] at this; exact (Option.some.inj this).symm
    simp [hl, this]
  · simp [e]
theorem run_entryStoreAt {t : TypeId} {w : World} {b : Nat} {l : List (κ × Value)} {j : Nat} {k : κ} {v0 : Value} (v : Value) (hb : w.heap[b]? = some (mapObj Q l)) (hj : l[j]? = some (k, v0)) :
    (Instr.entryStore t (.map (some b)) (.int .i64 (j : Int)) v).run P w = .ok () (setBlock w b (mapObj Q (l.set j (k, v)))) := by
  have hi := (List.getElem?_eq_some_iff.1 hj).1
  have hfi := findIdx_born (Q := Q) 0 l j hi
  simp only [Nat.zero_add] at hfi
  have hfi' : (ents Q 0 l).toArray.findIdx? (fun e => (e.born : Int) == (j : Int)) = some j := by simpa using hfi
  have hai : (asInt (.int .i64 (j : Int))).run P w = .ok (j : Int) w := by simp [asInt, asIntOf]
  have hgb : (getObj b).run P w = .ok (.map (ents Q 0 l).toArray l.length) w := run_getObj_map' hb
  simp only [Instr.entryStore, Sem.run_bind, hgb, Result.andThen_ok, hai, hfi', run_setObj_map hb, mapObj, ← ents_set 0 l j k v ⟨v0, hj⟩, List.length_set]
  simp
/-- The entry's write. -/
theorem e_gst (i j : Nat) {t : TypeId} {m x y : Operand} {b : Nat} {os vs : List SV} {g : List (κ × List α)} {u : SV} (M : Mem w0 I0 I L w) (hi : L[i]? = some (gmap Q E b os vs g)) (hj : j < g.length) (hjo : j < os.length) (hm : evo e m = some (.map (some b))) (hx : evo e x = some (.int .i64 (j : Int))) (hy : evo e y = some (sv u)) :
    Eff P n ops ⟨dst, .entryStore t m x y, ty, pos, af, none⟩ e w fun _ w' => Mem w0 I0 I (L.set i (gmap Q E b (os.set j u) vs g)) w' := by
  replace hm := ev_of hm
  replace hx := ev_of hx
  replace hy := ev_of hy
  have hri := getElem?_mem' hi
  obtain ⟨h0, h01, hin⟩ : hp w b = some (mobj Q sv ((gk g).zip os)) ∧ os.length ≤ g.length ∧ inner E vs (gv g) (hp w) := M.holds _ hri
  have hnd : (b :: oblks vs).Nodup := M.resNodup hri
  have hko : (gk g)[j]? = some g[j].1 := by simp [gk, hj]
  have hoo : os[j]? = some os[j] := List.getElem?_eq_getElem (by omega)
  have hz : (((gk g).zip os).map fun p => (p.1, sv p.2))[j]? = some (g[j].1, sv os[j]) := by
    rw [List.getElem?_map, (List.getElem?_zip_eq_some (z := (g[j].1, os[j]))).2 ⟨hko, hoo⟩]; rfl
  have hrun := run_entryStoreAt (Q := Q) (t := t) (sv u) (show w.heap[b]? = some (mapObj Q _) from h0) hz
  have hl : ((((gk g).zip os).map fun p => (p.1, sv p.2)).set j (g[j].1, sv u)) = ((gk g).zip (os.set j u)).map fun p => (p.1, sv p.2) := by
    rw [zip_set hko, List.map_set]
  rw [hl] at hrun
  have hch := fun o => chg_setBlock w b o
  refine Eff.run0 (w' := setBlock w b (mobj Q sv ((gk g).zip (os.set j u)))) (by simp only [execOp, hm, hx, hy, Sem.run_bind, hrun, Result.andThen_ok, Sem.run_pure]; rfl) rfl (M.upd i hi _ ⟨(hch _).os, (hch _).tape, (hch _).output, (hch _).size, fun c hc hn => (hch _).block c hc fun h => hn (by simp [gmap, List.mem_singleton.1 h]), (hch _).dr⟩ hnd (fun c hc => .inl hc) (fun c hc => Nat.lt_of_lt_of_le (M.own hri hc).2.1 (hch _).size) ⟨setBlock_heap h0, by simp [h01], hin.loc fun c hc => ((hch _).block c (M.own hri (by simp [gmap, hc])).2.1 fun h => ?_).symm⟩)
  rw [List.mem_singleton.1 h] at hc
  exact (List.nodup_cons.1 hnd).1 hc
theorem aget_zip {β γ : Type} (g : List (κ × β)) (us : List γ) (k : κ) (h : us.length = g.length) : (aget g k = none ∧ aget ((g.map (·.1)).zip us) k = none) ∨ ∃ (j : Nat) (u : γ) (x : β), us[j]? = some u ∧ g[j]? = some (k, x) ∧ aget g k = some x ∧ aget ((g.map (·.1)).zip us) k = some u := by
  have h1 := fl_zip g us k h
  rw [← fl_aget, ← fl_aget]
  cases hf : fl g k with
  | none => rw [hf] at h1; exact .inl ⟨rfl, by rw [h1]; rfl⟩
  | some p =>
    obtain ⟨j, x⟩ := p
    have hg := flg_get hf
    have hu : us[j]? = some (us[j]'(by have := (List.getElem?_eq_some_iff.1 hg).1; omega)) := List.getElem?_eq_getElem _
    rw [hf] at h1
    simp only [Option.bind_some, hu, Option.map_some] at h1
    exact .inr ⟨j, _, x, hu, hg, rfl, by rw [h1]; rfl⟩
/-- What a key's row reads as, in a map that is read. -/
theorem rdGm.look {h : Heap} {v : Value} {g : List (κ × List α)} (r : rdGm Q E h v g) (k : κ) : ∃ (l : List (κ × SV)), rdMp Q sv h v l ∧ rdSl E h (sv ((aget l k).getD nilV)) ((aget g k).getD []) := by
  obtain ⟨us, h1, h2, h3⟩ := r
  refine ⟨_, h2, ?_⟩
  rcases aget_zip g us k h1 with ⟨e1, e2⟩ | ⟨j, u, x, hu, hg, e1, e2⟩
  · rw [gk, e1, e2]; exact rdSl_nil h
  · rw [gk, e1, e2]; exact h3 j u _ hu hg
/-- The lookup itself. -/
theorem wl_lkg {K : Env → World → Prop} {rest : List Oper} {l : List (Nat × Value)} {b : Env} {d : Nat} {t el : TypeId} {m x : Operand} {v : Value} {g : List (κ × List α)} {k : κ} (M : Mem w0 I0 I L w) (R : rdGm Q E I v g) (ht : P.underlying t = some (.map Q.T el)) (hz : zeroV P el = some (.slice none 0 0)) (hm : evo (look l b) m = some v) (hx : evo (look l b) x = some (Q.val k)) (hn : Nat.blt d n = true)
    (h : ∀ u : SV, rdSl E I (sv u) ((aget g k).getD []) → WL P n ops K rest (look ((d, sv u) :: l) b) w) : WL P n ops K (⟨some d, .lookup t m x false, ty, pos, af, none⟩ :: rest) (look l b) w := by
  obtain ⟨l', h1, h2⟩ := R.look k
  exact wl_q (q_lkI (z := nilV) h1 ht hz hm hx) M rfl hn (h _ h2)
end
end Go.Proofs.Ytfepjcmjkaolgaa.G

set_option linter.all false
namespace Go.Proofs.Ytfepjcmjkaolgaa.G
open Go Go.RowKit
open Go.ChangeMaps (setBlock)
section
variable {P : Program} {n : Nat} {ops : Array Oper} {e : Env} {dst : Option Tmp} {ty : TypeId} {pos : String} {af : Array Edge} {w0 w : World} {I0 I : Heap} {L : List Res} {κ α : Type} [DecidableEq κ] {Q : KT P κ} {E : ET P α} {S : World → Prop}
theorem mkS {F : World → Prop} (M : Mem w0 I0 I L w) (h : F w) : Mem w0 I0 I L w ∧ F w := ⟨M, h⟩
theorem gk_set {g : List (κ × List α)} {j : Nat} {k : κ} {xs ys : List α} (h : g[j]? = some (k, xs)) : gk (g.set j (k, ys)) = gk g := by
  simp only [gk, List.map_set]
  apply List.ext_getElem?
  intro c
  rw [List.getElem?_set]
  have hjg := (List.getElem?_eq_some_iff.1 h).1
  split
  · rename_i he; subst he
    have : g[j].1 = k := by have := List.getElem?_eq_getElem hjg; rw [h] at this; exact (congrArg Prod.fst (Option.some.inj this)).symm
    simp [hjg, this]
  · rfl
/-- A key's row made ready: it is there, if only as a nil row that nobody has written yet. -/
theorem Mem.gmReady (M : Mem w0 I0 I L w) (i : Nat) {b : Nat} {us : List SV} {g : List (κ × List α)} (hi : L[i]? = some (gmap Q E b us us g)) (k : κ) : ∃ (us1 : List SV) (j : Nat) (u : SV), us1[j]? = some u ∧ (aput g k ((aget g k).getD []))[j]? = some (k, (aget g k).getD []) ∧ (∀ ys, (aput g k ((aget g k).getD [])).set j (k, ys) = aput g k ys) ∧
    (aget ((gk (aput g k ((aget g k).getD []))).zip us) k).getD nilV = u ∧ (∀ u', aput ((gk (aput g k ((aget g k).getD []))).zip us) k u' = (gk (aput g k ((aget g k).getD []))).zip (us1.set j u')) ∧ Mem w0 I0 I (L.set i (gmap Q E b us us1 (aput g k ((aget g k).getD [])))) w := by
  have hri := getElem?_mem' hi
  obtain ⟨h0, h1', hin⟩ : hp w b = some (mobj Q sv ((gk g).zip us)) ∧ us.length ≤ g.length ∧ inner E us (gv g) (hp w) := M.holds _ hri
  have h1 : us.length = g.length := by have := hin.1; simpa [gv] using this
  have hnd : (b :: oblks us).Nodup := M.resNodup hri
  have hflz : fl ((gk g).zip us) k = _ := fl_zip g us k h1
  cases hf : fl g k with
  | none =>
    have hg : aget g k = none := by rw [← fl_aget, hf]; rfl
    rw [hf] at hflz
    simp only [Option.bind_none] at hflz
    have hg1 : aput g k ((aget g k).getD []) = g ++ [(k, [])] := by rw [hg]; exact aput_new hg
    have hz : (gk (g ++ [(k, ([] : List α))])).zip us = (gk g).zip us := by
      rw [gk, List.map_append, ← List.append_nil us, List.zip_append (by simp [h1])]
      simp [gk]
    have ha : aget ((gk g).zip us) k = none := by rw [← fl_aget, hflz]; rfl
    rw [hg1, hg, hz]
    refine ⟨us ++ [nilV], g.length, nilV, by simp [← h1], by simp, fun ys => by simp [aput_new hg], by rw [ha]; rfl, fun u' => ?_, M.reval i hi _ (fun c hc => ?_) ?_ ⟨by rw [hz]; exact h0, by simp [h1], ⟨by simp [gv, h1], fun j u xs hu hxs => ?_⟩⟩⟩
    · rw [aput_new ha, gk, gk, List.map_append, ← h1, List.set_append_right _ _ (Nat.le_refl _), Nat.sub_self, List.zip_append (by simp [h1])]
      simp
    · simpa [gmap, oblks, sv, nilV, Value.ownBlock] using hc
    · simpa [gmap, oblks, sv, nilV, Value.ownBlock] using hnd
    · rw [List.getElem?_append] at hu
      rw [gv, List.map_append, List.getElem?_append] at hxs
      simp only [List.length_map, ← h1] at hxs
      split at hu
      · rename_i hlt
        simp only [hlt, if_true] at hxs
        exact hin.2 j u xs hu hxs
      · rename_i hlt
        simp only [hlt, if_false] at hxs
        have h2 : u = nilV := by cases hh : (j - us.length) with | zero => simpa [hh, eq_comm] using hu | succ x => simp [hh] at hu
        have h3 : xs = [] := by cases hh : (j - us.length) with | zero => simpa [hh, eq_comm] using hxs | succ x => simp [hh] at hxs
        subst h2 h3
        exact rowHolds_nil _
  | some q =>
    obtain ⟨j, xs⟩ := q
    have hg : aget g k = some xs := by rw [← fl_aget, hf]; rfl
    have hgj := flg_get hf
    have hjl := (List.getElem?_eq_some_iff.1 hgj).1
    have hu : us[j]? = some us[j] := List.getElem?_eq_getElem (by omega)
    rw [hf] at hflz
    simp only [Option.bind_some, hu, Option.map_some] at hflz
    have hg1 : aput g k ((aget g k).getD []) = g := by rw [hg]; exact aput_same hf
    rw [hg1, hg]
    simp only [Option.getD_some]
    have hkj : (gk g)[j]? = some k := by simp [gk, hgj]
    refine ⟨us, j, us[j], hu, hgj, fun ys => (aput_at hf ys).symm, by rw [← fl_aget, hflz]; rfl, fun u' => ?_, ?_⟩
    · rw [aput_at hflz, zip_set hkj]
    · have : L.set i (gmap Q E b us us g) = L := by
        apply List.ext_getElem?
        intro c
        rw [List.getElem?_set]
        split
        · rename_i he; subst he
          split
          · exact hi.symm
          · rename_i hh; rw [List.getElem?_eq_none (by omega)]
        · rfl
      rw [this]; exact M
theorem Mem.gmVs (M : Mem w0 I0 I L w) {i : Nat} {b : Nat} {os us : List SV} {g : List (κ × List α)} (hi : L[i]? = some (gmap Q E b os us g)) : us.length = g.length := by
  have h : hp w b = _ ∧ os.length ≤ g.length ∧ inner E us (gv g) (hp w) := M.holds _ (getElem?_mem' hi)
  have := h.2.2.1; simpa [gv] using this
/-- The lookup of a row made ready. -/
theorem q_lkgS {t el : TypeId} {m x : Operand} {b : Nat} {l : List (κ × SV)} {k : κ} {u : SV} (R : ∀ w, S w → hp w b = some (mobj Q sv l)) (hu : (aget l k).getD nilV = u) (ht : P.underlying t = some (.map Q.T el)) (hz : zeroV P el = some (.slice none 0 0)) (hm : evo e m = some (.map (some b))) (hx : evo e x = some (Q.val k)) :
    Quiet P n ops S ⟨dst, .lookup t m x false, ty, pos, af, none⟩ e (sv u) := by
  subst hu
  exact q_lkS (z := nilV) R ht hz hm hx
/-- The update that follows the append. -/
theorem e_gmu (i : Nat) {t el : TypeId} {m x y : Operand} {b : Nat} {os vs os' : List SV} {g : List (κ × List α)} {k : κ} {u : SV} {zs : List (κ × SV)} (M : Mem w0 I0 I L w) (hi : L[i]? = some (gmap Q E b os vs g)) (hz : (gk g).zip os = zs) (hup : aput zs k u = (gk g).zip os') (hol : os'.length ≤ g.length) (ht : P.underlying t = some (.map Q.T el)) (hm : evo e m = some (.map (some b))) (hx : evo e x = some (Q.val k)) (hy : evo e y = some (sv u)) :
    Eff P n ops ⟨dst, .mapUpdate t m x y, ty, pos, af, none⟩ e w fun _ w' => Mem w0 I0 I (L.set i (gmap Q E b os' vs g)) w' := by
  replace hm := ev_of hm
  replace hx := ev_of hx
  replace hy := ev_of hy
  have hri := getElem?_mem' hi
  obtain ⟨h0, h01, hin⟩ : hp w b = some (mobj Q sv ((gk g).zip os)) ∧ os.length ≤ g.length ∧ inner E vs (gv g) (hp w) := M.holds _ hri
  have hnd : (b :: oblks vs).Nodup := M.resNodup hri
  rw [hz] at h0
  have hrun := run_mapUpdate (Q := Q) ht (show w.heap[b]? = some (mapObj Q _) from h0) k (sv u)
  rw [← aput_map sv, hup] at hrun
  have hch := fun o => chg_setBlock w b o
  refine Eff.run0 (w' := setBlock w b (mobj Q sv ((gk g).zip os'))) (by simp only [execOp, hm, hx, hy, Sem.run_bind, hrun, Result.andThen_ok, Sem.run_pure]; rfl) rfl (M.upd i hi _ ⟨(hch _).os, (hch _).tape, (hch _).output, (hch _).size, fun c hc hn => (hch _).block c hc fun h => hn (by simp [gmap, List.mem_singleton.1 h]), (hch _).dr⟩ hnd (fun c hc => .inl hc) (fun c hc => Nat.lt_of_lt_of_le (M.own hri hc).2.1 (hch _).size) ⟨setBlock_heap h0, hol, hin.1, fun j' y zs' hk hz' => ?_⟩)
  refine (row E (sv y) zs').loc _ _ (fun c hc => ((hch _).block c (M.own hri (by simp [gmap, mem_oblks hk hc])).2.1 fun h => ?_).symm) (hin.2 j' y zs' hk hz')
  rw [List.mem_singleton.1 h] at hc
  exact (List.nodup_cons.1 hnd).1 (mem_oblks hk hc)
/-- A map of slices that is read, as a map of slices' words. -/
theorem rdGm.opn {h : Heap} {v : Value} {g : List (κ × List α)} (r : rdGm Q E h v g) (hn : (gk g).Nodup) : ∃ l : List (κ × SV), rdMp Q sv h v l ∧ l.map (·.1) = gk g ∧ ∀ p ∈ l, rdSl E h (sv p.2) ((aget g p.1).getD []) := by
  obtain ⟨us, h1, h2, h3⟩ := r
  refine ⟨_, h2, ?_, fun p hp => ?_⟩
  · rw [List.map_fst_zip]; simp [gk, h1]
  · obtain ⟨j, hj⟩ := List.getElem?_of_mem hp
    obtain ⟨h4, h5⟩ := List.getElem?_zip_eq_some.1 hj
    obtain ⟨q, hq, e⟩ := Option.map_eq_some_iff.1 (by simpa [gk] using h4 : (g[j]?).map (·.1) = some p.1)
    have := h3 j p.2 q h5 hq
    have hm : aget g p.1 = some q.2 := (aget_mem hn).2 (by rw [← e]; exact List.mem_of_getElem? hq)
    rw [hm]; exact this
end
section
variable {P : Program} {n : Nat} {ops : Array Oper} {ty : TypeId} {pos : String} {af : Array Go.Edge} {w0 w : World} {I0 I : Heap} {L : List Res} {κ α : Type} [DecidableEq κ] {Q : KT P κ} {E : ET P α} {S : World → Prop}
/-- The lookup of a row, where the order is drawn. -/
theorem wa_lkg {F : List Nat} {K : Env → World → Prop} {l : List (Nat × Value)} {b : Env} {d fuel : Nat} {listed : Array Bool} {t el : TypeId} {m x : Operand} {v : Value} {g : List (κ × List α)} {k : κ} (i : Nat) (hi : ops[i]? = some ⟨some d, .lookup t m x false, ty, pos, af, none⟩) (hs : may ops F listed i = true) (hM : ∀ w, S w → Mem w0 I0 I L w)
    (R : rdGm Q E I v g) (ht : P.underlying t = some (.map Q.T el)) (hz : zeroV P el = some (.slice none 0 0)) (hm : evo (look l b) m = some v) (hx : evo (look l b) x = some (Q.val k)) (hS : S w) (hn : Nat.blt d n = true)
    (h : ∀ u : SV, rdSl E I (sv u) ((aget g k).getD []) → WA P n ops S F K fuel (listed.setIfInBounds i true) (look ((d, sv u) :: l) b) w) : WA P n ops S F K (fuel + 1) listed (look l b) w := by
  obtain ⟨l', h1, h2⟩ := R.look k
  exact wa_q i hi hs ((q_lkI (z := nilV) h1 ht hz hm hx).mono hM) hS rfl hn (h _ h2)
end
end Go.Proofs.Ytfepjcmjkaolgaa.G

set_option linter.all false
namespace Go.Proofs.Ytfepjcmjkaolgaa.G
open Go Go.RowKit
def takeV (u : SV) (k : Nat) : SV := (u.1, k, u.2.2)
section
variable {P : Program} {n : Nat} {ops : Array Oper} {e : Env} {dst : Option Tmp} {ty : TypeId} {pos : String} {af : Array Edge} {w0 w : World} {I0 I : Heap} {L : List Res} {α : Type} {E : ET P α} {S : World → Prop}
theorem all_get (xs : List α) (t : Nat) (ht : t < xs.length * E.sz) : ∃ x v, xs[t / E.sz]? = some x ∧ (E.cells x)[t % E.sz]? = some v ∧ (E.all xs)[t]? = some v := by
  have hp := E.pos
  have hd : t / E.sz < xs.length := Nat.div_lt_of_lt_mul (by rw [Nat.mul_comm]; exact ht)
  have hx := List.getElem?_eq_getElem hd
  have hm : t % E.sz < (E.cells xs[t / E.sz]).length := by rw [E.len]; exact Nat.mod_lt _ hp
  refine ⟨_, _, hx, List.getElem?_eq_getElem hm, ?_⟩
  rw [E.all_split xs hx]
  have hl : (E.all (xs.take (t / E.sz))).length = t / E.sz * E.sz := by rw [E.all_length, List.length_take, Nat.min_eq_left (by omega)]
  have ht2 : t = t / E.sz * E.sz + t % E.sz := by rw [Nat.mul_comm]; exact (Nat.div_add_mod t E.sz).symm
  rw [List.append_assoc, List.getElem?_append_right (by rw [hl]; omega), hl, List.getElem?_append_left (by rw [E.len] at hm ⊢; omega)]
  rw [show t - t / E.sz * E.sz = t % E.sz by omega]
  exact List.getElem?_eq_getElem hm
theorem q_takeV {t : TypeId} {x y : Operand} {kd : IntKind} {u : SV} {k : Nat} (ht : P.underlying t = some (.slice E.T)) (hx : evo e x = some (sv u)) (hy : evo e y = some (.int kd (k : Int))) (hk : k ≤ u.2.2) :
    Quiet P n ops S ⟨dst, .slice t x none (some y) none, ty, pos, af, none⟩ e (sv (takeV u k)) := by
  replace hx := ev_of hx
  replace hy := ev_of hy
  obtain ⟨A, m, c⟩ := u
  obtain ⟨i, z, hi, hsz, _⟩ := E.info
  refine q_of rfl fun w _ => ?_
  have hk' : (k : Int) ≤ (c : Int) := by have : k ≤ c := hk; omega
  have h0 : (0 : Int) ≤ (k : Int) := by omega
  have hA : (if c = 0 then A else A.map (·.add 0)) = A := by
    split
    · rfl
    · cases A with
      | none => rfl
      | some a => simp [Addr.add]
  have : (Instr.slice t (.slice A m c) none (some (.int kd (k : Int))) none).run P w = .ok (.slice A k c) w := by
    have hkc : k ≤ c := hk
    simp [Instr.slice, run_underlying ht, Instr.sliceBounds, Instr.sliceBound, asIntOf, hkc, sizeOf, typeInfo, hi, hsz, hA]
  simp only [execOp, Sem.run_bind, Instr.sliceAt, run_underlying ht, Result.andThen_ok, Option.map_some, Option.map_none, hx, hy, sv, this, Sem.run_pure, takeV]
end
/-! structs that are compared -/
structure EqT (P : Program) (κ : Type) [DecidableEq κ] where
  T : TypeId
  cells : κ → List Value
  eq : ∀ w a b, (Op.equalIn 10000 T (.agg (cells a).toArray) (.agg (cells b).toArray)).run P w = .ok (decide (a = b)) w
  gd : P.eqGuardType P.depth T = false
def EqT.ints {P : Program} {κ : Type} [DecidableEq κ] (T : TypeId) (qs : List IntKind) (g : κ → List Int) (f : κ → List Value) (fs : Array Field) (hu : P.underlying T = some (.struct fs)) (hp : P.stoodInHeld T = false) (hfs : intFlds P fs.toList 0 = true) (hq : qs.length = fs.toList.length)
    (hg : ∀ k, (g k).length = fs.toList.length) (hf : ∀ k, ivals qs (g k) = f k) (hinj : ∀ a b, g a = g b → a = b) (gd : P.eqGuardType P.depth T = false) : EqT P κ where
  T := T
  cells := f
  gd := gd
  eq w a b := by
    have hfo : P.fieldsOf T = fs := by simp [Program.fieldsOf, hu]
    show (Op.equalIn (9999 + 1) T _ _).run P w = _
    rw [run_equalIn_struct w 9999 T _ _ (by rw [hfo]; exact hu) hp, hfo]
    rw [run_eqFields_ints fs.toList 0 (g a) (g b) hfs (hg a) (hg b) (fun j x y h1 h2 => by
      rw [← hf a, ← hf b]
      obtain ⟨q, hq1, h1⟩ := ivals_get (qs := qs) (by rw [hq, hg]) h1
      obtain ⟨q', hq2, h2⟩ := ivals_get (qs := qs) (by rw [hq, hg]) h2
      rw [hq1] at hq2
      cases hq2
      exact ⟨q, by simpa using h1, by simpa using h2⟩)]
    congr 1
    by_cases e : a = b
    · subst e; simp
    · have : ¬ g a = g b := fun x => e (hinj a b x)
      simp [e, this]
section
variable {P : Program} {n : Nat} {ops : Array Oper} {e : Env} {dst : Option Tmp} {ty : TypeId} {pos : String} {af : Array Edge} {S : World → Prop} {κ : Type} [DecidableEq κ]
theorem q_neqK (K : EqT P κ) (x y : κ) {T T2 : TypeId} {X Y : Operand} (hT : K.T = T) (hx : evo e X = some (.agg (K.cells x).toArray)) (hy : evo e Y = some (.agg (K.cells y).toArray)) : Quiet P n ops S ⟨dst, .binOp .neq T X Y T2, ty, pos, af, none⟩ e (.bool (!decide (x = y))) := by
  subst hT
  replace hx := ev_of hx
  replace hy := ev_of hy
  refine q_of rfl fun w _ => ?_
  simp only [execOp, hx, hy, Sem.run_bind, run_eqGuard_agg w .neq K.T X Y _ _ K.gd, Result.andThen_ok, run_neq_struct, K.eq, Sem.run_pure]
end
/-! a resource at the front -/
theorem Mem.perm {w0 w : World} {I0 I : Heap} {L L' : List Res} (M : Mem w0 I0 I L w) (h : L.Perm L') : Mem w0 I0 I L' w :=
  ⟨M.below, M.old, M.imm, (h.flatMap_right Res.blks).nodup_iff.1 M.nodup, fun b hb => M.mine b ((h.flatMap_right Res.blks).mem_iff.2 hb), fun r hr => M.holds r (h.mem_iff.2 hr), M.dr⟩
end Go.Proofs.Ytfepjcmjkaolgaa.G
