/- Walk library, part 6 (maps of one's own): key types, lookups, writes, rounds over the entries in whatever order. Plain theorems over any program. -/
import Derived.Test.YtmjieefhjmiagaaDoorGMat
import Derived.Maps.RangeRun
import Derived.Maps.Keyed
import Derived.Laws.StructEq
set_option linter.all false
namespace Go.Proofs.YtmjieefhjmiagaaDoor.G
open Go Go.RowKit
open Go.ChangeMaps (setBlock)

/-! ### lists of pairs -/
section
variable {κ β : Type} [DecidableEq κ]
def aget : List (κ × β) → κ → Option β
  | [], _ => none
  | (k', v) :: l, k => if k' = k then some v else aget l k
def aput : List (κ × β) → κ → β → List (κ × β)
  | [], k, v => [(k, v)]
  | (k', v') :: l, k, v => if k' = k then (k, v) :: l else (k', v') :: aput l k v
def fl : List (κ × β) → κ → Option (Nat × β)
  | [], _ => none
  | (k', v) :: l, k => if k' = k then some (0, v) else (fl l k).map fun p => (p.1 + 1, p.2)
theorem fl_aget (l : List (κ × β)) (k : κ) : (fl l k).map (·.2) = aget l k := by
  induction l with
  | nil => rfl
  | cons p l ih =>
    obtain ⟨k', v⟩ := p
    simp only [fl, aget]
    split
    · rfl
    · rw [← ih, Option.map_map]; rfl
theorem fl_map {γ : Type} (f : β → γ) (l : List (κ × β)) (k : κ) : fl (l.map fun p => (p.1, f p.2)) k = (fl l k).map fun p => (p.1, f p.2) := by
  induction l with
  | nil => rfl
  | cons p l ih =>
    obtain ⟨k', v⟩ := p
    simp only [List.map_cons, fl]
    split
    · rfl
    · rw [ih, Option.map_map, Option.map_map]; rfl
theorem aput_map {γ : Type} (f : β → γ) (l : List (κ × β)) (k : κ) (v : β) : (aput l k v).map (fun p => (p.1, f p.2)) = aput (l.map fun p => (p.1, f p.2)) k (f v) := by
  induction l with
  | nil => rfl
  | cons p l ih =>
    obtain ⟨k', v'⟩ := p
    simp only [List.map_cons, aput]
    split
    · rfl
    · rw [List.map_cons, ih]
theorem aget_aput (l : List (κ × β)) (k k2 : κ) (v : β) : aget (aput l k v) k2 = if k = k2 then some v else aget l k2 := by
  induction l with
  | nil => simp [aput, aget]
  | cons p l ih =>
    obtain ⟨k', v'⟩ := p
    simp only [aput]
    by_cases h : k' = k
    · subst h
      simp only [if_true, aget]
      split <;> rfl
    · simp only [if_neg h, aget, ih]
      by_cases h2 : k' = k2
      · have : ¬ k = k2 := fun e => h (h2.trans e.symm)
        simp [h2, this]
      · simp [h2]
theorem aput_new {l : List (κ × β)} {k : κ} {v : β} (h : aget l k = none) : aput l k v = l ++ [(k, v)] := by
  induction l with
  | nil => rfl
  | cons p l ih =>
    obtain ⟨k', v'⟩ := p
    simp only [aget] at h
    split at h
    · cases h
    · rename_i hne
      simp [aput, hne, ih h]
theorem aget_none {l : List (κ × β)} {k : κ} : aget l k = none ↔ k ∉ l.map (·.1) := by
  induction l with
  | nil => simp [aget]
  | cons p l ih =>
    obtain ⟨k', v'⟩ := p
    simp only [aget, List.map_cons, List.mem_cons, not_or]
    split
    · rename_i h; simp [h]
    · rename_i h; rw [ih]; exact ⟨fun g => ⟨fun e => h e.symm, g⟩, fun g => g.2⟩
theorem keys_aput (l : List (κ × β)) (k : κ) (v : β) : (aput l k v).map (·.1) = if k ∈ l.map (·.1) then l.map (·.1) else l.map (·.1) ++ [k] := by
  induction l with
  | nil => simp [aput]
  | cons p l ih =>
    obtain ⟨k', v'⟩ := p
    simp only [aput]
    by_cases h : k' = k
    · subst h; simp
    · have h' : ¬ k = k' := fun e => h e.symm
      simp only [if_neg h, List.map_cons, ih, List.mem_cons, h', false_or]
      split <;> simp
theorem nodup_aput {l : List (κ × β)} (h : (l.map (·.1)).Nodup) (k : κ) (v : β) : ((aput l k v).map (·.1)).Nodup := by
  rw [keys_aput]
  split
  · exact h
  · rename_i hn
    exact List.nodup_append.2 ⟨h, by simp, fun a ha b hb e => hn (by rw [List.mem_singleton.1 hb] at e; exact e ▸ ha)⟩
theorem aget_mem {l : List (κ × β)} (h : (l.map (·.1)).Nodup) {k : κ} {v : β} : aget l k = some v ↔ (k, v) ∈ l := by
  induction l with
  | nil => simp [aget]
  | cons p l ih =>
    obtain ⟨k', v'⟩ := p
    simp only [List.map_cons, List.nodup_cons] at h
    simp only [aget, List.mem_cons, Prod.mk.injEq]
    split
    · rename_i he
      subst he
      constructor
      · intro e; cases e; exact .inl ⟨rfl, rfl⟩
      · rintro (⟨_, rfl⟩ | hm)
        · rfl
        · exact absurd (List.mem_map.2 ⟨_, hm, rfl⟩) h.1
    · rename_i hne
      rw [ih h.2]
      exact ⟨.inr, fun e => e.elim (fun e => absurd e.1.symm hne) id⟩
end

/-! ### key types -/
structure KT (P : Program) (κ : Type) [DecidableEq κ] where
  T : TypeId
  val : κ → Value
  check : ∀ em w k, (Instr.checkKey em 10000 T (val k)).run P w = .ok () w
  find : ∀ (w : World) (k : κ) (l : List (κ × Value)) (es : List MapEntry), es.map (fun e => (e.key, e.val)) = l.map (fun p => (val p.1, p.2)) → (Instr.findKey T (val k) es).run P w = .ok (fl l k) w
  stays : ∀ k, Instr.sameBits 10000 (val k) (val k) = true

section
variable {P : Program}
theorem findNow_of {κ : Type} [DecidableEq κ] {val : κ → Value} {d : TypeDesc} (hs : ∀ a b, Instr.sameNow d (val a) (val b) = some (decide (b = a))) (k : κ) : ∀ (l : List (κ × Value)) (es : List MapEntry) (i : Nat), es.map (fun e => (e.key, e.val)) = l.map (fun p => (val p.1, p.2)) →
    Instr.findNow d (val k) es i = some ((fl l k).map fun p => (i + p.1, p.2))
  | [], [], i, _ => rfl
  | [], _ :: _, i, h => by simp at h
  | _ :: _, [], i, h => by simp at h
  | (k', v) :: l, e :: es, i, h => by
    simp only [List.map_cons, List.cons.injEq, Prod.mk.injEq] at h
    obtain ⟨⟨h1, h2⟩, h3⟩ := h
    simp only [Instr.findNow, h1, hs, fl]
    by_cases he : k' = k
    · simp [he, h2]
    · simp only [he, decide_false, if_false]
      rw [findNow_of hs k l es (i + 1) h3, Option.map_map]
      congr 1
      congr 1
      funext p
      simp only [Function.comp]
      congr 1
      omega
theorem findAsking_of {κ : Type} [DecidableEq κ] {val : κ → Value} {T : TypeId} (hs : ∀ w a b, (Op.equal T (val a) (val b)).run P w = .ok (decide (a = b)) w) (w : World) (k : κ) : ∀ (l : List (κ × Value)) (es : List MapEntry) (i : Nat), es.map (fun e => (e.key, e.val)) = l.map (fun p => (val p.1, p.2)) →
    (Instr.findAsking T (val k) es i).run P w = .ok ((fl l k).map fun p => (i + p.1, p.2)) w
  | [], [], i, _ => rfl
  | [], _ :: _, i, h => by simp at h
  | _ :: _, [], i, h => by simp at h
  | (k', v) :: l, e :: es, i, h => by
    simp only [List.map_cons, List.cons.injEq, Prod.mk.injEq] at h
    obtain ⟨⟨h1, h2⟩, h3⟩ := h
    simp only [Instr.findAsking, Sem.run_bind, h1, hs, Result.andThen_ok, fl, Sem.run_ite]
    by_cases he : k = k'
    · simp [he, h2]
    · have he' : ¬ k' = k := fun x => he x.symm
      simp only [he, he', decide_false, if_false, Bool.false_eq_true]
      rw [findAsking_of hs w k l es (i + 1) h3, Option.map_map]
      congr 1
      congr 1
      funext p
      simp only [Function.comp]
      congr 1
      omega
theorem run_ck_int {em : Bool} (n : Nat) {T : TypeId} {q q2 : IntKind} {a : Int} (hu : P.underlying T = some (.int q)) (w : World) : (Instr.checkKey em (n + 1) T (.int q2 a)).run P w = .ok () w := by
  simp [Instr.checkKey, run_underlying hu]
theorem run_ck_str {em : Bool} (n : Nat) {T : TypeId} {a : ByteArray} (hu : P.underlying T = some .string) (w : World) : (Instr.checkKey em (n + 1) T (.string a)).run P w = .ok () w := by
  simp [Instr.checkKey, run_underlying hu]
theorem sb_int (n : Nat) (q : IntKind) (a : Int) : Instr.sameBits n (.int q a) (.int q a) = true := by cases n <;> simp [Instr.sameBits]
theorem sb_str (n : Nat) (a : ByteArray) : Instr.sameBits n (.string a) (.string a) = true := by
  have : (a == a) = true := by rw [beq_toListBytes]; simp
  cases n <;> simpa [Instr.sameBits] using this
theorem toList_inj' {a b : ByteArray} (h : a.toList = b.toList) : a = b := by
  rw [ByteArray.toList_eq, ByteArray.toList_eq] at h
  obtain ⟨⟨x⟩⟩ := a
  obtain ⟨⟨y⟩⟩ := b
  simp at h
  rw [h]
theorem sn_str (a b : ByteArray) : Instr.sameNow .string (.string a) (.string b) = some (decide (b = a)) := by
  simp only [Instr.sameNow, Option.some.injEq, beq_toListBytes]
  by_cases e : b = a
  · subst e; simp
  · have : ¬ a.toList = b.toList := fun h => e (toList_inj' h).symm
    simp [e, this]
theorem run_eqi {d : Nat} {t : TypeId} {q1 q : IntKind} {a b : Int} (w : World) (hu : P.underlying t = some (.int q)) : (Op.equalIn (d + 1) t (.int q1 a) (.int q1 b)).run P w = .ok (a == b) w := by
  simp [Op.equalIn, run_underlying hu]
/-- Whole numbers as keys. -/
def KT.int (T : TypeId) (q : IntKind) (hu : P.underlying T = some (.int q)) : KT P Int where
  T := T
  val n := .int q n
  check em w k := run_ck_int 9999 hu w
  find w k l es h := by
    have := findNow_of (val := fun n : Int => Value.int q n) (d := .int q) (fun a b => by simp [Instr.sameNow, eq_comm, Bool.beq_eq_decide_eq]) k l es 0 h
    simp [Instr.findKey, run_underlying hu, this]
  stays k := sb_int _ _ _
/-- Strings as keys. -/
def KT.str (T : TypeId) (hu : P.underlying T = some .string) : KT P ByteArray where
  T := T
  val s := .string s
  check em w k := run_ck_str 9999 hu w
  find w k l es h := by
    have := findNow_of (val := fun n : ByteArray => Value.string n) (d := .string) (fun a b => sn_str a b) k l es 0 h
    simp [Instr.findKey, run_underlying hu, this]
  stays k := sb_str _ _

theorem sb_ints (l : List Value) (h : l.all (fun v => match v with | .int _ _ => true | _ => false) = true) : Instr.sameBits 10000 (.agg l.toArray) (.agg l.toArray) = true := by
  have hz : (l.zip l).all (fun (x, y) => Instr.sameBits 9999 x y) = true := by
    rw [List.all_eq_true]
    rintro ⟨x, y⟩ hxy
    have e : x = y := by
      obtain ⟨i, hi⟩ := List.getElem?_of_mem hxy
      obtain ⟨h1, h2⟩ := List.getElem?_zip_eq_some.1 hi
      rw [h1] at h2
      exact Option.some.inj h2
    subst e
    have := List.all_eq_true.1 h x (List.of_mem_zip hxy).1
    cases x <;> first | exact sb_int _ _ _ | simp at this
  show (l.toArray.size == l.toArray.size && (l.toArray.toList.zip l.toArray.toList).all fun (x, y) => Instr.sameBits 9999 x y) = true
  rw [List.toList_toArray, hz]
  simp
/-! structs of whole numbers -/
def intFlds (P : Program) : List Field → Nat → Bool
  | [], _ => true
  | f :: fs, i => (f.name != "_") && (Nat.beq f.offset i && ((match P.underlying f.type with | some (.int _) => true | _ => false) && intFlds P fs (i + 1)))
def ivals : List IntKind → List Int → List Value
  | q :: qs, a :: as => .int q a :: ivals qs as
  | _, _ => []
theorem ivals_get : ∀ {qs : List IntKind} {as : List Int} {j : Nat} {a : Int}, qs.length = as.length → as[j]? = some a → ∃ q, qs[j]? = some q ∧ (ivals qs as)[j]? = some (.int q a)
  | [], [], j, a, _, h => by simp at h
  | [], _ :: _, j, a, hl, h => by simp at hl
  | _ :: _, [], j, a, hl, h => by simp at hl
  | q :: qs, b :: as, 0, a, _, h => by simp at h; subst h; exact ⟨q, rfl, rfl⟩
  | q :: qs, b :: as, j + 1, a, hl, h => by simp at h hl; exact ivals_get (qs := qs) hl h
theorem run_part_int {t : TypeId} {q : IntKind} (hu : P.underlying t = some (.int q)) {cs : Array Value} {o : Nat} {v : Value} (hv : cs[o]? = some v) (w : World) : (part t cs o).run P w = .ok v w := by
  have hagg : (isAgg t).run P w = .ok false w := by
    unfold isAgg
    rw [Sem.run_bind, run_underlying hu w]
    rfl
  simp [part, Sem.run_bind, hagg, hv]
theorem run_eqFields_ints {d : Nat} {xs ys : Array Value} {w : World} : ∀ (fs : List Field) (i : Nat) (as bs : List Int), intFlds P fs i = true → as.length = fs.length → bs.length = fs.length →
    (∀ j a b, as[j]? = some a → bs[j]? = some b → ∃ q, xs[i + j]? = some (.int q a) ∧ ys[i + j]? = some (.int q b)) → (Op.eqFields (d + 1) xs ys fs).run P w = .ok (decide (as = bs)) w
  | [], i, as, bs, _, ha, hb, _ => by
    have : as = [] := by simpa using ha
    have : bs = [] := by simpa using hb
    subst_vars
    simp [Op.eqFields]
  | f :: fs, i, [], _, _, ha, _, _ => by simp at ha
  | f :: fs, i, _, [], _, _, hb, _ => by simp at hb
  | f :: fs, i, a :: as, b :: bs, hf, ha, hb, hx => by
    simp only [intFlds, Bool.and_eq_true, bne_iff_ne] at hf
    obtain ⟨h1, h2, h3, h4⟩ := hf
    have h2 := Nat.eq_of_beq_eq_true h2
    split at h3
    · rename_i q hu
      obtain ⟨q1, hq1, hq2⟩ := hx 0 a b rfl rfl
      simp only [Nat.add_zero] at hq1 hq2
      simp only [Op.eqFields, Sem.run_ite, ne_eq, h1, not_false_iff, if_true, Sem.run_bind, h2, run_part_int hu hq1, run_part_int hu hq2, Result.andThen_ok, run_eqi (P := P) (d := d) (t := f.type) (q1 := q1) (q := q) (a := a) (b := b) w hu]
      by_cases hab : a = b
      · subst hab
        simp only [beq_self_eq_true, Bool.not_true, Bool.false_eq_true, if_false]
        rw [run_eqFields_ints fs (i + 1) as bs h4 (by simpa using ha) (by simpa using hb) (fun j a' b' e e' => by have := hx (j + 1) a' b' (by simpa using e) (by simpa using e'); rwa [show i + (j + 1) = i + 1 + j by omega] at this)]
        simp
      · have : (a == b) = false := by simpa using hab
        simp [this, hab]
    · cases h3
theorem run_checkKey_flds {em : Bool} {m : Nat} {xs : Array Value} {w : World} : ∀ (fs : List Field) (i : Nat), intFlds P fs i = true → (∀ j, j < fs.length → ∃ v, xs[i + j]? = some v) →
    (forIn fs PUnit.unit fun f (_ : PUnit) => (if f.name ≠ "_" then (do Instr.checkKey em (m + 1) f.type (← part f.type xs f.offset); pure (ForInStep.yield PUnit.unit)) else pure (ForInStep.yield PUnit.unit) : Sem (ForInStep PUnit))).run P w = .ok PUnit.unit w
  | [], _, _, _ => by simp
  | f :: fs, i, hf, hx => by
    simp only [intFlds, Bool.and_eq_true, bne_iff_ne] at hf
    obtain ⟨h1, h2, h3, h4⟩ := hf
    have h2 := Nat.eq_of_beq_eq_true h2
    split at h3
    · rename_i q hu
      obtain ⟨v, hv⟩ := hx 0 (by simp)
      simp only [Nat.add_zero] at hv
      have hc : (Instr.checkKey em (m + 1) f.type v).run P w = .ok () w := by simp [Instr.checkKey, run_underlying hu]
      simp only [List.forIn_cons, ne_eq, h1, not_false_iff, if_true, Sem.run_bind, h2, run_part_int hu hv, Result.andThen_ok, hc, Sem.run_pure]
      have := run_checkKey_flds (em := em) (m := m) (xs := xs) (w := w) fs (i + 1) h4 (fun j hj => by have := hx (j + 1) (by simpa using hj); rwa [show i + (j + 1) = i + 1 + j by omega] at this)
      simpa only [ne_eq] using this
    · cases h3
/-- A struct of whole numbers as a key. -/
def KT.ints {κ : Type} [DecidableEq κ] (T : TypeId) (qs : List IntKind) (g : κ → List Int) (f : κ → List Value) (fs : Array Field) (hu : P.underlying T = some (.struct fs)) (hp : P.stoodInHeld T = false) (hfs : intFlds P fs.toList 0 = true) (hq : qs.length = fs.toList.length)
    (hg : ∀ k, (g k).length = fs.toList.length) (hf : ∀ k, ivals qs (g k) = f k) (hinj : ∀ a b, g a = g b → a = b) (hst : ∀ k, Instr.sameBits 10000 (.agg (f k).toArray) (.agg (f k).toArray) = true) : KT P κ where
  T := T
  val k := .agg (f k).toArray
  stays := hst
  check em w k := by
    have hget : ∀ j, j < fs.toList.length → ∃ v, (f k).toArray[0 + j]? = some v := fun j hj => by
      rw [← hf k]
      obtain ⟨q, _, h⟩ := ivals_get (qs := qs) (as := g k) (j := j) (a := (g k)[j]'(by rw [hg]; exact hj)) (by rw [hq, hg]) (by simp)
      exact ⟨_, by simpa using h⟩
    have := run_checkKey_flds (P := P) (em := em) (m := 9998) (xs := (f k).toArray) (w := w) fs.toList 0 hfs hget
    have hall : ∀ n, (Instr.checkKey em (n + 1) T (.agg (f k).toArray)).run P w = (forIn fs.toList PUnit.unit fun f' (_ : PUnit) => (if f'.name ≠ "_" then (do Instr.checkKey em n f'.type (← part f'.type (f k).toArray f'.offset); pure (ForInStep.yield PUnit.unit)) else pure (ForInStep.yield PUnit.unit) : Sem (ForInStep PUnit))).run P w := fun n => by
      simp only [Instr.checkKey, Sem.run_bind, run_underlying hu, Result.andThen_ok]
      rw [← Array.forIn_toList]
      generalize (forIn fs.toList PUnit.unit _ : Sem PUnit).run P w = r
      cases r <;> simp [Result.andThen]
    exact (hall 9999).trans this
  find w k l es h := by
    have heq : ∀ w a b, (Op.equal T (.agg (f a).toArray) (.agg (f b).toArray)).run P w = .ok (decide (a = b)) w := fun w a b => by
      have hfo : P.fieldsOf T = fs := by simp [Program.fieldsOf, hu]
      show (Op.equalIn (9999 + 1) T _ _).run P w = _
      rw [run_equalIn_struct w 9999 T _ _ (by rw [hfo]; exact hu) hp, hfo]
      rw [run_eqFields_ints fs.toList 0 (g a) (g b) hfs (hg a) (hg b) (fun j x y h1 h2 => by
        rw [← hf a, ← hf b]
        obtain ⟨q, hq1, h1⟩ := ivals_get (qs := qs) (by rw [hq, hg]) h1
        obtain ⟨q', hq2, h2⟩ := ivals_get (qs := qs) (by rw [hq, hg]) h2
        rw [hq1] at hq2
        cases hq2
        exact ⟨q, by simpa using h1, by simpa using h2⟩)]
      congr 1
      by_cases e : a = b
      · subst e; simp
      · have : ¬ g a = g b := fun x => e (hinj a b x)
        simp [e, this]
    have h1 := findAsking_of (P := P) (T := T) (val := fun k => Value.agg (f k).toArray) heq w k l es 0 h
    simp only [Nat.zero_add] at h1
    simp only [Instr.findKey, Sem.run_bind, run_underlying hu, Result.andThen_ok]
    cases es with
    | nil =>
      have : l = [] := by cases l with | nil => rfl | cons p l => simp at h
      subst this
      simp [Instr.findNow, fl]
    | cons e es =>
      simp only [Instr.findNow, Instr.sameNow, h1]
      simp
end

/-! ### a map's block -/
section
variable {P : Program} {κ : Type} [DecidableEq κ] (Q : KT P κ)
def ents : Nat → List (κ × Value) → List MapEntry
  | _, [] => []
  | n, (k, v) :: l => ⟨Q.val k, v, n⟩ :: ents (n + 1) l
variable {Q}
theorem ents_kv : ∀ (n : Nat) (l : List (κ × Value)), (ents Q n l).map (fun e => (e.key, e.val)) = l.map (fun p => (Q.val p.1, p.2))
  | _, [] => rfl
  | n, (k, v) :: l => by simp [ents, ents_kv (n + 1) l]
theorem ents_len : ∀ (n : Nat) (l : List (κ × Value)), (ents Q n l).length = l.length
  | _, [] => rfl
  | n, (k, v) :: l => by simp [ents, ents_len (n + 1) l]
theorem ents_get : ∀ (n : Nat) (l : List (κ × Value)) (j : Nat), (ents Q n l)[j]? = (l[j]?).map fun p => ⟨Q.val p.1, p.2, n + j⟩
  | _, [], j => by simp [ents]
  | n, (k, v) :: l, 0 => by simp [ents]
  | n, (k, v) :: l, j + 1 => by simp [ents, ents_get (n + 1) l j, show n + 1 + j = n + (j + 1) by omega]
theorem ents_new : ∀ (n : Nat) (l : List (κ × Value)) (k : κ) (v : Value), fl l k = none → ents Q n l ++ [⟨Q.val k, v, n + l.length⟩] = ents Q n (aput l k v)
  | _, [], k, v, _ => by simp [ents, aput]
  | n, (k', v') :: l, k, v, h => by
    simp only [fl] at h
    split at h
    · cases h
    · rename_i hne
      simp only [Option.map_eq_none_iff] at h
      simp only [aput, if_neg hne, ents, List.cons_append, ← ents_new (n + 1) l k v h, List.length_cons]
      rw [show n + 1 + l.length = n + (l.length + 1) by omega]
theorem ents_old : ∀ (n : Nat) (l : List (κ × Value)) (k : κ) (v : Value) (i : Nat) (v' : Value), fl l k = some (i, v') → (ents Q n l).modify i (fun e => { e with key := Q.val k, val := v }) = ents Q n (aput l k v)
  | _, [], k, v, i, v', h => by simp [fl] at h
  | n, (k', v0) :: l, k, v, i, v', h => by
    simp only [fl] at h
    split at h
    · rename_i he
      cases h
      simp [ents, aput, he]
    · rename_i hne
      obtain ⟨⟨j, x⟩, hj, he⟩ := Option.map_eq_some_iff.1 h
      cases he
      simp [ents, aput, if_neg hne, ← ents_old (n + 1) l k v j x hj]
theorem fl_get : ∀ {l : List (κ × Value)} {k : κ} {i : Nat} {v : Value}, fl l k = some (i, v) → l[i]? = some (k, v)
  | [], k, i, v, h => by simp [fl] at h
  | (k', v0) :: l, k, i, v, h => by
    simp only [fl] at h
    split at h
    · rename_i he; cases h; simp [he]
    · obtain ⟨⟨j, x⟩, hj, he⟩ := Option.map_eq_some_iff.1 h
      cases he
      simpa using fl_get hj
theorem aput_len : ∀ (l : List (κ × Value)) (k : κ) (v : Value), (aput l k v).length = match fl l k with | some _ => l.length | none => l.length + 1
  | [], k, v => rfl
  | (k', v0) :: l, k, v => by
    simp only [aput, fl]
    split
    · simp
    · simp only [List.length_cons, aput_len l k v]
      cases fl l k <;> simp

/-- The object of a map. -/
def mapObj (Q : KT P κ) (l : List (κ × Value)) : Obj := .map (ents Q 0 l).toArray l.length
theorem run_find (l : List (κ × Value)) (k : κ) (w : World) : (Instr.findKey Q.T (Q.val k) (ents Q 0 l)).run P w = .ok (fl l k) w := Q.find w k l _ (ents_kv 0 l)
theorem run_stays (k : κ) (w : World) : (Instr.keyThatStays (Q.val k) (Q.val k)).run P w = .ok (Q.val k) w := by
  simp [Instr.keyThatStays, Q.stays k]
theorem run_setObj_map {w : World} {b : Nat} {es : Array MapEntry} {c : Nat} (hb : w.heap[b]? = some (.map es c)) (o' : Obj) : (setObj b o').run P w = .ok () (setBlock w b o') := by
  simp [setObj, Sem.run, hb, setBlock]
theorem run_getObj_map' {w : World} {b : Nat} {l : List (κ × Value)} (hb : w.heap[b]? = some (mapObj Q l)) : (getObj b).run P w = .ok (mapObj Q l) w := by
  simp [getObj, Sem.run, hb, mapObj]
/-- A write. -/
theorem run_mapUpdate {t el : TypeId} {w : World} {b : Nat} {l : List (κ × Value)} (ht : P.underlying t = some (.map Q.T el)) (hb : w.heap[b]? = some (mapObj Q l)) (k : κ) (v : Value) :
    (Instr.mapUpdate t (.map (some b)) (Q.val k) v).run P w = .ok () (setBlock w b (mapObj Q (aput l k v))) := by
  simp only [Instr.mapUpdate, Sem.run_bind, run_underlying ht, Result.andThen_ok, run_getObj_map' hb, mapObj, Q.check, List.toList_toArray, run_find]
  have hlen := aput_len l k v
  cases h : fl l k with
  | none =>
    simp only [h] at hlen
    have := ents_new (Q := Q) 0 l k v h
    rw [Nat.zero_add] at this
    simp only [run_setObj_map hb, hlen, ← this]
    simp
  | some p =>
    obtain ⟨i, v'⟩ := p
    simp only [h] at hlen
    have hg := ents_get (Q := Q) 0 l i
    rw [fl_get h] at hg
    have : (ents Q 0 l).toArray[i]? = some ⟨Q.val k, v', 0 + i⟩ := by simpa using hg
    simp only [this, Option.map_some, Option.getD_some, Sem.run_bind, run_stays, Result.andThen_ok, run_setObj_map hb, hlen, ← ents_old (Q := Q) 0 l k v i v' h]
    simp
/-- A lookup. -/
theorem run_lookup {t el : TypeId} {w : World} {b : Nat} {l : List (κ × Value)} {z : Value} (ht : P.underlying t = some (.map Q.T el)) (hz : (P.info? el).bind (·.zero) = some z) (hb : w.heap[b]? = some (mapObj Q l)) (k : κ) (c : Bool) :
    (Instr.lookup t (.map (some b)) (Q.val k) c).run P w = .ok (if c then .tuple #[(aget l k).getD z, .bool (aget l k).isSome] else (aget l k).getD z) w := by
  have hz' : (zeroValue el).run P w = .ok z w := by
    obtain ⟨i, hi, hzi⟩ := Option.bind_eq_some_iff.1 hz
    simp [zeroValue, typeInfo, hi, hzi]
  simp only [Instr.lookup, Sem.run_bind, run_underlying ht, Result.andThen_ok, run_getObj_map' hb, mapObj, Sem.run_pure, Q.check, List.toList_toArray, run_find]
  rw [← fl_aget]
  cases h : fl l k with
  | none => simp [hz']
  | some p => simp
theorem run_lookup_nil {t el : TypeId} {w : World} {z : Value} (ht : P.underlying t = some (.map Q.T el)) (hz : (P.info? el).bind (·.zero) = some z) (k : κ) (c : Bool) :
    (Instr.lookup t (.map none) (Q.val k) c).run P w = .ok (if c then .tuple #[z, .bool false] else z) w := by
  have hz' : (zeroValue el).run P w = .ok z w := by
    obtain ⟨i, hi, hzi⟩ := Option.bind_eq_some_iff.1 hz
    simp [zeroValue, typeInfo, hi, hzi]
  have := Q.find w k [] [] rfl
  simp [Instr.lookup, run_underlying ht, Q.check, this, fl, hz']
def stampOf (l : List (κ × Value)) (k : κ) : Nat := ((fl l k).map (·.1)).getD l.length
/-- An entry for a write to come. -/
theorem run_mapEntry {t el : TypeId} {w : World} {b : Nat} {l : List (κ × Value)} {z : Value} (ht : P.underlying t = some (.map Q.T el)) (hz : (P.info? el).bind (·.zero) = some z) (hb : w.heap[b]? = some (mapObj Q l)) (k : κ) :
    (Instr.mapEntry t (.map (some b)) (Q.val k)).run P w = .ok (.tuple #[(aget l k).getD z, goInt (stampOf l k : Nat)]) (setBlock w b (mapObj Q (aput l k ((aget l k).getD z)))) := by
  have hz' : ∀ w, (zeroValue el).run P w = .ok z w := fun w => by
    obtain ⟨i, hi, hzi⟩ := Option.bind_eq_some_iff.1 hz
    simp [zeroValue, typeInfo, hi, hzi]
  simp only [Instr.mapEntry, Sem.run_bind, run_underlying ht, Result.andThen_ok, run_getObj_map' hb, mapObj, Q.check, List.toList_toArray, run_find]
  have hlen := aput_len l k ((aget l k).getD z)
  rw [← fl_aget] at *
  unfold stampOf
  cases h : fl l k with
  | none =>
    simp only [h] at hlen
    have := ents_new (Q := Q) 0 l k z h
    rw [Nat.zero_add] at this
    simp only [Sem.run_bind, hz', Result.andThen_ok, run_setObj_map hb, h, Option.map_none, Option.getD_none, Sem.run_pure, hlen, ← this]
    simp at hlen
    simp [hlen]
  | some p =>
    obtain ⟨i, v'⟩ := p
    simp only [h] at hlen
    have hg := ents_get (Q := Q) 0 l i
    rw [fl_get h] at hg
    have h2 : (ents Q 0 l).toArray[i]? = some ⟨Q.val k, v', 0 + i⟩ := by simpa using hg
    have h3 := ents_old (Q := Q) 0 l k v' i v' h
    simp only [h2, Option.map_some, Option.getD_some, Sem.run_bind, run_stays, Result.andThen_ok, run_setObj_map hb, Sem.run_pure] at hlen ⊢
    rw [hlen, ← h3]
    simp only [Nat.zero_add]
    congr 3
    apply Array.toList_inj.1
    simp only [Array.toList_modify]
    apply List.ext_getElem?
    intro j
    simp only [List.getElem?_modify]
    by_cases e : i = j
    · subst e
      have : (ents Q 0 l)[i]? = some ⟨Q.val k, v', 0 + i⟩ := by simpa using hg
      simp [this]
    · simp [e]
theorem findIdx_born : ∀ (n : Nat) (l : List (κ × Value)) (i : Nat), i < l.length → (ents Q n l).findIdx? (fun e => (e.born : Int) == ((n + i : Nat) : Int)) = some i
  | _, [], i, h => by simp at h
  | n, (k, v) :: l, 0, _ => by simp [ents, List.findIdx?_cons]
  | n, (k, v) :: l, i + 1, h => by
    have ih := findIdx_born (n + 1) l i (by simpa using h)
    have hne : ((n : Int) == ((n + (i + 1) : Nat) : Int)) = false := by
      simp only [beq_eq_false_iff_ne, ne_eq]; omega
    rw [show n + 1 + i = n + (i + 1) by omega] at ih
    simp only [ents, List.findIdx?_cons, hne, Bool.false_eq_true, if_false, ih, Option.map_some]
theorem fl_aput (l : List (κ × Value)) (k : κ) (v : Value) : fl (aput l k v) k = some (((fl l k).map (·.1)).getD l.length, v) := by
  induction l with
  | nil => simp [aput, fl]
  | cons p l ih =>
    obtain ⟨k', v'⟩ := p
    simp only [aput]
    by_cases h : k' = k
    · simp [h, fl]
    · simp only [if_neg h, fl, ih, Option.map_some]
      cases fl l k <;> simp
/-- The entry's write. -/
theorem run_entryStore {t : TypeId} {w : World} {b : Nat} {l : List (κ × Value)} (k : κ) (v0 v : Value) (hb : w.heap[b]? = some (mapObj Q (aput l k v0))) :
    (Instr.entryStore t (.map (some b)) (goInt (stampOf l k : Nat)) v).run P w = .ok () (setBlock w b (mapObj Q (aput l k v))) := by
  have hf := fl_aput l k v0
  have hg := fl_get hf
  have hi := (List.getElem?_eq_some_iff.1 hg).1
  have hfi := findIdx_born (Q := Q) 0 (aput l k v0) _ hi
  simp only [Nat.zero_add] at hfi
  have hfi' : (ents Q 0 (aput l k v0)).toArray.findIdx? (fun e => (e.born : Int) == ((((fl l k).map (·.1)).getD l.length : Nat) : Int)) = some (((fl l k).map (·.1)).getD l.length) := by simpa using hfi
  have hold := ents_old (Q := Q) 0 (aput l k v0) k v _ _ hf
  have hpp : aput (aput l k v0) k v = aput l k v := by
    clear hf hg hi hfi hfi' hold hb
    induction l with
    | nil => simp [aput]
    | cons p l ih =>
      obtain ⟨k', v'⟩ := p
      simp only [aput]
      by_cases h : k' = k
      · simp [h, aput]
      · simp [h, aput, ih]
  rw [hpp] at hold
  have hl1 := aput_len l k v0
  have hl2 := aput_len l k v
  have hll : (aput l k v0).length = (aput l k v).length := by rw [hl1, hl2]
  unfold stampOf
  obtain ⟨j, hj⟩ : ∃ j, j = ((fl l k).map (·.1)).getD l.length := ⟨_, rfl⟩
  rw [← hj] at hg hi hfi hfi' hold ⊢
  have hai : (asInt (goInt (j : Int))).run P w = .ok (j : Int) w := by simp [asInt, asIntOf, goInt]
  have hgb : (getObj b).run P w = .ok (.map (ents Q 0 (aput l k v0)).toArray (aput l k v0).length) w := run_getObj_map' hb
  simp only [Instr.entryStore, Sem.run_bind, hgb, Result.andThen_ok, hai, hfi', run_setObj_map hb, mapObj, ← hold, hll]
  congr 2
  congr 1
  apply Array.toList_inj.1
  simp only [Array.toList_modify]
  apply List.ext_getElem?
  intro x
  simp only [List.getElem?_modify]
  by_cases e : j = x
  · subst e
    have := ents_get (Q := Q) 0 (aput l k v0) j
    rw [hg] at this
    simp [this]
  · simp [e]
end
end Go.Proofs.YtmjieefhjmiagaaDoor.G
