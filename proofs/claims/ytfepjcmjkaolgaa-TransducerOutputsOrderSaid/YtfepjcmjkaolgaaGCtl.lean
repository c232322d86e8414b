/- Walk library, part 1 (control): frames as functions; judgements for operation lists, drawn regions and code; loops with a ghost state. Plain theorems over any program. -/
import Derived.WalkKit
import Derived.OrdersHeld
import Derived.Deep.LoopGhost
import Derived.Deep.Draws
set_option linter.all false
namespace Go.Proofs.Ytfepjcmjkaolgaa.G
open Go

abbrev Env := Nat → Option Value

/-- A frame written as the latest writes over a base. -/
def look : List (Nat × Value) → Env → Env
  | [], b, t => b t
  | (d, v) :: l, b, t => bif Nat.beq t d then some v else look l b t

def mem : List Nat → Nat → Bool
  | [], _ => false
  | d :: l, t => bif Nat.beq t d then true else mem l t

/-- The frame e with the slots of W forgotten (they read as in j). -/
def hav (e : Env) (W : List Nat) (j : Env) : Env := fun t => bif mem W t then j t else e t

theorem look_eq {d : Nat} {v : Value} {l : List (Nat × Value)} {b : Env} : look ((d, v) :: l) b d = some v := by simp [look]
theorem look_ne {d t : Nat} {v : Value} {l : List (Nat × Value)} {b : Env} (h : t ≠ d) : look ((d, v) :: l) b t = look l b t := by
  simp only [look]
  cases h' : Nat.beq t d with
  | true => exact absurd (Nat.eq_of_beq_eq_true h') h
  | false => rfl

structure Fits (n : Nat) (a : Act) (e : Env) : Prop where
  defers : a.defers = []
  size : a.tmps.size = n
  get : ∀ t, e t = some (a.tmps.getD t undef)

/-- What an operand is. -/
def evo (e : Env) : Operand → Option Value
  | .tmp t => e t
  | .const v => some v
  | .global g => some (.pointer (some ⟨g, 0, none⟩))
  | .func f => some (.func (.func f) #[] #[])
def evl (e : Env) (x : Operand) : Value := (evo e x).getD undef
theorem ev_of {e : Env} {x : Operand} {v : Value} (h : evo e x = some v) : evl e x = v := by simp [evl, h]

theorem Fits.eval {n : Nat} {a : Act} {e : Env} (h : Fits n a e) (x : Operand) : a.eval x = evl e x := by
  cases x with
  | tmp t =>
    show a.tmps.getD t undef = _
    simp [evl, evo, h.get t]
  | _ => rfl

theorem Fits.evalf {n : Nat} {a : Act} {e : Env} (h : Fits n a e) : a.eval = evl e := funext h.eval

theorem Fits.put {n : Nat} {a : Act} {l : List (Nat × Value)} {b : Env} (h : Fits n a (look l b)) {d : Nat} (hd : d < n) (v : Value) : Fits n (a.put (some d) v) (look ((d, v) :: l) b) := by
  refine ⟨h.defers, by simp [Act.put, h.size], fun t => ?_⟩
  by_cases ht : t = d
  · subst ht
    have : t < a.tmps.size := by rw [h.size]; exact hd
    rw [look_eq]
    simp [Act.put, this]
  · rw [look_ne ht, h.get t]
    simp [Act.put, Array.getElem?_setIfInBounds_ne (Ne.symm ht)]

/-- What a frame's end must meet. -/
def qOf (n : Nat) (K : Env → World → Prop) (X : List (Nat × (Env → World → Prop))) (R : Env → World → Prop) : Exit → Act → World → Prop
  | .normal, a, w => ∃ e, Fits n a e ∧ K e w
  | .exit id, a, w => ∃ e G, Fits n a e ∧ X.lookup id = some G ∧ G e w
  | .ret, a, w => ∃ e, Fits n a e ∧ R e w
  | _, _, _ => False

def onlyN (n : Nat) (K : Env → World → Prop) : Exit → Act → World → Prop
  | .normal, a, w => ∃ e, Fits n a e ∧ K e w
  | _, _, _ => False

theorem onlyN_qOf {n : Nat} {K : Env → World → Prop} {X : List (Nat × (Env → World → Prop))} {R : Env → World → Prop} : ∀ (e : Exit) (a : Act) (w : World), onlyN n K e a w → qOf n K X R e a w := by
  intro e a w h
  cases e <;> first | exact h | exact h.elim

/-- Code. -/
def WC (P : Program) (n : Nat) (c : Code) (K : Env → World → Prop) (X : List (Nat × (Env → World → Prop))) (R : Env → World → Prop) (e : Env) (w : World) : Prop :=
  ∀ a, Fits n a e → c.wp P (qOf n K X R) a w

/-- A list of operations, carried out in its order. -/
def WL (P : Program) (n : Nat) (ops : Array Oper) (K : Env → World → Prop) (rest : List Oper) (e : Env) (w : World) : Prop :=
  ∀ a, Fits n a e → wpList P ops (onlyN n K) rest a w

/-! ### operations in whatever order: S is shown behind every operation till the first of F -/
/-- Nobody of F has come up. -/
def fresh (listed : Array Bool) : List Nat → Bool
  | [] => true
  | f :: F => bif listed.getD f true then false else fresh listed F
theorem fresh_set {F : List Nat} {listed : Array Bool} {j : Nat} (hj : mem F j = false) : fresh (listed.setIfInBounds j true) F = fresh listed F := by
  induction F with
  | nil => rfl
  | cons f F ih =>
    simp only [mem] at hj
    cases hb : Nat.beq j f with
    | true => simp [hb] at hj
    | false =>
      simp [hb] at hj
      have hne : j ≠ f := fun e => by subst e; simp [Nat.beq_refl] at hb
      simp only [fresh, getD_set_ne true hne, ih hj]
def wpAnyG (P : Program) (ops : Array Oper) (Q : Exit → Act → World → Prop) (S : World → Prop) (F : List Nat) : Nat → Array Bool → Act → World → Prop
  | 0, listed, a, w => Region.ready .any ops listed = [] ∧ Q .normal a w
  | fuel + 1, listed, a, w =>
    (Region.ready .any ops listed = [] → Q .normal a w) ∧
    ∀ i ∈ Region.ready .any ops listed, wpOp P ops Q i (fun a' w' => (fresh (listed.setIfInBounds i true) F = true → S w') ∧ wpAnyG P ops Q S F fuel (listed.setIfInBounds i true) a' w') a w
theorem wpAny_of_G {P : Program} {ops : Array Oper} {Q : Exit → Act → World → Prop} {S : World → Prop} {F : List Nat} : ∀ (fuel : Nat) (listed : Array Bool) (a : Act) (w : World), wpAnyG P ops Q S F fuel listed a w → wpAny P .any ops Q fuel listed a w
  | 0, _, _, _, h => h
  | fuel + 1, _, _, _, h => ⟨h.1, fun i hi => wpOp_mono (fun a' w' h' => wpAny_of_G fuel _ a' w' h'.2) (h.2 i hi)⟩
/-- Each of F waits for i. -/
def waits (ops : Array Oper) (i : Nat) : List Nat → Bool
  | [] => true
  | f :: F => (match ops[f]? with
    | some o => o.after.any fun e => Region.binds .any e && Nat.beq e.on i
    | none => false) && waits ops i F
theorem waits_spec {ops : Array Oper} {i : Nat} {F : List Nat} (h : waits ops i F = true) {j : Nat} {oj : Oper} (hj : mem F j = true) (ho : ops[j]? = some oj) (hn : ∀ e ∈ oj.after, Region.binds .any e = true → e.on ≠ i) : False := by
  induction F with
  | nil => simp [mem] at hj
  | cons f F ih =>
    simp only [waits, Bool.and_eq_true] at h
    simp only [mem] at hj
    cases hb : Nat.beq j f with
    | true =>
      have := Nat.eq_of_beq_eq_true hb
      subst this
      rw [ho] at h
      obtain ⟨e, he, hb⟩ := Array.any_eq_true'.1 h.1
      simp only [Bool.and_eq_true] at hb
      exact hn e he hb.1 (Nat.eq_of_beq_eq_true hb.2)
    | false => simp [hb] at hj; exact ih h.2 hj
theorem wpAnyG_first {P : Program} {ops : Array Oper} {Q : Exit → Act → World → Prop} {S : World → Prop} {F : List Nat} (S1 : World → Prop) {i : Nat} {oi : Oper} {v : Value} (hi : ops[i]? = some oi) (hsel : ∀ (j : Nat) (o : Oper) cs b, ops[j]? = some o → o.op ≠ .select cs b)
    (hQ : ∀ c a w, Q (.panic c) (a.put oi.dst v) w → Q (.panic c) a w) (hFi : mem F i = false) :
    ∀ (fuel : Nat) (listed : Array Bool) (a : Act) (w : World), ((fresh listed F = true ∧ waits ops i F = true ∧ ∀ w, S w → S1 w) ∨ ∀ w, S1 w) →
      (∀ j oj, ops[j]? = some oj → j ≠ i → listed.getD j true = false → (∀ e ∈ oj.after, Region.binds .any e = true → e.on ≠ i) → oi.apart ops oj = true) →
      i ∈ Region.ready .any ops listed → YieldsIf P ops S1 oi v a → S1 w → (fresh listed F = true → S w) →
      wpAnyG P ops Q S F fuel (listed.setIfInBounds i true) (a.put oi.dst v) w → wpAnyG P ops Q S F (fuel + 1) listed a w := by
  intro fuel
  induction fuel with
  | zero =>
    intro listed a w _ _ hr hy hS hSS H
    refine ⟨fun h => (by rw [h] at hr; cases hr), fun j hj => ?_⟩
    by_cases hji : j = i
    · subst hji; exact hy.wpOp hi hS ⟨fun h => hSS (by rwa [fresh_set hFi] at h), H⟩
    · have := ready_mono hj hji
      rw [H.1] at this
      cases this
  | succ fuel ih =>
    intro listed a w hfr hfree hr hy hS hSS H
    refine ⟨fun h => (by rw [h] at hr; cases hr), fun j hj => ?_⟩
    by_cases hji : j = i
    · subst hji; exact hy.wpOp hi hS ⟨fun h => hSS (by rwa [fresh_set hFi] at h), H⟩
    · have h1 := H.2 j (ready_mono hj hji)
      obtain ⟨hjun, oj, hoj, hall⟩ := mem_ready.1 hj
      have hnot : ∀ e ∈ oj.after, Region.binds .any e = true → e.on ≠ i := fun e he hb heq => by
        have h1 := hall e he hb
        have h0 := (mem_ready.1 hr).1
        rw [heq] at h1
        rcases Nat.lt_or_ge i listed.size with h' | h'
        · simp [h'] at h0 h1; rw [h0] at h1; cases h1
        · simp [Array.getElem?_eq_none h'] at h1
      have hfr' : (fresh (listed.setIfInBounds j true) F = true ∧ waits ops i F = true ∧ ∀ w, S w → S1 w) ∨ ∀ w, S1 w := by
        rcases hfr with ⟨h, hw, hs⟩ | h
        · refine .inl ⟨?_, hw, hs⟩
          cases hm : mem F j with
          | false => rw [fresh_set hm]; exact h
          | true => exact (waits_spec hw hm hoj hnot).elim
        · exact .inr h
      have h2 := wpOp_putIf hoj (hfree j oj hoj hji hjun hnot) (fun cs b => hsel i oi cs b hi) (fun cs b => hsel j oj cs b hoj) hQ hy h1
      have hfree' : ∀ k ok, ops[k]? = some ok → k ≠ i → (listed.setIfInBounds j true).getD k true = false →
          (∀ e ∈ ok.after, Region.binds .any e = true → e.on ≠ i) → oi.apart ops ok = true := fun k ok hk hki hun hno => by
        refine hfree k ok hk hki ?_ hno
        by_cases hjk : j = k
        · subst hjk; exact hjun
        · rw [getD_set_ne true hjk] at hun; exact hun
      refine wpOp_mono (fun a' w' h3 => ?_) h2
      have hSj : fresh (listed.setIfInBounds j true) F = true → S w' := fun h => h3.2.1 (by rw [Array.setIfInBounds_comm _ _ (fun e => hji e.symm), fresh_set hFi]; exact h)
      refine ⟨hSj, ih (listed.setIfInBounds j true) a' w' hfr' hfree' (ready_mono hr (Ne.symm hji)) h3.1 ?_ hSj ?_⟩
      · rcases hfr' with ⟨h, _, hs⟩ | h
        · exact hs _ (hSj h)
        · exact h w'
      · rw [Array.setIfInBounds_comm _ _ hji]
        exact h3.2.2

/-- Operations in whatever order. -/
def WA (P : Program) (n : Nat) (ops : Array Oper) (S : World → Prop) (F : List Nat) (K : Env → World → Prop) (fuel : Nat) (listed : Array Bool) (e : Env) (w : World) : Prop :=
  ∀ a, Fits n a e → wpAnyG P ops (onlyN n K) S F fuel listed a w

section
variable {P : Program} {n : Nat} {K : Env → World → Prop} {X : List (Nat × (Env → World → Prop))} {R : Env → World → Prop} {e : Env} {w : World}

theorem wc_skip (h : K e w) : WC P n .skip K X R e w := fun a ha => wp_skip ⟨e, ha, h⟩
theorem wc_ret (h : R e w) : WC P n .ret K X R e w := fun a ha => wp_ret ⟨e, ha, h⟩
theorem wc_exit {id : Nat} {G : Env → World → Prop} (hG : X.lookup id = some G) (h : G e w) : WC P n (.exit id) K X R e w :=
  fun a ha => wp_exit ⟨e, G, ha, hG, h⟩
theorem wc_seq {x y : Code} (h : WC P n x (fun e w => WC P n y K X R e w) X R e w) : WC P n (.seq x y) K X R e w := by
  intro a ha
  refine wp_seq (Code.wp_mono ?_ (h a ha))
  intro ex a' w' hq
  cases ex with
  | normal => obtain ⟨e', hf, hk⟩ := hq; exact hk a' hf
  | _ => exact hq
theorem wc_cond {c : Operand} {x y : Code} {t : Bool} (hc : evo e c = some (.bool t)) (ht : t = true → WC P n x K X R e w) (hf : t = false → WC P n y K X R e w) : WC P n (.cond c x y) K X R e w := by
  intro a ha
  refine wp_cond_split (t := t) (by rw [ha.eval]; exact ev_of hc) (fun h => ht h a ha) (fun h => hf h a ha)
theorem wc_true {c : Operand} {x y : Code} (hc : evo e c = some (.bool true)) (ht : WC P n x K X R e w) : WC P n (.cond c x y) K X R e w :=
  wc_cond hc (fun _ => ht) (fun h => by cases h)
theorem wc_false {c : Operand} {x y : Code} (hc : evo e c = some (.bool false)) (hf : WC P n y K X R e w) : WC P n (.cond c x y) K X R e w :=
  wc_cond hc (fun h => by cases h) (fun _ => hf)
/-- A test on a proposition. -/
theorem wc_dec {c : Operand} {x y : Code} {p : Prop} [Decidable p] (hc : evo e c = some (.bool (decide p))) (ht : p → WC P n x K X R e w) (hf : ¬ p → WC P n y K X R e w) : WC P n (.cond c x y) K X R e w :=
  wc_cond hc (fun h => ht (of_decide_eq_true h)) (fun h => hf (of_decide_eq_false h))
theorem wc_block {id : Nat} {c : Code} (h : WC P n c K ((id, K) :: X) R e w) : WC P n (.block id c) K X R e w := by
  intro a ha
  refine wp_block (Code.wp_mono ?_ (h a ha))
  intro ex a' w' hq
  cases ex with
  | exit id' =>
    obtain ⟨e', G, hf, hl, hG⟩ := hq
    simp only [Exit.inBlock]
    simp only [List.lookup_cons] at hl
    split
    · rename_i hid
      subst hid
      simp at hl
      subst hl
      exact ⟨e', hf, hG⟩
    · rename_i hid
      rw [show (id' == id) = false by simpa using hid] at hl
      exact ⟨e', G, hf, hl, hG⟩
  | _ => exact hq
theorem wc_region {id : Nat} {l : List Oper} (h : WL P n l.toArray K l e w) : WC P n (.region id l.toArray false) K X R e w :=
  fun a ha => Code.wp_mono onlyN_qOf (wp_region_lit (h a ha))
theorem wc_draws {id : Nat} {l : List Oper} (S : World → Prop) (F : List Nat) (hm : P.follows .mixedOrders = true) (h : WA P n l.toArray S F K l.toArray.size (Array.replicate l.toArray.size false) e w.drew) : WC P n (.region id l.toArray true) K X R e w :=
  fun a ha => Code.wp_mono onlyN_qOf (wp_region_any hm (wpAny_of_G _ _ _ _ (h a ha)))
/-! ### loops -/
theorem unw_base {e j : Env} {W : List Nat} : ∀ t, mem W t = false → hav e W j t = e t := fun t h => by simp [hav, h]
def keysIn (W : List Nat) : List (Nat × Value) → Bool
  | [] => true
  | (d, _) :: l => bif mem W d then keysIn W l else false
theorem unw_look {e b : Env} {W : List Nat} {l : List (Nat × Value)} (hl : keysIn W l = true) (hb : ∀ t, mem W t = false → b t = e t) : ∀ t, mem W t = false → look l b t = e t := by
  intro t ht
  induction l with
  | nil => exact hb t ht
  | cons p l ih =>
    obtain ⟨d, v⟩ := p
    simp only [keysIn] at hl
    cases hd : mem W d with
    | false => simp [hd] at hl
    | true =>
      simp [hd] at hl
      have hne : t ≠ d := fun h => by subst h; rw [hd] at ht; cases ht
      rw [look_ne hne]
      exact ih hl
def allIn (W : List Nat) : List Nat → Bool
  | [] => true
  | d :: l => bif mem W d then allIn W l else false
theorem mem_of_allIn {W V : List Nat} (h : allIn W V = true) {t : Nat} (ht : mem V t = true) : mem W t = true := by
  induction V with
  | nil => simp [mem] at ht
  | cons d V ih =>
    simp only [allIn] at h
    cases hd : mem W d with
    | false => simp [hd] at h
    | true =>
      simp [hd] at h
      simp only [mem] at ht
      cases hb : Nat.beq t d with
      | true => have := Nat.eq_of_beq_eq_true hb; subst this; exact hd
      | false => simp [hb] at ht; exact ih h ht
theorem unw_hav {e b j : Env} {W V : List Nat} (hv : allIn W V = true) (hb : ∀ t, mem W t = false → b t = e t) : ∀ t, mem W t = false → hav b V j t = e t := by
  intro t ht
  have : mem V t = false := by
    cases h : mem V t with
    | false => rfl
    | true => rw [mem_of_allIn hv h] at ht; cases ht
  simp [hav, this, hb t ht]

/-- The latest k writes are into slots of W. -/
theorem unw_take (k : Nat) {W : List Nat} {l' l : List (Nat × Value)} {b : Env} (h1 : keysIn W (l'.take k) = true) (h2 : l'.drop k = l) : ∀ t, mem W t = false → look l' b t = look l b t := by
  subst h2
  intro t ht
  have h3 : ∀ (m n : List (Nat × Value)), keysIn W m = true → look (m ++ n) b t = look n b t := by
    intro m
    induction m with
    | nil => intro n _; rfl
    | cons p m ih =>
      intro n hm
      obtain ⟨d, v⟩ := p
      simp only [keysIn] at hm
      cases hd : mem W d with
      | false => simp [hd] at hm
      | true =>
        simp [hd] at hm
        have hne : t ≠ d := fun h => by subst h; rw [hd] at ht; cases ht
        rw [List.cons_append, look_ne hne]
        exact ih n hm
  have := h3 (l'.take k) (l'.drop k) h1
  rwa [List.take_append_drop] at this

/-- The slots of a list read so in a frame. -/
def reads (e : Env) : List (Nat × Value) → Prop
  | [] => True
  | (d, v) :: l => e d = some v ∧ reads e l
theorem look_reads {e : Env} {l : List (Nat × Value)} (h : reads e l) : look l e = e := by
  induction l with
  | nil => rfl
  | cons p l ih =>
    obtain ⟨d, v⟩ := p
    funext t
    by_cases ht : t = d
    · subst ht; rw [look_eq]; exact h.1.symm
    · rw [look_ne ht, ih h.2]

/-- A LOOP: W the slots that the body writes; at each round's head the slots of 'St x' are known, the world meets 'Inv x'; each round lowers 'mu x'. -/
theorem wc_loop {c : Code} {α : Type} (W : List Nat) (St : α → List (Nat × Value)) (Inv : α → World → Prop) (mu : α → Nat) (x0 : α) (h0 : reads e (St x0)) (h1 : Inv x0 w)
    (body : ∀ x j w, Inv x w → WC P n c (fun e' w' => ∃ x', mu x' < mu x ∧ Inv x' w' ∧ reads e' (St x') ∧ ∀ t, mem W t = false → e' t = e t) X R (look (St x) (hav e W j)) w) :
    WC P n (.loop c) K X R e w := by
  intro a ha
  refine wp_loop_ghost (fun m a w => ∃ x e', mu x = m ∧ Fits n a e' ∧ Inv x w ∧ reads e' (St x) ∧ ∀ t, mem W t = false → e' t = e t) (mu x0) ⟨x0, e, rfl, ha, h1, h0, fun _ _ => rfl⟩ ?_
  rintro m a w ⟨x, e', rfl, hf, hi, hr, hu⟩
  have he : e' = look (St x) (hav e W e') := by
    have h1 : hav e W e' = e' := by
      funext t
      cases ht : mem W t with
      | true => simp [hav, ht]
      | false => simp [hav, ht, hu t ht]
    rw [h1, look_reads hr]
  refine Code.wp_mono ?_ (body x e' w hi a (he ▸ hf))
  intro ex a' w' hq
  cases ex with
  | normal =>
    obtain ⟨e2, hf2, x', hlt, hi', hr', hu'⟩ := hq
    exact ⟨mu x', hlt, x', e2, rfl, hf2, hi', hr', hu'⟩
  | _ => exact hq
/-- Ways that meet: behind c the slots of W are those of 'St x', the world meets 'Inv x'. -/
theorem wc_join {c : Code} {α : Type} (W : List Nat) (St : α → List (Nat × Value)) (Inv : α → World → Prop)
    (h : WC P n c (fun e' w' => ∃ x, Inv x w' ∧ reads e' (St x) ∧ ∀ t, mem W t = false → e' t = e t) X R e w) (k : ∀ x j w', Inv x w' → K (look (St x) (hav e W j)) w') : WC P n c K X R e w := by
  intro a ha
  refine Code.wp_mono ?_ (h a ha)
  intro ex a' w' hq
  cases ex with
  | normal =>
    obtain ⟨e', hf, x, hi, hr, hu⟩ := hq
    have he : e' = look (St x) (hav e W e') := by
      have h1 : hav e W e' = e' := by
        funext t
        cases ht : mem W t with
        | true => simp [hav, ht]
        | false => simp [hav, ht, hu t ht]
      rw [h1, look_reads hr]
    have := k x e' w' hi
    rw [← he] at this
    exact ⟨e', hf, this⟩
  | _ => exact hq
end

/-! ### operations -/
section
variable {P : Program} {n : Nat} {ops : Array Oper} {K : Env → World → Prop} {S : World → Prop} {w : World} {l : List (Nat × Value)} {b : Env} {o : Oper} {rest : List Oper}

/-- In every world of S the operation leaves v and does nothing else. -/
def Quiet (P : Program) (n : Nat) (ops : Array Oper) (S : World → Prop) (o : Oper) (e : Env) (v : Value) : Prop := ∀ a, Fits n a e → YieldsIf P ops S o v a

theorem Quiet.mono {S' : World → Prop} {e : Env} {v : Value} (h : Quiet P n ops S' o e v) (hs : ∀ w, S w → S' w) : Quiet P n ops S o e v :=
  fun a ha => (h a ha).imp (fun ⟨h1, h2⟩ => ⟨h1, fun w hw => h2 w (hs w hw)⟩) id
/-- The operation is carried out and leaves what Post says. -/
def Eff (P : Program) (n : Nat) (ops : Array Oper) (o : Oper) (e : Env) (w : World) (Post : Value → World → Prop) : Prop :=
  ∀ a, Fits n a e → Region.wanted o (yielded ops a.tmps) = true ∧ ∀ (K : Act → World → Prop) (Q : Exit → Act → World → Prop), (∀ v w', Post v w' → K (a.put o.dst v) w') → o.wp P a w K Q

theorem wl_nil (h : K (look l b) w) : WL P n ops K [] (look l b) w := fun a ha => wpList_nil ⟨_, ha, h⟩

theorem wl_q {d : Nat} {v : Value} (hq : Quiet P n ops S o (look l b) v) (hS : S w) (hd : o.dst = some d) (hn : Nat.blt d n = true) (h : WL P n ops K rest (look ((d, v) :: l) b) w) : WL P n ops K (o :: rest) (look l b) w := by
  intro a ha
  have hlt : d < n := by simpa [Nat.blt_eq] using hn
  have hput := ha.put hlt v
  rcases hq a ha with ⟨hw, hv⟩ | ⟨hw, rfl⟩
  · refine wpList_step fun K' hK' => ?_
    rw [if_pos hw]
    unfold Oper.wp
    rw [hv w hS]
    simp only [Oper.upon, hd]
    exact hK' _ _ (h _ hput)
  · refine wpList_step fun K' hK' => ?_
    rw [if_neg (by simp [hw]), hd]
    exact hK' _ _ (h _ hput)
theorem wl_e {d : Nat} {Post : Value → World → Prop} (he : Eff P n ops o (look l b) w Post) (hd : o.dst = some d) (hn : Nat.blt d n = true) (h : ∀ v w', Post v w' → WL P n ops K rest (look ((d, v) :: l) b) w') : WL P n ops K (o :: rest) (look l b) w := by
  intro a ha
  have hlt : d < n := by simpa [Nat.blt_eq] using hn
  obtain ⟨hw, hrun⟩ := he a ha
  refine wpList_step fun K' hK' => ?_
  rw [if_pos hw]
  refine hrun _ _ fun v w' hp => hK' _ _ ?_
  rw [hd]
  exact h v w' hp _ (ha.put hlt v)
theorem wl_e0 {Post : Value → World → Prop} (he : Eff P n ops o (look l b) w Post) (hd : o.dst = none) (h : ∀ v w', Post v w' → WL P n ops K rest (look l b) w') : WL P n ops K (o :: rest) (look l b) w := by
  intro a ha
  obtain ⟨hw, hrun⟩ := he a ha
  refine wpList_step fun K' hK' => ?_
  rw [if_pos hw]
  refine hrun _ _ fun v w' hp => hK' _ _ ?_
  rw [hd]
  exact h v w' hp _ ha

/-! #### in whatever order -/
theorem wa_done {F : List Nat} {fuel : Nat} {listed : Array Bool} (hr : Region.ready .any ops listed = []) (h : K (look l b) w) : WA P n ops S F K fuel listed (look l b) w := by
  intro a ha
  cases fuel with
  | zero => exact ⟨hr, _, ha, h⟩
  | succ k => exact ⟨fun _ => ⟨_, ha, h⟩, by rw [hr]; simp⟩
/-- What is asked to take i first. -/
def may (ops : Array Oper) (F : List Nat) (listed : Array Bool) (i : Nat) : Bool := Region.noSelect ops && Region.free .any ops listed i && (Region.ready .any ops listed).contains i && !mem F i && fresh listed F && waits ops i F
def mayW (ops : Array Oper) (F : List Nat) (listed : Array Bool) (i : Nat) : Bool := Region.noSelect ops && Region.free .any ops listed i && (Region.ready .any ops listed).contains i && !mem F i
/-- An operation that yields its value in every world of S. -/
theorem wa_q {F : List Nat} (i : Nat) {d : Nat} {v : Value} {fuel : Nat} {listed : Array Bool} (hi : ops[i]? = some o) (hs : may ops F listed i = true)
    (hq : Quiet P n ops S o (look l b) v) (hS : S w) (hd : o.dst = some d) (hn : Nat.blt d n = true) (h : WA P n ops S F K fuel (listed.setIfInBounds i true) (look ((d, v) :: l) b) w) : WA P n ops S F K (fuel + 1) listed (look l b) w := by
  intro a ha
  have hlt : d < n := by simpa [Nat.blt_eq] using hn
  simp only [may, Bool.and_eq_true, Bool.not_eq_true'] at hs
  obtain ⟨⟨⟨⟨⟨h1, h2⟩, h3⟩, h4⟩, h5⟩, h6⟩ := hs
  refine wpAnyG_first S hi (Region.noSelect_spec h1) (fun _ _ _ h => h.elim) h4 fuel listed a w (.inl ⟨h5, h6, fun _ h => h⟩) (Region.free_spec hi h2) (by simpa using h3) (hq a ha) hS (fun _ => hS) ?_
  rw [hd]
  exact h _ (ha.put hlt v)
/-- An operation that yields its value in every world. -/
theorem wa_w {F : List Nat} (i : Nat) {d : Nat} {v : Value} {fuel : Nat} {listed : Array Bool} (hi : ops[i]? = some o) (hs : mayW ops F listed i = true)
    (hq : Quiet P n ops (fun _ => True) o (look l b) v) (hS : fresh listed F = true → S w) (hd : o.dst = some d) (hn : Nat.blt d n = true) (h : WA P n ops S F K fuel (listed.setIfInBounds i true) (look ((d, v) :: l) b) w) : WA P n ops S F K (fuel + 1) listed (look l b) w := by
  intro a ha
  have hlt : d < n := by simpa [Nat.blt_eq] using hn
  simp only [mayW, Bool.and_eq_true, Bool.not_eq_true'] at hs
  obtain ⟨⟨⟨h1, h2⟩, h3⟩, h4⟩ := hs
  refine wpAnyG_first (fun _ => True) hi (Region.noSelect_spec h1) (fun _ _ _ h => h.elim) h4 fuel listed a w (.inr fun _ => trivial) (Region.free_spec hi h2) (by simpa using h3) (hq a ha) trivial hS ?_
  rw [hd]
  exact h _ (ha.put hlt v)
/-- One operation alone may come up. -/
theorem wa_e {F : List Nat} (i : Nat) {d : Nat} {fuel : Nat} {listed : Array Bool} {Post : Value → World → Prop} (hi : ops[i]? = some o) (hr : Region.ready .any ops listed = [i])
    (he : Eff P n ops o (look l b) w Post) (hd : o.dst = some d) (hn : Nat.blt d n = true)
    (h : ∀ v w', Post v w' → (fresh (listed.setIfInBounds i true) F = true → S w') ∧ WA P n ops S F K fuel (listed.setIfInBounds i true) (look ((d, v) :: l) b) w') : WA P n ops S F K (fuel + 1) listed (look l b) w := by
  intro a ha
  have hlt : d < n := by simpa [Nat.blt_eq] using hn
  obtain ⟨hw, hrun⟩ := he a ha
  refine ⟨fun h => (by rw [hr] at h; cases h), fun j hj => ?_⟩
  rw [hr] at hj
  obtain rfl : j = i := by simpa using hj
  unfold wpOp
  simp only [hi, hw, if_true]
  refine .inl (hrun _ _ fun v w' hp => ?_)
  rw [hd]
  exact ⟨(h v w' hp).1, (h v w' hp).2 _ (ha.put hlt v)⟩
theorem wa_e0 {F : List Nat} (i : Nat) {fuel : Nat} {listed : Array Bool} {Post : Value → World → Prop} (hi : ops[i]? = some o) (hr : Region.ready .any ops listed = [i])
    (he : Eff P n ops o (look l b) w Post) (hd : o.dst = none)
    (h : ∀ v w', Post v w' → (fresh (listed.setIfInBounds i true) F = true → S w') ∧ WA P n ops S F K fuel (listed.setIfInBounds i true) (look l b) w') : WA P n ops S F K (fuel + 1) listed (look l b) w := by
  intro a ha
  obtain ⟨hw, hrun⟩ := he a ha
  refine ⟨fun h => (by rw [hr] at h; cases h), fun j hj => ?_⟩
  rw [hr] at hj
  obtain rfl : j = i := by simpa using hj
  unfold wpOp
  simp only [hi, hw, if_true]
  refine .inl (hrun _ _ fun v w' hp => ?_)
  rw [hd]
  exact ⟨(h v w' hp).1, (h v w' hp).2 _ ha⟩
/-- A quiet operation that alone may come up. -/
theorem wa_q1 {F : List Nat} (i : Nat) {d : Nat} {v : Value} {S1 : World → Prop} {fuel : Nat} {listed : Array Bool} (hi : ops[i]? = some o) (hr : Region.ready .any ops listed = [i])
    (hq : Quiet P n ops S1 o (look l b) v) (hS1 : S1 w) (hd : o.dst = some d) (hn : Nat.blt d n = true) (hS : fresh (listed.setIfInBounds i true) F = true → S w) (h : WA P n ops S F K fuel (listed.setIfInBounds i true) (look ((d, v) :: l) b) w) : WA P n ops S F K (fuel + 1) listed (look l b) w := by
  intro a ha
  have hlt : d < n := by simpa [Nat.blt_eq] using hn
  refine ⟨fun h => (by rw [hr] at h; cases h), fun j hj => ?_⟩
  rw [hr] at hj
  obtain rfl : j = i := by simpa using hj
  refine (hq a ha).wpOp hi hS1 ⟨hS, ?_⟩
  rw [hd]
  exact h _ (ha.put hlt v)

/-! #### guards -/
theorem yielded_fits {a : Act} {e : Env} (ha : Fits n a e) {j d : Nat} {t : Bool} (hj : (ops[j]?).bind (·.dst) = some d) (hn : Nat.blt d n = true) (ht : e d = some (.bool t)) : yielded ops a.tmps j = some t := by
  have hlt : d < n := by simpa [Nat.blt_eq] using hn
  have h1 := ha.get d
  have h2 : d < a.tmps.size := by rw [ha.size]; exact hlt
  rw [ht] at h1
  simp [h2] at h1
  unfold yielded
  simp only [hj, Option.bind_some, Array.getElem?_eq_getElem h2, ← h1]
theorem q_guard {e : Env} {dst : Option Tmp} {op : Op} {ty : TypeId} {pos : String} {af : Array Edge} {v : Value} (j : Nat) {want t : Bool} {d : Nat} (hj : (ops[j]?).bind (·.dst) = some d) (hn : Nat.blt d n = true) (ht : e d = some (.bool t)) (htw : t = want)
    (h : Quiet P n ops S ⟨dst, op, ty, pos, af, none⟩ e v) : Quiet P n ops S ⟨dst, op, ty, pos, af, some (j, want)⟩ e v := by
  subst htw
  intro a ha
  have hy := yielded_fits ha hj hn ht
  rcases h a ha with ⟨_, hv⟩ | ⟨hw, _⟩
  · exact .inl ⟨by simp [Region.wanted, hy], hv⟩
  · simp [Region.wanted] at hw
theorem q_off {e : Env} {dst : Option Tmp} {op : Op} {ty : TypeId} {pos : String} {af : Array Edge} (j : Nat) {want t : Bool} {d : Nat} (hj : (ops[j]?).bind (·.dst) = some d) (hn : Nat.blt d n = true) (ht : e d = some (.bool t)) (hne : t = !want) : Quiet P n ops S ⟨dst, op, ty, pos, af, some (j, want)⟩ e undef := by
  intro a ha
  have hy := yielded_fits ha hj hn ht
  refine .inr ⟨?_, rfl⟩
  subst hne
  simp [Region.wanted, hy]
theorem yielded_undef {a : Act} {e : Env} (ha : Fits n a e) {j d : Nat} (hj : (ops[j]?).bind (·.dst) = some d) (hn : Nat.blt d n = true) (ht : e d = some undef) : yielded ops a.tmps j = none := by
  have hlt : d < n := by simpa [Nat.blt_eq] using hn
  have h1 := ha.get d
  have h2 : d < a.tmps.size := by rw [ha.size]; exact hlt
  rw [ht] at h1
  simp [h2] at h1
  unfold yielded
  simp only [hj, Option.bind_some, Array.getElem?_eq_getElem h2, ← h1, undef]
/-- The guard itself was passed over. -/
theorem q_offu {e : Env} {dst : Option Tmp} {op : Op} {ty : TypeId} {pos : String} {af : Array Edge} (j : Nat) {want : Bool} {d : Nat} (hj : (ops[j]?).bind (·.dst) = some d) (hn : Nat.blt d n = true) (ht : e d = some undef) : Quiet P n ops S ⟨dst, op, ty, pos, af, some (j, want)⟩ e undef := by
  intro a ha
  have hy := yielded_undef ha hj hn ht
  exact .inr ⟨by simp [Region.wanted, hy], rfl⟩
theorem e_guard {e : Env} {dst : Option Tmp} {op : Op} {ty : TypeId} {pos : String} {af : Array Edge} {Post : Value → World → Prop} (j : Nat) {want t : Bool} {d : Nat} (hj : (ops[j]?).bind (·.dst) = some d) (hn : Nat.blt d n = true) (ht : e d = some (.bool t)) (htw : t = want)
    (h : Eff P n ops ⟨dst, op, ty, pos, af, none⟩ e w Post) : Eff P n ops ⟨dst, op, ty, pos, af, some (j, want)⟩ e w Post := by
  subst htw
  intro a ha
  have hy := yielded_fits ha hj hn ht
  exact ⟨by simp [Region.wanted, hy], (h a ha).2⟩
/-- A quiet operation as one with an effect. -/
theorem Quiet.run {e : Env} {v : Value} (h : ∀ a, Fits n a e → ∀ w, S w → (execOp a.eval o).run P w = .ok (.value v) w) (hg : o.guard = none) : Quiet P n ops S o e v :=
  fun a ha => .inl ⟨by simp [Region.wanted, hg], h a ha⟩
theorem Eff.run {e : Env} {v : Value} {w' : World} {Post : Value → World → Prop} (h : (execOp (evl e) o).run P w = .ok (.value v) w') (hg : o.guard = none) (hp : Post v w') : Eff P n ops o e w Post := by
  intro a ha
  refine ⟨by simp [Region.wanted, hg], fun K Q hk => ?_⟩
  unfold Oper.wp
  rw [ha.evalf, h]
  exact hk _ _ hp
theorem Eff.run0 {e : Env} {w' : World} {Post : Value → World → Prop} (h : (execOp (evl e) o).run P w = .ok .skip w') (hg : o.guard = none) (hp : Post undef w') : Eff P n ops o e w Post := by
  intro a ha
  refine ⟨by simp [Region.wanted, hg], fun K Q hk => ?_⟩
  unfold Oper.wp
  rw [ha.evalf, h]
  exact hk _ _ hp
/-- A call of a Go function, met by its contract. -/
theorem Eff.call {e : Env} {f : FuncId} {args : Array Value} {Post : Value → World → Prop} (h : (execOp (evl e) o).run P w = .ok (.enter f args) w) (hg : o.guard = none)
    (hc : Calls P f args w fun en w' => ∃ v, en = .returned v ∧ Post v w') : Eff P n ops o e w Post := by
  intro a ha
  refine ⟨by simp [Region.wanted, hg], fun K Q hk => ?_⟩
  unfold Oper.wp
  rw [ha.evalf, h]
  refine hc.mono fun en w' hen => ?_
  obtain ⟨v, rfl, hp⟩ := hen
  exact hk _ _ hp
end

/-! ### a function -/
def argsL : Nat → List Value → List (Nat × Value)
  | _, [] => []
  | k, v :: l => (k, v) :: argsL (k + 1) l
def noEnv : Env := fun _ => some undef
theorem argsL_get (l : List Value) : ∀ (k m t : Nat), look (argsL k l) noEnv (k + t) = some ((l ++ List.replicate m undef).getD t undef) := by
  induction l with
  | nil =>
    intro k m t
    simp only [List.nil_append, argsL, look, noEnv]
    by_cases h : t < m
    · simp [h]
    · simp [h]
  | cons v l ih =>
    intro k m t
    simp only [argsL]
    cases t with
    | zero => show look _ _ k = some v; rw [look_eq]
    | succ t =>
      rw [look_ne (by omega)]
      have := ih (k + 1) m t
      rw [show k + (t + 1) = k + 1 + t by omega, this]
      simp
/-- What a function hands back. -/
def Out (P : Program) (fn : Func) (R : Ending → World → Prop) (e : Env) (w : World) : Prop := ∀ tmps : Array Value, (∀ t, e t = some (tmps.getD t undef)) → ∃ v, (results fn tmps).run P w = .ok v w ∧ R (.returned v) w
theorem enter {P : Program} {f : FuncId} {fn : Func} {c : Code} {R : Ending → World → Prop} {w : World} (hf : P.funcs[f]? = some fn) (hb : fn.body = some c) (n : Nat) (hn : fn.ntmps = n) (args : List Value) (hs : Nat.ble args.length n = true)
    (h : WC P n c (Out P fn R) [] (Out P fn R) (look (argsL 0 args) noEnv) w) : Calls P f args.toArray w R := by
  subst hn
  have hs' : args.length ≤ fn.ntmps := by simpa using hs
  refine calls_of_wp hf hb (Code.wp_mono ?_ (h { tmps := args.toArray ++ Array.replicate (fn.ntmps - args.toArray.size) undef, defers := [] } ⟨rfl, by simp; omega, fun t => ?_⟩))
  · intro ex a w' hq
    cases ex with
    | normal =>
      obtain ⟨e, hfit, ho⟩ := hq
      exact ⟨hfit.defers, ho _ hfit.get⟩
    | ret =>
      obtain ⟨e, hfit, ho⟩ := hq
      exact ⟨hfit.defers, ho _ hfit.get⟩
    | exit id => obtain ⟨e, G, _, hl, _⟩ := hq; simp at hl
    | _ => exact hq.elim
  · have := argsL_get args 0 (fn.ntmps - args.length) t
    rw [Nat.zero_add] at this
    rw [this]
    simp [← Array.getElem?_toList]
section
variable {P : Program} {fn : Func} {R : Ending → World → Prop} {e : Env} {w : World}
theorem out0 (h : fn.results = #[]) (hR : R (.returned (.tuple #[])) w) : Out P fn R e w :=
  fun tmps ht => ⟨_, results_none h tmps P w, hR⟩
theorem got {tmps : Array Value} (ht : ∀ t, e t = some (tmps.getD t undef)) {t : Nat} {v : Value} (h : e t = some v) : tmps.getD t undef = v := by
  have := ht t; rw [h] at this; exact (Option.some.inj this).symm
theorem out1 {t : Tmp} {v : Value} (h : fn.results = #[.tmp t]) (hv : e t = some v) (hR : R (.returned v) w) : Out P fn R e w :=
  fun tmps ht => ⟨_, results_tmp h tmps P w, by rw [got ht hv]; exact hR⟩
theorem out2 {t u : Tmp} {v v2 : Value} (h : fn.results = #[.tmp t, .tmp u]) (hv : e t = some v) (hv2 : e u = some v2) (hR : R (.returned (.tuple #[v, v2])) w) : Out P fn R e w :=
  fun tmps ht => ⟨_, results_tmp2 h tmps P w, by rw [got ht hv, got ht hv2]; exact hR⟩
theorem out3 {t u s : Tmp} {v v2 v3 : Value} (h : fn.results = #[.tmp t, .tmp u, .tmp s]) (hv : e t = some v) (hv2 : e u = some v2) (hv3 : e s = some v3) (hR : R (.returned (.tuple #[v, v2, v3])) w) : Out P fn R e w :=
  fun tmps ht => ⟨.tuple #[tmps.getD t undef, tmps.getD u undef, tmps.getD s undef], by simp [results, h], by rw [got ht hv, got ht hv2, got ht hv3]; exact hR⟩
theorem outc {t : Tmp} {ty : TypeId} {v : Value} {p : Addr} (h : fn.results = #[.cell t ty]) (hp : e t = some (.pointer (some p))) (hl : (loadVar ty p).run P w = .ok v w) (hR : R (.returned v) w) : Out P fn R e w := by
  intro tmps ht
  have h1 : tmps[t]?.getD undef = .pointer (some p) := by simpa using got ht hp
  exact ⟨v, by simp [results, h, h1, asAddr, hl], hR⟩
end
theorem bL8 : (∀ b : Bool, (true || b) = true) ∧ (∀ b : Bool, (false || b) = b) ∧ (∀ b : Bool, (true && b) = b) ∧ (∀ b : Bool, (false && b) = false) ∧ (∀ b : Bool, (b || true) = true) ∧ (∀ b : Bool, (b || false) = b) ∧ (∀ b : Bool, (b && true) = b) ∧ (∀ b : Bool, (b && false) = false) := by decide
end Go.Proofs.Ytfepjcmjkaolgaa.G
