/- Functional: the positions of a word that is read; what single stands for. Plain Lean. -/
import Derived.Test.YtmjieefhjmiagaaGreatDoorGThr
import Derived.Test.YtmjieefhjmiagaaGreatDoorGDec
set_option linter.all false
namespace Go.Proofs.YtmjieefhjmiagaaGreatDoor.G
open Go Go.RowKit
section
variable {P : Program} {n : Nat} {ops : Array Oper} {e : Env} {dst : Option Tmp} {ty : TypeId} {pos : String} {af : Array Go.Edge} {S : World → Prop}
/-- p != nil -/
theorem q_neqP {T T2 el : TypeId} {x y : Operand} {a : Option Addr} (hu : P.underlying T = some (.pointer el)) (hx : evo e x = some (.pointer a)) (hy : evo e y = some (.pointer none)) : Quiet P n ops S ⟨dst, .binOp .neq T x y T2, ty, pos, af, none⟩ e (.bool a.isSome) := by
  replace hx := ev_of hx
  replace hy := ev_of hy
  refine q_of rfl fun w _ => ?_
  have h : ∀ d : Nat, (Op.equalIn (d + 1) T (.pointer a) (.pointer none)).run P w = .ok (a.isNone) w := fun d => by
    cases a <;> simp [Op.equalIn, run_underlying hu]
  simp only [execOp, hx, hy, eqGuard]
  simp only [binOp]
  cases a <;> simp [Op.equal, Op.maxDepth, h 9999]
end
def mvB (l : List Int) (i : Nat) (x : Arc) : Bool := decide (x.inp = 0) || (decide ((i : Int) < (l.length : Int)) && decide (l.getD i 0 = x.inp))
theorem mvB_fit {l : List Int} {i : Nat} {x : Arc} : mvB l i x = fitB l (i : Int) x.inp := by
  rw [← eatB_fit, eatB, mvB]
  by_cases h : x.inp = 0
  · simp [h]
  · rw [if_neg h, decide_eq_false h, Bool.false_or]
def posE (t : Tra) (l : List Int) (p : Pos) : List Arc := (t.outs p.state).filter (mvB l p.read.toNat)
def aftP (p : Pos) (x : Arc) : Pos := if x.inp = 0 then ⟨x.dst, p.read⟩ else ⟨x.dst, p.read + 1⟩
def posN (t : Tra) (l : List Int) (p : Pos) : List Pos := (posE t l p).map (aftP p)
theorem posE_len (t : Tra) (l : List Int) (p : Pos) : (posE t l p).length ≤ t.arcs.length := Nat.le_trans (List.length_filter_le _ _) (t.outs_len _)
theorem aftP_eat (s : Int) (i : Nat) (x : Arc) : aftP ⟨s, (i : Int)⟩ x = ⟨x.dst, eatK i x.inp⟩ := by
  unfold aftP eatK
  split <;> rfl
theorem mem_posE {t : Tra} {l : List Int} {s : Int} {i : Nat} {x : Arc} : x ∈ posE t l ⟨s, (i : Int)⟩ ↔ x ∈ t.arcs ∧ x.src = s ∧ fitB l (i : Int) x.inp = true := by
  rw [posE, List.mem_filter, mem_outs]
  show (_ ∧ _) ∧ mvB l (i : Int).toNat x = true ↔ _
  rw [Int.toNat_natCast, mvB_fit, and_assoc]
def rectP (m lx : Nat) : List Pos := (List.range m).flatMap fun (s : Nat) => (List.range (lx + 1)).map fun (i : Nat) => ⟨s, i⟩
theorem mem_rectP {m lx : Nat} {p : Pos} : p ∈ rectP m lx ↔ ∃ s i : Nat, p = ⟨(s : Int), (i : Int)⟩ ∧ s < m ∧ i ≤ lx := by
  simp only [rectP, List.mem_flatMap, List.mem_range, List.mem_map]
  constructor
  · rintro ⟨s, hs, i, hi, rfl⟩; exact ⟨s, i, rfl, hs, by omega⟩
  · rintro ⟨s, i, rfl, hs, hi⟩; exact ⟨s, hs, i, by omega, rfl⟩
theorem rectP_len (m lx : Nat) : (rectP m lx).length = m * (lx + 1) := by
  rw [rectP, flat_len_eq (B := lx + 1), List.length_range]
  intro s; simp
section
variable {t : Tra} {m : Nat} {l w v u u' : List Int} {p q : Pos}
theorem pos_step (ht : t.Ok m) {s i : Nat} (hi : i ≤ l.length) {x : Arc} (hx : x ∈ posE t l ⟨(s : Int), (i : Int)⟩) : ∃ s' k : Nat, aftP ⟨(s : Int), (i : Int)⟩ x = ⟨(s' : Int), (k : Int)⟩ ∧ s' < m ∧ x.dst = (s' : Int) ∧ eatK i x.inp = (k : Int) ∧ k ≤ l.length ∧ l.take k = l.take i ++ lab x.inp ∧ i ≤ k := by
  obtain ⟨h1, _, h3⟩ := mem_posE.1 hx
  obtain ⟨k, e1, e2, e3⟩ := fit_take h3 hi
  have hd := (ht.arcs x h1).2
  have e : ((x.dst.toNat : Nat) : Int) = x.dst := Int.toNat_of_nonneg hd.1
  refine ⟨x.dst.toNat, k, ?_, by omega, e.symm, e1, e2, e3, ?_⟩
  · rw [aftP_eat, e1, e]
  · unfold eatK at e1; split at e1 <;> omega
theorem posN_in (ht : t.Ok m) (hp : p ∈ rectP m l.length) (hq : q ∈ posN t l p) : q ∈ rectP m l.length := by
  obtain ⟨s, i, rfl, hs, hi⟩ := mem_rectP.1 hp
  obtain ⟨x, hx, rfl⟩ := List.mem_map.1 hq
  obtain ⟨s', k, e, h1, _, _, h2, _⟩ := pos_step ht hi hx
  exact mem_rectP.2 ⟨s', k, e, h1, h2⟩
def pos0 (t : Tra) : Pos := ⟨t.start, 0⟩
theorem pos0_in (ht : t.Ok m) : pos0 t ∈ rectP m l.length := by
  have := ht.start
  exact mem_rectP.2 ⟨t.start.toNat, 0, by rw [Int.toNat_of_nonneg (by omega)]; rfl, by omega, by omega⟩
theorem pos_rect (ht : t.Ok m) (p : Pos) (h : Reach (posN t l) (· = pos0 t) p) : p ∈ rectP m l.length := by
  induction h with
  | base h => rw [h]; exact pos0_in ht
  | tail _ hy ih => exact posN_in ht ih hy
/-- From a position the whole word can be accepted. -/
def CoR (t : Tra) (l : List Int) (p : Pos) : Prop := ∃ f ∈ t.finals, Reach (posN t l) (· = p) ⟨f, (l.length : Int)⟩
theorem reach_trans {C : Type} {N : C → List C} {a b c : C} (h : Reach N (· = a) b) (k : Reach N (· = b) c) : Reach N (· = a) c := by
  induction k with
  | base h' => rw [h']; exact h
  | tail _ hy ih => exact .tail ih hy
theorem reach_head {C : Type} {N : C → List C} {a b c : C} (h : b ∈ N a) (k : Reach N (· = b) c) : Reach N (· = a) c := reach_trans (.tail (.base rfl) h) k
theorem reach_first {C : Type} {N : C → List C} {a c : C} (h : Reach N (· = a) c) : c = a ∨ ∃ b ∈ N a, Reach N (· = b) c := by
  induction h with
  | base h => exact .inl h
  | tail _ hy ih =>
    rcases ih with rfl | ⟨b, hb, h⟩
    · exact .inr ⟨_, hy, .base rfl⟩
    · exact .inr ⟨b, hb, .tail h hy⟩
theorem run_pos (ht : t.Ok m) {s s' : Int} (h : Run t s u w s') : ∀ {sn i : Nat} {u' : List Int}, s = (sn : Int) → i ≤ l.length → l.drop i = u ++ u' → ∃ i' : Nat, Reach (posN t l) (· = ⟨s, (i : Int)⟩) ⟨s', (i' : Int)⟩ ∧ l.drop i' = u' ∧ i' ≤ l.length := by
  induction h with
  | nil s => intro sn i u' _ hi hd; exact ⟨i, .base rfl, by simpa using hd, hi⟩
  | @cons x us vs s' hx _ ih =>
    intro sn i u' hs hi hd
    obtain ⟨hf, k, e1, e2⟩ := fit_drop hd
    have hE : x ∈ posE t l ⟨x.src, (i : Int)⟩ := mem_posE.2 ⟨hx, rfl, hf⟩
    rw [hs] at hE
    obtain ⟨s1, k', e3, _, e4, e5, e6, _⟩ := pos_step ht hi hE
    obtain rfl : k' = k := by omega
    obtain ⟨i', h1, h2, h3⟩ := ih e4 e6 e2
    refine ⟨i', reach_head (b := ⟨x.dst, (k' : Int)⟩) ?_ h1, h2, h3⟩
    rw [hs]
    exact List.mem_map.2 ⟨x, hE, by rw [e3, e4]⟩
theorem pos_run (ht : t.Ok m) {a : Pos} (h : Reach (posN t l) (· = a) p) : ∀ {s i : Nat}, a = ⟨(s : Int), (i : Int)⟩ → i ≤ l.length → ∃ (s' i' : Nat) (u w : List Int), p = ⟨(s' : Int), (i' : Int)⟩ ∧ i' ≤ l.length ∧ l.take i' = l.take i ++ u ∧ Run t s u w s' := by
  induction h with
  | base h => intro s i ha hi; exact ⟨s, i, [], [], h.trans ha, hi, by simp, .nil _⟩
  | @tail b c _ hy ih =>
    intro s i ha hi
    obtain ⟨s1, i1, u, w, rfl, h1, h2, h3⟩ := ih ha hi
    obtain ⟨x, hx, rfl⟩ := List.mem_map.1 hy
    obtain ⟨s', k, e, _, e2, _, e4, e5, _⟩ := pos_step ht h1 hx
    obtain ⟨hxa, hxs, _⟩ := mem_posE.1 hx
    exact ⟨s', k, u ++ lab x.inp, w ++ lab x.out, e, e4, by rw [e5, h2, List.append_assoc], e2 ▸ h3.snoc hxa hxs⟩
/-- What a good position is completed with. -/
theorem cor_run (ht : t.Ok m) {s i : Nat} (hi : i ≤ l.length) (h : CoR t l ⟨(s : Int), (i : Int)⟩) : ∃ f ∈ t.finals, ∃ v, Run t s (l.drop i) v f := by
  obtain ⟨f, hf, hr⟩ := h
  obtain ⟨s', i', u, w, e, h1, h2, h3⟩ := pos_run ht hr rfl hi
  simp only [Pos.mk.injEq] at e
  have e2 : i' = l.length := by omega
  subst e2
  rw [List.take_length] at h2
  have : u = l.drop i := by
    have e3 : (l.take i).length = i := by rw [List.length_take]; omega
    have e4 : (l.take i ++ u).drop i = u := List.drop_left' e3
    rw [← h2] at e4; exact e4.symm
  rw [← this]
  exact ⟨f, hf, w, by rw [e.1]; exact h3⟩
/-- At most one output. -/
def Single (t : Tra) (l : List Int) : Prop := ∀ w w', Rel t l w → Rel t l w' → w = w'
/-- The good positions. -/
def GoodP (t : Tra) (l : List Int) (G : List Pos) : Prop := ∀ p, p ∈ G ↔ Reach (posN t l) (· = pos0 t) p ∧ CoR t l p
theorem good_none (ht : t.Ok m) {G : List Pos} (hG : GoodP t l G) (h : pos0 t ∉ G) : Single t l := fun w w' hw _ => by
  obtain ⟨f, hf, hr⟩ := hw
  have h0 := ht.start
  obtain ⟨i', h1, h2, h3⟩ := run_pos (l := l) ht hr (sn := t.start.toNat) (i := 0) (u' := []) (Int.toNat_of_nonneg (by omega)).symm (by omega) (by simp)
  have : i' = l.length := by
    have := List.drop_eq_nil_iff.1 h2; omega
  subst this
  exact absurd ((hG _).2 ⟨.base rfl, f, hf, h1⟩) h
/-- The words written on the way to positions. -/
abbrev WM := List (Pos × List Int)
structure Wr (t : Tra) (l : List Int) (G : List Pos) (tw : WM) : Prop where
  nd : (tw.map (·.1)).Nodup
  good : ∀ p w, (p, w) ∈ tw → p ∈ G
  run : ∀ p w, (p, w) ∈ tw → ∃ s i : Nat, p = ⟨(s : Int), (i : Int)⟩ ∧ i ≤ l.length ∧ Run t t.start (l.take i) w s
/-- Behind the positions vs everything is in the table. -/
def WrC (t : Tra) (l : List Int) (G : List Pos) (tw : WM) (vs : List Pos) : Prop := ∀ p ∈ vs, ∀ w, (p, w) ∈ tw → ∀ x ∈ posE t l p, aftP p x ∈ G → (aftP p x, w ++ lab x.out) ∈ tw
theorem wr_init (ht : t.Ok m) {G : List Pos} (h : pos0 t ∈ G) : Wr t l G [(pos0 t, [])] := by
  have h0 := ht.start
  refine ⟨by simp, fun p w hp => ?_, fun p w hp => ?_⟩
  · simp at hp; rw [hp.1]; exact h
  · simp at hp
    refine ⟨t.start.toNat, 0, by rw [hp.1, pos0, Int.toNat_of_nonneg (by omega)]; rfl, by omega, ?_⟩
    rw [hp.2, Int.toNat_of_nonneg (by omega)]
    exact .nil _
theorem wr_uniq {G : List Pos} {tw : WM} (h : Wr t l G tw) {w' : List Int} (h1 : (p, w) ∈ tw) (h2 : (p, w') ∈ tw) : w = w' := by
  have e1 := (aget_mem h.nd).2 h1
  have e2 := (aget_mem h.nd).2 h2
  rw [e1] at e2; exact Option.some.inj e2
theorem wr_add (ht : t.Ok m) {G : List Pos} {tw : WM} (h : Wr t l G tw) (hp : (p, w) ∈ tw) {x : Arc} (hx : x ∈ posE t l p) (hg : aftP p x ∈ G) (hn : aftP p x ∉ tw.map (·.1)) : Wr t l G (tw ++ [(aftP p x, w ++ lab x.out)]) := by
  refine ⟨?_, fun q v hq => ?_, fun q v hq => ?_⟩
  · rw [List.map_append, List.nodup_append]
    exact ⟨h.nd, by simp, fun a ha b hb => by simp at hb; rw [hb]; exact fun e => hn (e ▸ ha)⟩
  · rcases List.mem_append.1 hq with hq | hq
    · exact h.good q v hq
    · simp at hq; rw [hq.1]; exact hg
  · rcases List.mem_append.1 hq with hq | hq
    · exact h.run q v hq
    · simp at hq
      obtain ⟨s, i, rfl, hi, hr⟩ := h.run p w hp
      obtain ⟨s', k, e, _, e2, _, e4, e5, _⟩ := pos_step ht hi hx
      obtain ⟨hxa, hxs, _⟩ := mem_posE.1 hx
      exact ⟨s', k, by rw [hq.1, e], e4, by rw [e5, hq.2, ← e2]; exact hr.snoc hxa hxs⟩
/-- Two words to one good position: two outputs. -/
theorem two_out (ht : t.Ok m) {G : List Pos} (hG : GoodP t l G) {s i : Nat} (hi : i ≤ l.length) (hg : (⟨(s : Int), (i : Int)⟩ : Pos) ∈ G) (h1 : Run t t.start (l.take i) w s) (h2 : Run t t.start (l.take i) v s) (hne : w ≠ v) : ¬ Single t l := fun hS => by
  obtain ⟨f, hf, z, hz⟩ := cor_run ht hi ((hG _).1 hg).2
  have r1 := h1.trans hz
  have r2 := h2.trans hz
  rw [List.take_append_drop] at r1 r2
  exact hne (List.append_cancel_right (hS _ _ ⟨f, hf, r1⟩ ⟨f, hf, r2⟩))
theorem wr_two (ht : t.Ok m) {G : List Pos} {tw : WM} (hG : GoodP t l G) (h : Wr t l G tw) (hp : (p, w) ∈ tw) {x : Arc} (hx : x ∈ posE t l p) (hg : aftP p x ∈ G) (ho : (aftP p x, v) ∈ tw) (hne : v ≠ w ++ lab x.out) : ¬ Single t l := by
  obtain ⟨s, i, rfl, hi, hr⟩ := h.run p w hp
  obtain ⟨s', k, e, _, e2, _, e4, e5, _⟩ := pos_step ht hi hx
  obtain ⟨hxa, hxs, _⟩ := mem_posE.1 hx
  obtain ⟨s2, i2, e6, h2, h3⟩ := h.run _ _ ho
  rw [e] at e6 hg
  simp only [Pos.mk.injEq] at e6
  obtain rfl : s2 = s' := by omega
  obtain rfl : i2 = k := by omega
  refine two_out ht hG h2 hg h3 (v := w ++ lab x.out) ?_ hne
  rw [e5, ← e2]; exact hr.snoc hxa hxs
/-- Whether a position is where the word is accepted. -/
def endB (t : Tra) (l : List Int) (p : Pos) : Bool := decide (p.read = (l.length : Int)) && decide (p.state ∈ t.finals)
theorem wr_rel {G : List Pos} {tw : WM} (h : Wr t l G tw) (hp : (p, w) ∈ tw) (he : endB t l p = true) : Rel t l w := by
  rw [endB, Bool.and_eq_true, decide_eq_true_eq, decide_eq_true_eq] at he
  obtain ⟨s, i, rfl, hi, hr⟩ := h.run p w hp
  have : i = l.length := by have := he.1; simp only [] at this; omega
  subst this
  rw [List.take_length] at hr
  exact ⟨s, he.2, hr⟩
/-- What has been gone through to its end says all. -/
theorem wr_path (ht : t.Ok m) {G : List Pos} {tw : WM} (hG : GoodP t l G) (hc : WrC t l G tw (tw.map (·.1))) {s f : Int} {z : List Int} (h : Run t s u z f) : ∀ {sn i : Nat} {w u' : List Int}, s = (sn : Int) → i ≤ l.length → l.drop i = u ++ u' → u' = [] → f ∈ t.finals → (⟨s, (i : Int)⟩, w) ∈ tw → Reach (posN t l) (· = pos0 t) ⟨s, (i : Int)⟩ → (⟨f, (l.length : Int)⟩, w ++ z) ∈ tw := by
  induction h with
  | nil s =>
    intro sn i w u' hs hi hd hu hf hm _
    subst hu
    have : i = l.length := by
      have := List.drop_eq_nil_iff.1 (by simpa using hd); omega
    subst this
    simpa using hm
  | @cons x us vs f hx hrest ih =>
    intro sn i w u' hs hi hd hu hf hm hr
    obtain ⟨hfi, k, e1, e2⟩ := fit_drop hd
    have hE : x ∈ posE t l ⟨x.src, (i : Int)⟩ := mem_posE.2 ⟨hx, rfl, hfi⟩
    have hE' := hE
    rw [hs] at hE'
    obtain ⟨s1, k', e3, _, e4, e5, e6, _⟩ := pos_step ht hi hE'
    obtain rfl : k' = k := by omega
    have e7 : aftP ⟨x.src, (i : Int)⟩ x = ⟨x.dst, (k' : Int)⟩ := by rw [hs, e3, e4]
    have hr2 : Reach (posN t l) (· = pos0 t) ⟨x.dst, (k' : Int)⟩ := .tail hr (List.mem_map.2 ⟨x, hE, e7⟩)
    obtain ⟨i', g1, g2, g3⟩ := run_pos ht hrest (l := l) e4 e6 e2
    have : i' = l.length := by
      rw [hu] at g2
      have := List.drop_eq_nil_iff.1 g2; omega
    subst this
    have hg : (⟨x.dst, (k' : Int)⟩ : Pos) ∈ G := (hG _).2 ⟨hr2, f, hf, g1⟩
    have hm2 := hc _ (List.mem_map.2 ⟨_, hm, rfl⟩) w hm x hE (by rw [e7]; exact hg)
    rw [e7] at hm2
    have := ih e4 e6 e2 hu hf hm2 hr2
    rw [List.append_assoc] at this
    exact this
theorem wr_single (ht : t.Ok m) {G : List Pos} {tw : WM} (hG : GoodP t l G) (h : Wr t l G tw) (h0 : (pos0 t, []) ∈ tw) (hc : WrC t l G tw (tw.map (·.1))) (hr : ∀ p w q v, (p, w) ∈ tw → (q, v) ∈ tw → endB t l p = true → endB t l q = true → w = v) : Single t l := fun w w' hw hw' => by
  have hs := ht.start
  have e : ((t.start.toNat : Nat) : Int) = t.start := Int.toNat_of_nonneg (by omega)
  have key : ∀ z, Rel t l z → ∃ f, (⟨f, (l.length : Int)⟩, z) ∈ tw ∧ endB t l ⟨f, (l.length : Int)⟩ = true := fun z hz => by
    obtain ⟨f, hf, r⟩ := hz
    have := wr_path ht hG hc r (sn := t.start.toNat) (i := 0) (w := []) (u' := []) e.symm (by omega) (by simp) rfl hf h0 (.base rfl)
    exact ⟨f, by simpa using this, by simp [endB, hf]⟩
  obtain ⟨f, h1, h2⟩ := key w hw
  obtain ⟨g, h3, h4⟩ := key w' hw'
  exact hr _ _ _ _ h1 h3 h2 h4
/-! ### ending -/
/-- The links of the first search: to, from. -/
def EdOk (t : Tra) (l : List Int) (vs : List Pos) (ev : List (Pos × Pos)) : Prop := ∀ e, e ∈ ev ↔ e.2 ∈ vs ∧ e.1 ∈ posN t l e.2
def bkP (ev : List (Pos × Pos)) (p : Pos) : List Pos := (ev.filter fun e => e.1 = p).map fun e => e.2
theorem edOk_next {vs : List Pos} {ev : List (Pos × Pos)} (h : EdOk t l vs ev) {c : Pos} : EdOk t l (vs ++ [c]) (ev ++ (posE t l c).map fun x => (aftP c x, c)) := fun e => by
  rw [List.mem_append, h e, List.mem_append, List.mem_singleton, List.mem_map]
  constructor
  · rintro (⟨h1, h2⟩ | ⟨x, hx, rfl⟩)
    · exact ⟨.inl h1, h2⟩
    · exact ⟨.inr rfl, List.mem_map.2 ⟨x, hx, rfl⟩⟩
  · rintro ⟨h1 | h1, h2⟩
    · exact .inl ⟨h1, h2⟩
    · obtain ⟨x, hx, e1⟩ := List.mem_map.1 h2
      exact .inr ⟨x, h1 ▸ hx, Prod.ext (by rw [← e1, h1]) h1.symm⟩
theorem mem_bkP {ev : List (Pos × Pos)} : q ∈ bkP ev p ↔ (p, q) ∈ ev := by
  simp only [bkP, List.mem_map, List.mem_filter, decide_eq_true_eq]
  constructor
  · rintro ⟨e, ⟨he, rfl⟩, rfl⟩; exact he
  · intro h; exact ⟨_, ⟨h, rfl⟩, rfl⟩
theorem bkP_in {vs : List Pos} {ev : List (Pos × Pos)} (h : EdOk t l vs ev) {S : Pos → Prop} (hS : ∀ p, S p → p ∈ vs) {p : Pos} (hr : Reach (bkP ev) S p) : p ∈ vs := by
  cases hr with
  | base h => exact hS _ h
  | tail _ hy => exact ((h _).1 (mem_bkP.1 hy)).1
theorem good_of {vs : List Pos} {ev : List (Pos × Pos)} (hK : Closure (posN t l) (· = pos0 t) vs) (h : EdOk t l vs ev) {G : List Pos} (hG : Closure (bkP ev) (fun p => p ∈ vs ∧ ∃ f ∈ t.finals, p = ⟨f, (l.length : Int)⟩) G) : GoodP t l G := fun p => by
  rw [hG.mem]
  constructor
  · intro hr
    have hv : p ∈ vs := bkP_in h (fun p hp => hp.1) hr
    refine ⟨(hK.mem p).1 hv, ?_⟩
    clear hv
    induction hr with
    | base h => obtain ⟨_, f, hf, rfl⟩ := h; exact ⟨f, hf, .base rfl⟩
    | tail _ hy ih =>
      obtain ⟨f, hf, hr⟩ := ih
      exact ⟨f, hf, reach_head ((h _).1 (mem_bkP.1 hy)).2 hr⟩
  · rintro ⟨h1, f, hf, h2⟩
    have key : ∀ {a c : Pos}, Reach (posN t l) (· = a) c → a ∈ vs → Reach (bkP ev) (fun p => p ∈ vs ∧ ∃ f ∈ t.finals, p = ⟨f, (l.length : Int)⟩) c → Reach (bkP ev) (fun p => p ∈ vs ∧ ∃ f ∈ t.finals, p = ⟨f, (l.length : Int)⟩) a := fun {a c} hr ha hc => by
      have : ∀ b, Reach (posN t l) (· = a) b → b ∈ vs := fun b hb => by
        induction hb with
        | base h => rw [h]; exact ha
        | tail _ hy ih => exact (hK.mem _).2 (.tail ((hK.mem _).1 ih) hy)
      induction hr with
      | base h => rw [← h]; exact hc
      | @tail b d hb hy ih => exact ih (.tail hc (mem_bkP.2 ((h (d, b)).2 ⟨this b hb, hy⟩)))
    have hv := (hK.mem p).2 h1
    refine key h2 hv (.base ⟨?_, f, hf, rfl⟩)
    exact (hK.mem _).2 (reach_trans h1 h2)
end
/-! ### the tables of single -/
def encT (tw : WM) : List (Pos × ByteArray) := tw.map fun p => (p.1, strL p.2)
theorem encT_len (tw : WM) : (encT tw).length = tw.length := by simp [encT]
theorem aget_enc (tw : WM) (k : Pos) : aget (encT tw) k = (aget tw k).map strL := aget_map strL tw k
theorem enc_some {tw : WM} {k : Pos} (h : (aget (encT tw) k).isSome = true) : ∃ v, aget tw k = some v ∧ aget (encT tw) k = some (strL v) := by
  rw [aget_enc] at h ⊢
  cases hk : aget tw k with
  | none => rw [hk] at h; simp at h
  | some v => exact ⟨v, rfl, rfl⟩
theorem enc_none {tw : WM} {k : Pos} (h : (aget (encT tw) k).isSome = false) : k ∉ tw.map (·.1) := by
  rw [aget_enc] at h
  refine aget_none.1 ?_
  cases hk : aget tw k with
  | none => rfl
  | some v => rw [hk] at h; simp at h
theorem enc_put {tw : WM} {k : Pos} {v : List Int} (h : k ∉ tw.map (·.1)) : aput (encT tw) k (strL v) = encT (tw ++ [(k, v)]) := by
  unfold encT
  rw [← aput_map strL, aput_new (aget_none.2 h)]
theorem enc_get {tw : WM} {k : Pos} {v : List Int} (hn : (tw.map (·.1)).Nodup) (h : (k, v) ∈ tw) : (aget (encT tw) k).getD ⟨#[]⟩ = strL v := by
  rw [aget_enc, (aget_mem hn).2 h]; rfl
/-- The result so far: what was written at the ends that were gone through. -/
def ResO (I : Heap) (T : TypeId) (t : Tra) (l : List Int) (vs : List Pos) (tw : WM) : Option (Nat × List Int) → Prop
  | none => ∀ p ∈ vs, endB t l p = false
  | some (b, r) => I b = some (.cells #[.string (strL r)] T (0, 0)) ∧ (∃ p ∈ vs, (p, r) ∈ tw ∧ endB t l p = true) ∧ ∀ p ∈ vs, ∀ w, (p, w) ∈ tw → endB t l p = true → w = r
def optP : Option (Nat × List Int) → Value
  | none => .pointer none
  | some (b, _) => .pointer (some ⟨b, 0, none⟩)
theorem Wr.len {t : Tra} {l : List Int} {G : List Pos} {tw : WM} (h : Wr t l G tw) : tw.length ≤ G.length := by
  have := h.nd.length_le_of_subset (l₂ := G) fun p hp => by
    obtain ⟨e, he, rfl⟩ := List.mem_map.1 hp
    exact h.good _ _ he
  simpa using this
theorem run_vr {t : Tra} (hl : ∀ x ∈ t.arcs, vRune x.inp = true ∧ vRune x.out = true) {p q : Int} {xs ys : List Int} (h : Run t p xs ys q) : ∀ r ∈ ys, vRune r = true := by
  induction h with
  | nil => simp
  | @cons x us vs q hx _ ih =>
    intro r hr
    rcases List.mem_append.1 hr with hr | hr
    · unfold lab at hr; split at hr
      · simp at hr
      · rw [List.mem_singleton.1 hr]; exact (hl x hx).2
    · exact ih r hr
theorem Wr.vr {t : Tra} {l : List Int} {G : List Pos} {tw : WM} (hl : ∀ x ∈ t.arcs, vRune x.inp = true ∧ vRune x.out = true) (h : Wr t l G tw) {p : Pos} {w : List Int} (hp : (p, w) ∈ tw) : ∀ r ∈ w, vRune r = true := by
  obtain ⟨s, i, _, _, hr⟩ := h.run p w hp
  exact run_vr hl hr
theorem lab_vr {x : Arc} (h : vRune x.out = true) : ∀ r ∈ lab x.out, vRune r = true := fun r hr => by
  unfold lab at hr; split at hr
  · simp at hr
  · rw [List.mem_singleton.1 hr]; exact h
theorem vr_app {w v : List Int} (h : ∀ r ∈ w, vRune r = true) (k : ∀ r ∈ v, vRune r = true) : ∀ r ∈ w ++ v, vRune r = true := fun r hr => (List.mem_append.1 hr).elim (h r) (k r)
theorem lab_le (r : Int) : (lab r).length ≤ 1 := by unfold lab; split <;> simp
/-! the ends -/
def fqP (l : List Int) (K : List Pos) (f : Int) : List Pos := if (Pos.mk f (l.length : Int)) ∈ K then [Pos.mk f (l.length : Int)] else []
theorem mem_fqP {l : List Int} {K : List Pos} {fs : List Int} {p : Pos} : p ∈ fs.flatMap (fqP l K) ↔ p ∈ K ∧ ∃ f ∈ fs, p = ⟨f, (l.length : Int)⟩ := by
  simp only [List.mem_flatMap, fqP]
  constructor
  · rintro ⟨f, hf, h⟩
    split at h
    · rename_i hk; rw [List.mem_singleton.1 h]; exact ⟨hk, f, hf, rfl⟩
    · simp at h
  · rintro ⟨hk, f, hf, rfl⟩
    exact ⟨f, hf, by rw [if_pos hk]; simp⟩
theorem fqP_len (l : List Int) (K : List Pos) (f : Int) : (fqP l K f).length ≤ 1 := by unfold fqP; split <;> simp
theorem fqP_new {l : List Int} {K : List Pos} {fs : List Int} (hn : fs.Nodup) {k : Nat} {f : Int} (hf : fs[k]? = some f) : (Pos.mk f (l.length : Int)) ∉ (fs.take k).flatMap (fqP l K) := fun h => by
  obtain ⟨_, g, hg, e⟩ := mem_fqP.1 h
  simp only [Pos.mk.injEq, and_true] at e
  exact nodup_take_not hn hf (e ▸ hg)
theorem fqs_nodup {l : List Int} {K : List Pos} {fs : List Int} (hn : fs.Nodup) : (fs.flatMap (fqP l K)).Nodup := by
  induction fs with
  | nil => simp
  | cons f fs ih =>
    obtain ⟨h1, h2⟩ := List.nodup_cons.1 hn
    rw [List.flatMap_cons]
    refine List.nodup_append.2 ⟨by unfold fqP; split <;> simp, ih h2, fun x hx y hy e => ?_⟩
    subst e
    obtain ⟨_, g, hg, e2⟩ := mem_fqP.1 hy
    unfold fqP at hx
    split at hx
    · rw [List.mem_singleton.1 hx] at e2
      simp only [Pos.mk.injEq, and_true] at e2
      exact h1 (e2 ▸ hg)
    · simp at hx
theorem good_len {t : Tra} {m : Nat} (ht : t.Ok m) {l : List Int} {G : List Pos} (hn : G.Nodup) (hG : GoodP t l G) : G.length ≤ m * (l.length + 1) := by
  have := hn.length_le_of_subset (l₂ := rectP m l.length) fun p hp => pos_rect ht p ((hG p).1 hp).1
  rw [rectP_len] at this; exact this
open Classical in
noncomputable def sglB (t : Tra) (l : List Int) : Bool := decide (Single t l)
theorem sglB_true {t : Tra} {l : List Int} (h : Single t l) : sglB t l = true := by simp [sglB, h]
theorem sglB_false {t : Tra} {l : List Int} (h : ¬ Single t l) : sglB t l = false := by simp [sglB, h]
theorem sglB_iff {t : Tra} {l : List Int} : sglB t l = true ↔ Single t l := by simp [sglB]
noncomputable def FncS (t : Tra) (ws : List ByteArray) : Bool × Int := if validT t = true then (if chkS ws = 0 then (ws.all fun w => sglB t (runesL w), 0) else (false, chkS ws)) else (false, 1)
/-! the rounds of single -/
theorem ResO.mono {I I' : Heap} {T : TypeId} {t : Tra} {l : List Int} {vs : List Pos} {tw : WM} (h : hle I I') : ∀ {ro : Option (Nat × List Int)}, ResO I T t l vs tw ro → ResO I' T t l vs tw ro
  | none, k => k
  | some (b, r), k => ⟨h _ _ k.1, k.2⟩
section
variable {I : Heap} {T : TypeId} {t : Tra} {l wc : List Int} {vs G : List Pos} {c : Pos} {tw tw2 : WM} {ro : Option (Nat × List Int)}
theorem wr_old (hW2 : Wr t l G tw2) (hvs : ∀ p ∈ vs, p ∈ tw.map (·.1)) (hsub : ∀ e ∈ tw, e ∈ tw2) {p : Pos} (hp : p ∈ vs) {w : List Int} (h : (p, w) ∈ tw2) : (p, w) ∈ tw := by
  obtain ⟨⟨e1, e2⟩, he, rfl⟩ := List.mem_map.1 (hvs p hp)
  rw [wr_uniq hW2 h (hsub _ he)]
  exact he
theorem wrC_next (hc : WrC t l G tw vs) (hW2 : Wr t l G tw2) (hsub : ∀ e ∈ tw, e ∈ tw2) (hvs : ∀ p ∈ vs, p ∈ tw.map (·.1)) (hwc2 : (c, wc) ∈ tw2) (hx : ∀ y ∈ posE t l c, aftP c y ∈ G → (aftP c y, wc ++ lab y.out) ∈ tw2) : WrC t l G tw2 (vs ++ [c]) := fun p hp w hw x hxm hg => by
  rcases List.mem_append.1 hp with hp | hp
  · exact hsub _ (hc p hp w (wr_old hW2 hvs hsub hp hw) x hxm hg)
  · rw [List.mem_singleton.1 hp] at hw hxm hg ⊢
    rw [wr_uniq hW2 hw hwc2]
    exact hx x hxm hg
theorem res_no (hRo : ResO I T t l vs tw ro) (hvs : ∀ p ∈ vs, p ∈ tw.map (·.1)) (hsub : ∀ e ∈ tw, e ∈ tw2) (hW2 : Wr t l G tw2) (hn : endB t l c = false) : ResO I T t l (vs ++ [c]) tw2 ro := by
  rcases ro with _ | ⟨b, r⟩
  · intro p hp
    rcases List.mem_append.1 hp with hp | hp
    · exact hRo p hp
    · rw [List.mem_singleton.1 hp]; exact hn
  · obtain ⟨h1, ⟨p, hp, h2, h3⟩, h4⟩ := hRo
    refine ⟨h1, ⟨p, List.mem_append.2 (.inl hp), hsub _ h2, h3⟩, fun q hq w hw he => ?_⟩
    rcases List.mem_append.1 hq with hq | hq
    · exact h4 q hq w (wr_old hW2 hvs hsub hq hw) he
    · rw [List.mem_singleton.1 hq, hn] at he; cases he
theorem res_end {b : Nat} (hW2 : Wr t l G tw2) (hvs : ∀ p ∈ vs, p ∈ tw.map (·.1)) (hsub : ∀ e ∈ tw, e ∈ tw2) (hwc2 : (c, wc) ∈ tw2) (hb : I b = some (.cells #[.string (strL wc)] T (0, 0))) (he : endB t l c = true) (hold : ∀ p ∈ vs, ∀ w, (p, w) ∈ tw → endB t l p = true → w = wc) : ResO I T t l (vs ++ [c]) tw2 (some (b, wc)) := by
  refine ⟨hb, ⟨c, by simp, hwc2, he⟩, fun q hq w hw hq2 => ?_⟩
  rcases List.mem_append.1 hq with hq | hq
  · exact hold q hq w (wr_old hW2 hvs hsub hq hw) hq2
  · rw [List.mem_singleton.1 hq] at hw; exact wr_uniq hW2 hw hwc2
theorem res_two {r : List Int} (hW : Wr t l G tw) (hbE : ∃ p ∈ vs, (p, r) ∈ tw ∧ endB t l p = true) (hwc : (c, wc) ∈ tw) (hed : endB t l c = true) (hne : ¬ strL r = strL wc) : ¬ Single t l := fun hS => by
  obtain ⟨p, _, h1, h2⟩ := hbE
  exact hne (by rw [hS _ _ (wr_rel hW h1 h2) (wr_rel hW hwc hed)])
theorem res_fin (hRo : ResO I T t l vs tw ro) (hk : tw.map (·.1) = vs) : ∀ p w q v, (p, w) ∈ tw → (q, v) ∈ tw → endB t l p = true → endB t l q = true → w = v := fun p w q v h1 h2 h3 h4 => by
  have k1 : p ∈ vs := hk ▸ List.mem_map.2 ⟨_, h1, rfl⟩
  have k2 : q ∈ vs := hk ▸ List.mem_map.2 ⟨_, h2, rfl⟩
  rcases ro with _ | ⟨b, r⟩
  · rw [hRo p k1] at h3; cases h3
  · rw [hRo.2.2 p k1 w h1 h3, hRo.2.2 q k2 v h2 h4]
end
theorem enc_szP (r : Int) : (Utf8.encode r).size ≤ 4 := by
  have := strL_size [r]
  rw [strL_one] at this
  simpa using this
theorem fnc_inv {t : Tra} {ws : List ByteArray} (h : validT t = false) : FncS t ws = (false, 1) := by rw [FncS, if_neg (by rw [h]; decide)]
theorem chk_len {ws : List ByteArray} (h : chkS ws = 0) : ∀ w ∈ ws, (runesL w).length ≤ 40 := fun w hw => by
  unfold chkS at h
  split at h
  · split at h
    · rename_i h1
      have := List.all_eq_true.1 h1 w hw
      simp only [longS, Bool.not_eq_true', decide_eq_false_iff_not] at this
      omega
    · cases h
  · cases h
theorem rdTrasF {I : Heap} {u : SV} {a : Tra} {fa aa : SV} (R : rdSl ETra I (sv u) [⟨a.states, a.start, fa, aa⟩]) (h1 : rdSl EInt I (sv fa) a.finals) (h2 : rdSl EArc I (sv aa) a.arcs) : rdTras I (sv u) [a] := by
  refine ⟨_, R, rfl, fun j r t hr ht => ?_⟩
  match j, hr, ht with
  | 0, hr, ht => simp at hr ht; subst hr ht; exact ⟨fa, aa, rfl, h1, h2⟩
theorem brief_szF {ws : List ByteArray} (h : (ws.all fun s => !decide (20 < (s.size : Int))) = true) : ∀ s ∈ ws, s.size ≤ 70368744177664 := fun s hs => by
  have := List.all_eq_true.1 h s hs
  simp at this; omega
end Go.Proofs.YtmjieefhjmiagaaGreatDoor.G
