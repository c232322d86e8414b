/- The program's reached, Empty and Trim: what they mean. Plain Lean; the test of a slice for nil. -/
import Derived.Test.YtfepjcmjkaolgaaGRls
import Derived.Lib.SliceRun
set_option linter.all false
namespace Go.Proofs.Ytfepjcmjkaolgaa.G
open Go Go.RowKit Go.Sort Go.Shelf
section
variable {P : Program} {n : Nat} {ops : Array Oper} {e : Env} {dst : Option Tmp} {ty : TypeId} {pos : String} {af : Array Go.Edge} {S : World → Prop}
theorem q_eqlN {T T2 el : TypeId} {x y : Operand} {u : SV} (hu : P.underlying T = some (.slice el)) (hx : evo e x = some (sv u)) (hy : evo e y = some (.slice none 0 0)) : Quiet P n ops S ⟨dst, .binOp .eql T x y T2, ty, pos, af, none⟩ e (.bool u.1.isNone) := by
  replace hx := ev_of hx
  replace hy := ev_of hy
  refine q_of rfl fun w _ => ?_
  simp only [execOp, hx, hy, eqGuard, sv]
  simp [Lib.run_eql_slice_nil w T el u.1 u.2.1 u.2.2 0 0 hu]
end
section
variable {P : Program} {n : Nat} {ops : Array Oper} {ty : TypeId} {pos : String} {af : Array Go.Edge} {w0 w : World} {I0 I : Heap} {L : List Res} {α : Type} {E : ET P α} {V : ET P SV}
theorem wl_ixmw {K : Env → World → Prop} {rest : List Oper} {l : List (Nat × Value)} {b : Env} {d : Nat} {t : TypeId} {x ix : Operand} {v : Value} {k : IntKind} {os vs : List SV} {xss : List (List α)} {j : Nat} (i : Nat) (M : Mem w0 I0 I L w) (hL : L[i]? = some (mat E V v os vs xss)) (ht : P.underlying t = some (.slice V.T)) (hx : evo (look l b) x = some v) (hi : evo (look l b) ix = some (.int k (j : Int))) (hj : j < os.length) (hn : Nat.blt d n = true)
    (h : ∀ b' o', eptr V v j b' o' → WL P n ops K rest (look ((d, .pointer (some ⟨b', o', none⟩)) :: l) b) w) : WL P n ops K (⟨some d, .indexAddr t x ix, ty, pos, af, none⟩ :: rest) (look l b) w := by
  obtain ⟨b', o', p, q⟩ := q_ixmw (P := P) (n := n) (ops := ops) (S := Mem w0 I0 I L) (dst := some d) (ty := ty) (pos := pos) (af := af) i M hL ht hx hi hj
  exact wl_q q M rfl hn (h b' o' p)
end
section
variable {P : Program} {n : Nat} {ops : Array Oper} {ty : TypeId} {pos : String} {af : Array Go.Edge} {w0 w : World} {I0 I' : Heap} {L' : List Res} {α : Type} {E : ET P α} {S : World → Prop}
/-- An element's place in new memory, where nothing else may be done. -/
theorem wa_ix1G {F : List Nat} {K : Env → World → Prop} {l : List (Nat × Value)} {b : Env} {d fuel : Nat} {listed : Array Bool} {t : TypeId} {x ix : Operand} {v : Value} {k : IntKind} {xs : List α} {j : Nat} {y : α} (g : Nat) {want u : Bool} {dg : Nat} (hg : (ops[g]?).bind (·.dst) = some dg) (hgn : Nat.blt dg n = true) (hgt : look l b dg = some (.bool u)) (hgw : u = want) (i : Nat) (M : Mem w0 I0 I' L' w) (hS : S w) (R : rdSl E I' v xs) (hi0 : ops[i]? = some ⟨some d, .indexAddr t x ix, ty, pos, af, some (g, want)⟩) (hr : Region.ready .any ops listed = [i]) (ht : P.underlying t = some (.slice E.T)) (hx : evo (look l b) x = some v) (hi : evo (look l b) ix = some (.int k (j : Int))) (hj : xs[j]? = some y) (hn : Nat.blt d n = true)
    (h : ∀ b' o', sptr (Mem w0 I0 I' L') b' o' (E.cells y) → WA P n ops S F K fuel (listed.setIfInBounds i true) (look ((d, .pointer (some ⟨b', o', none⟩)) :: l) b) w) : WA P n ops S F K (fuel + 1) listed (look l b) w := by
  obtain ⟨b', o', p, q⟩ := q_ix (P := P) (n := n) (ops := ops) (dst := some d) (ty := ty) (pos := pos) (af := af) M R ht hx hi hj
  exact wa_q1 i hi0 hr (q_guard g hg hgn hgt hgw q) M rfl hn (fun _ => hS) (h b' o' p)
end
theorem rd_none {P : Program} {α : Type} {E : ET P α} {h : Heap} {u : SV} {xs : List α} (R : rdSl E h (sv u) xs) (hn : u.1.isNone = true) : xs = [] := by
  obtain ⟨A, c, hv, _, _, h4⟩ := R
  simp only [sv, Value.slice.injEq] at hv
  rcases xs with _ | ⟨x, xs⟩
  · rfl
  · obtain ⟨b, o, h5, _⟩ := h4 (by simp)
    rw [hv.1, h5] at hn; simp at hn
/-! the matrix of steps -/
def nxS (fwd : Bool) (l : List Arc) (s : Nat) : List Int := (l.filter fun x => eA fwd x = (s : Int)).map (eB fwd)
def nxM (fwd : Bool) (m : Nat) (l : List Arc) : List (List Int) := (List.range m).map (nxS fwd l)
theorem nxM_nil (fwd : Bool) (m : Nat) : nxM fwd m [] = List.replicate m [] := by
  simp [nxM, List.eq_replicate_iff, nxS]
theorem nxM_at {fwd : Bool} {m : Nat} {l : List Arc} {s : Nat} (h : s < m) : (nxM fwd m l)[s]? = some (nxS fwd l s) := by simp [nxM, h]
theorem nxM_snoc {fwd : Bool} {m : Nat} {l : List Arc} {x : Arc} {s : Nat} (hs : eA fwd x = (s : Int)) (h : s < m) : nxM fwd m (l ++ [x]) = (nxM fwd m l).set s (nxS fwd l s ++ [eB fwd x]) := by
  apply List.ext_getElem?
  intro j
  rw [List.getElem?_set]
  by_cases hj : j < m
  · rw [nxM_at hj]
    by_cases e : s = j
    · subst e
      rw [if_pos rfl, if_pos (by simpa [nxM] using h), nxS, nxS, List.filter_append]
      simp [hs]
    · rw [if_neg e, nxM_at hj, nxS, nxS, List.filter_append]
      have : ¬ (s : Int) = (j : Int) := by omega
      simp [hs, this]
  · have h1 : (nxM fwd m (l ++ [x]))[j]? = none := by simp [nxM]; omega
    have h2 : (nxM fwd m l)[j]? = none := by simp [nxM]; omega
    rw [h1, if_neg (by omega), h2]
theorem nxS_len (fwd : Bool) (l : List Arc) (s : Nat) : (nxS fwd l s).length ≤ l.length := by
  rw [nxS, List.length_map]; exact List.length_filter_le _ _
theorem nxS_stp (t : Tra) (fwd : Bool) (s : Nat) : nxS fwd t.arcs s = stp t fwd (s : Int) := rfl
/-- The search with a queue in which a state may stand more than once. -/
structure Rq (E : Int → List Int) (fr : List Int) (m A : Nat) (l : List Bool) (q : List Int) : Prop where
  len : l.length = m
  sub : ∀ s, bt l s → Reach E (· ∈ fr) s
  rch : ∀ s ∈ q, Reach E (· ∈ fr) s
  frm : ∀ s ∈ fr, bt l s ∨ s ∈ q
  cl : ∀ s, bt l s → ∀ r ∈ E s, bt l r ∨ r ∈ q
  bnd : l.count false * (A + 1) + q.length ≤ m * (A + 1) + fr.length
section
variable {E : Int → List Int} {fr : List Int} {m A : Nat} {l : List Bool} {q : List Int} {s : Int}
theorem Rq.init : Rq E fr m A (List.replicate m false) fr :=
  ⟨by simp, fun s h => absurd h bt_rep, fun s h => .base h, fun s h => .inr h, fun s h => absurd h bt_rep, by simp [List.count_replicate]⟩
theorem Rq.known (h : Rq E fr m A l (s :: q)) (hs : bt l s) : Rq E fr m A l q := by
  refine ⟨h.len, h.sub, fun r hr => h.rch r (List.mem_cons_of_mem _ hr), fun r hr => ?_, fun r hr x hx => ?_, by have := h.bnd; simp only [List.length_cons] at this; omega⟩
  · rcases h.frm r hr with h1 | h1
    · exact .inl h1
    · rcases List.mem_cons.1 h1 with rfl | h1
      · exact .inl hs
      · exact .inr h1
  · rcases h.cl r hr x hx with h1 | h1
    · exact .inl h1
    · rcases List.mem_cons.1 h1 with rfl | h1
      · exact .inl hs
      · exact .inr h1
theorem Rq.push (h : Rq E fr m A l (s :: q)) (h0 : 0 ≤ s ∧ s < m) (hf : l[s.toNat]? = some false) (hA : (E s).length ≤ A) : Rq E fr m A (l.set s.toNat true) (q ++ E s) := by
  have hb : 0 ≤ s ∧ s < l.length := by rw [h.len]; exact h0
  have hbs : bt (l.set s.toNat true) s := (bt_set hb).2 (.inl rfl)
  have hc := count_set hf
  refine ⟨by simp [h.len], fun r hr => ?_, fun r hr => ?_, fun r hr => ?_, fun r hr x hx => ?_, ?_⟩
  · rcases (bt_set hb).1 hr with rfl | h1
    · exact h.rch _ (by simp)
    · exact h.sub r h1
  · rcases List.mem_append.1 hr with h1 | h1
    · exact h.rch r (List.mem_cons_of_mem _ h1)
    · exact .tail (h.rch s (by simp)) h1
  · rcases h.frm r hr with h1 | h1
    · exact .inl ((bt_set hb).2 (.inr h1))
    · rcases List.mem_cons.1 h1 with rfl | h1
      · exact .inl hbs
      · exact .inr (List.mem_append_left _ h1)
  · rcases (bt_set hb).1 hr with rfl | h1
    · exact .inr (List.mem_append_right _ hx)
    · rcases h.cl r h1 x hx with h2 | h2
      · exact .inl ((bt_set hb).2 (.inr h2))
      · rcases List.mem_cons.1 h2 with rfl | h2
        · exact .inl hbs
        · exact .inr (List.mem_append_left _ h2)
  · have h1 := h.bnd
    rw [← hc, Nat.add_mul, Nat.one_mul] at h1
    simp only [List.length_cons, List.length_append] at h1 ⊢
    omega
theorem Rq.push_mu (h : Rq E fr m A l (s :: q)) (hf : l[s.toNat]? = some false) (hA : (E s).length ≤ A) : (l.set s.toNat true).count false * (A + 1) + (q ++ E s).length < l.count false * (A + 1) + (s :: q).length := by
  have hc := count_set hf
  rw [← hc, Nat.add_mul, Nat.one_mul]
  simp only [List.length_cons, List.length_append]
  omega
theorem Rq.push_len (h : Rq E fr m A l (s :: q)) (hf : l[s.toNat]? = some false) (hA : (E s).length ≤ A) : (s :: q).length + (E s).length ≤ m * (A + 1) + fr.length := by
  have hc := count_set hf
  have h1 := h.bnd
  rw [← hc, Nat.add_mul, Nat.one_mul] at h1
  simp only [List.length_cons] at h1 ⊢
  omega
theorem Rq.fin (h : Rq E fr m A l []) (s : Int) : bt l s ↔ Reach E (· ∈ fr) s := by
  refine ⟨h.sub s, fun hr => ?_⟩
  induction hr with
  | base h1 => exact (h.frm _ h1).resolve_right (by simp)
  | tail _ hy ih => exact (h.cl _ ih _ hy).resolve_right (by simp)
end
theorem valid_fl {t : Tra} (h : validT t = true) : t.finals.length ≤ 4096 := by
  obtain ⟨_, _, _, h1⟩ := validT_ok h
  omega
theorem stp_rng {t : Tra} {m : Nat} (ha : ∀ x ∈ t.arcs, (0 ≤ x.src ∧ x.src < m) ∧ 0 ≤ x.dst ∧ x.dst < m) {fwd : Bool} {fr : List Int} (hfr : ∀ f ∈ fr, 0 ≤ f ∧ f < m) {s : Int} (h : Reach (stp t fwd) (· ∈ fr) s) : 0 ≤ s ∧ s < m := by
  cases h with
  | base h => exact hfr s h
  | tail _ h =>
    obtain ⟨x, hx, _, rfl⟩ := mem_stp.1 h
    unfold eB
    split
    · exact (ha x hx).2
    · exact (ha x hx).1
/-! Empty and Trim -/
open Classical in
noncomputable def dnB (t : Tra) : Bool := decide (Reach (stp t false) (· ∈ t.finals) t.start)
noncomputable def emptyS (t : Tra) : Bool := !(validT t) || !(dnB t)
theorem dn_at {t : Tra} {m : Nat} {bs : List Bool} (hs : 0 ≤ t.start ∧ t.start < m) (hl : bs.length = m) (h : ∀ s, bt bs s ↔ Reach (stp t false) (· ∈ t.finals) s) : bs[t.start.toNat]? = some (dnB t) := by
  have h1 := h t.start
  rw [bt] at h1
  have h2 : t.start.toNat < bs.length := by omega
  rw [List.getElem?_eq_getElem h2] at h1 ⊢
  congr 1
  rw [Bool.eq_iff_iff]
  simp only [dnB, decide_eq_true_eq]
  rw [← h1]
  simp [hs.1]
noncomputable def TrimP (t : Tra) : Tra := if validT t = true then TrimS t t.states.toNat else zeroTra
theorem empty_kp {t : Tra} (hs : 0 ≤ t.start) (hv : validT t = true) : emptyS t = !(kpS t t.start.toNat) := by
  unfold emptyS dnB
  rw [hv, Bool.eq_iff_iff]
  simp only [Bool.not_true, Bool.false_or, Bool.not_eq_true', decide_eq_false_iff_not]
  rw [← Bool.not_eq_true, kpS_iff, Int.toNat_of_nonneg hs]
  constructor
  · intro h h1; exact h h1.2
  · intro h h1; exact h ⟨up_start t, h1⟩
def nuP (kp : Nat → Bool) (i : Nat) : Int := if kp i = true then (rk kp i : Int) else -1
def nuQ (kp : Nat → Bool) (m k : Nat) : List Int := (List.range k).map (nuP kp) ++ List.replicate (m - k) 0
theorem nuQ_len {kp : Nat → Bool} {m k : Nat} (h : k ≤ m) : (nuQ kp m k).length = m := by simp [nuQ]; omega
theorem nuQ_set {kp : Nat → Bool} {m k : Nat} (hk : k < m) (v : Int) (h : nuP kp k = v) : (nuQ kp m k).set k v = nuQ kp m (k + 1) := by
  obtain ⟨q, hq⟩ : ∃ q, m - k = q + 1 := ⟨m - k - 1, by omega⟩
  have h1 : m - (k + 1) = q := by omega
  rw [nuQ, nuQ, hq, h1, List.replicate_succ, List.set_append, if_neg (by simp), List.range_succ, List.map_append]
  simp [h]
theorem nuQ_hit {kp : Nat → Bool} {m k : Nat} (hk : k < m) (h : kp k = true) : ((nuQ kp m k).set k (-1)).set k (rk kp k : Int) = nuQ kp m (k + 1) := by
  rw [List.set_set]; exact nuQ_set hk _ (by rw [nuP, if_pos h])
theorem nuQ_skip {kp : Nat → Bool} {m k : Nat} (hk : k < m) (h : kp k = false) : (nuQ kp m k).set k (-1) = nuQ kp m (k + 1) :=
  nuQ_set hk _ (by rw [nuP, if_neg (by rw [h]; decide)])
theorem nuQ_at {kp : Nat → Bool} {m i : Nat} (h : i < m) : (nuQ kp m m)[i]? = some (nuP kp i) := by simp [nuQ, h]
theorem nuP_nn {kp : Nat → Bool} {i : Nat} : decide (0 ≤ nuP kp i) = kp i := by
  unfold nuP
  cases h : kp i
  · rw [if_neg (by decide)]; rfl
  · rw [if_pos rfl, decide_eq_true_eq]; omega
def finQ (kp : Nat → Bool) (f : Int) : List Int := if kp f.toNat = true then [(rk kp f.toNat : Int)] else []
theorem finQ_len (kp : Nat → Bool) (f : Int) : (finQ kp f).length ≤ 1 := by unfold finQ; split <;> simp
def arcQ (kp : Nat → Bool) (x : Arc) : List Arc := if (kp x.src.toNat && kp x.dst.toNat) = true then [⟨(rk kp x.src.toNat : Int), (rk kp x.dst.toNat : Int), x.inp, x.out⟩] else []
theorem nuP_at {kp : Nat → Bool} {i : Nat} (h : kp i = true) : nuP kp i = (rk kp i : Int) := by rw [nuP, if_pos h]
theorem srt_canon {l l' : List Arc} (hn : l.Nodup) (h : ∀ z, z ∈ l ↔ z ∈ l') : srtA l = canon l' := by
  have h1 : (srtA l).Nodup := (List.mergeSort_perm l _).nodup_iff.2 hn
  have h2 : (srtA l).Pairwise ltArc := ((srtA_sorted l).and h1).imp fun {a b} h3 => by
    rcases ltArc_tri a b with h4 | h4 | h4
    · exact h4
    · exact absurd h4 h3.2
    · exact absurd h4 h3.1
  exact sorted_ext h2 (canon_sorted l') fun z => by rw [mem_canon, ← h, srtA, (List.mergeSort_perm l _).mem_iff]
theorem arcQ_yes {kp : Nat → Bool} {x : Arc} (h : (kp x.src.toNat && kp x.dst.toNat) = true) : arcQ kp x = [Arc.mk (nuP kp x.src.toNat) (nuP kp x.dst.toNat) x.inp x.out] := by
  have h' := Bool.and_eq_true_iff.1 h
  rw [arcQ, if_pos h, nuP_at h'.1, nuP_at h'.2]
theorem trm_push {kp : Nat → Bool} {l ra : List Arc} {k : Nat} {x : Arc} (hx : l[k]? = some x) (h : ra.Nodup ∧ ∀ z, z ∈ ra ↔ z ∈ (l.take k).flatMap (arcQ kp)) (hk : (kp x.src.toNat && kp x.dst.toNat) = true) (hn : Arc.mk (nuP kp x.src.toNat) (nuP kp x.dst.toNat) x.inp x.out ∉ ra) :
    (ra ++ [Arc.mk (nuP kp x.src.toNat) (nuP kp x.dst.toNat) x.inp x.out]).Nodup ∧ ∀ z, z ∈ ra ++ [Arc.mk (nuP kp x.src.toNat) (nuP kp x.dst.toNat) x.inp x.out] ↔ z ∈ (l.take (k + 1)).flatMap (arcQ kp) := by
  refine ⟨List.nodup_append.2 ⟨h.1, by simp, fun a ha b hb e => ?_⟩, fun z => by rw [take_flat hx, arcQ_yes hk, List.mem_append, List.mem_append, h.2]⟩
  rw [List.mem_singleton.1 hb] at e
  exact hn (e ▸ ha)
theorem trm_skip {kp : Nat → Bool} {l ra : List Arc} {k : Nat} {x : Arc} (hx : l[k]? = some x) (h : ra.Nodup ∧ ∀ z, z ∈ ra ↔ z ∈ (l.take k).flatMap (arcQ kp)) (hk : (kp x.src.toNat && kp x.dst.toNat) = false ∨ ((kp x.src.toNat && kp x.dst.toNat) = true ∧ (!decide (Arc.mk (nuP kp x.src.toNat) (nuP kp x.dst.toNat) x.inp x.out ∈ ra)) = false)) :
    ra.Nodup ∧ ∀ z, z ∈ ra ↔ z ∈ (l.take (k + 1)).flatMap (arcQ kp) := by
  refine ⟨h.1, fun z => ?_⟩
  rw [take_flat hx, List.mem_append, ← h.2]
  rcases hk with hk | ⟨hk, hm⟩
  · rw [arcQ, if_neg (by rw [hk]; decide)]; simp
  · rw [arcQ_yes hk, List.mem_singleton]
    exact ⟨.inl, fun e => e.elim id fun e => by rw [e]; exact nd_f hm⟩
theorem trimP_bad {t : Tra} (h : (!(validT t)) = true) : TrimP t = zeroTra := by
  rw [TrimP, if_neg (by simpa using h)]
theorem trimP_one {t : Tra} {m : Nat} (hs : 0 ≤ t.start ∧ t.start < m) (hv : validT t = true) (h : emptyS t = true) : TrimP t = oneTra := by
  rw [empty_kp hs.1 hv] at h
  rw [TrimP, if_pos hv, TrimS, if_neg (by simpa using h)]
theorem trimP_at {t : Tra} {m : Nat} (hr : t.Rng m) (hst : t.states = m) (hv : validT t = true) (hfs : t.finals.Pairwise (· < ·)) (hk : kpS t t.start.toNat = true) {l : List Arc} (hl : l.Nodup ∧ ∀ z, z ∈ l ↔ z ∈ t.arcs.flatMap (arcQ (kpS t))) :
    TrimP t = ⟨(rk (kpS t) m : Int), nuP (kpS t) t.start.toNat, t.finals.flatMap (finQ (kpS t)), srtA l⟩ := by
  rw [TrimP, if_pos hv, hst, Int.toNat_natCast, TrimS, if_pos hk, nuP_at hk, srt_canon hl.1 hl.2]
  congr 1
  refine (isorted_ext (fin_flat (fun _ => rfl) hfs fun f hf => (hr.fin f hf).1) (finS_sorted t m) fun x => ?_).symm
  rw [mem_finS, List.mem_flatMap]
  constructor
  · rintro ⟨f, hf, hx⟩
    have h0 := hr.fin f hf
    split at hx
    · rename_i h; exact ⟨f.toNat, by omega, h, by rw [Int.toNat_of_nonneg h0.1]; exact hf, by simpa using hx⟩
    · simp at hx
  · rintro ⟨i, hi, h1, h2, rfl⟩
    exact ⟨(i : Int), h2, by simp [finQ, h1]⟩
end Go.Proofs.Ytfepjcmjkaolgaa.G
