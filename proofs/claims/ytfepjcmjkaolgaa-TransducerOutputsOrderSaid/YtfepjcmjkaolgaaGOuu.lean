/- The search for outputs, level by level: what stands between two rounds. Plain Lean. -/
/- What the walk of Outputs leans on. Plain Lean. -/
import Derived.Test.YtfepjcmjkaolgaaGMov
import Derived.Test.YtfepjcmjkaolgaaGLgr
set_option linter.all false
namespace Go.Proofs.Ytfepjcmjkaolgaa.G
open Go Go.RowKit
section
variable {C : Type} [DecidableEq C] {N : Net C} {s : C} {n L : Nat} {ps qs : List (List Int × List C)} {out out0 W : List (List Int)} {k : Nat}
def Dead (N : Net C) (s : C) (n : Nat) (ps : List (List Int × List C)) : Prop := (∀ p ∈ ps, p.2 = []) ∧ ∀ w, w.length ≤ n → ¬ Acc N s w
/-- What the longer prefixes of a prefix are, whatever it is. -/
def Nx (N : Net C) (s : C) (n : Nat) (p : List Int × List C) (qs : List (List Int × List C)) : Prop := (p.2 = [] → qs = []) ∧ ((∀ c, c ∈ p.2 ↔ Live N s n p.1 c) → Nxt N s n p.1 qs)
def Sr (N : Net C) (s : C) (n L : Nat) (ps : List (List Int × List C)) (out : List (List Int)) : Prop := (Lev N s n L ps ∧ Outs N s n L out) ∨ (Dead N s n ps ∧ out = [])
structure SrIn (N : Net C) (s : C) (n : Nat) (ps : List (List Int × List C)) (out0 : List (List Int)) (k : Nat) (out : List (List Int)) (qs : List (List Int × List C)) : Prop where
  out_eq : out = out0 ++ ((ps.take k).filter (accP N)).map (·.1)
  nx : ∃ qss : List (List (List Int × List C)), qss.length = k ∧ qs = qss.flatten ∧ ∀ (i : Nat) p q, ps[i]? = some p → qss[i]? = some q → Nx N s n p q
theorem SrIn.init : SrIn N s n ps out 0 out [] := ⟨by simp, [], rfl, rfl, fun i p q _ h => by simp at h⟩
theorem SrIn.nx_step {p : List Int × List C} {q : List (List Int × List C)} (h : SrIn N s n ps out0 k out qs) (hp : ps[k]? = some p) (hq : Nx N s n p q) : ∃ qss : List (List (List Int × List C)), qss.length = k + 1 ∧ qs ++ q = qss.flatten ∧ ∀ (i : Nat) p q, ps[i]? = some p → qss[i]? = some q → Nx N s n p q := by
  obtain ⟨qss, h1, h2, h3⟩ := h.nx
  refine ⟨qss ++ [q], by simp [h1], by simp [h2], fun i p' q' hp' hq' => ?_⟩
  rw [List.getElem?_append] at hq'
  split at hq'
  · exact h3 i p' q' hp' hq'
  · have hi : i - qss.length = 0 := by
      have := (List.getElem?_eq_some_iff.1 hq').1
      simp at this; omega
    have e : i = k := by omega
    rw [hi] at hq'
    simp at hq'
    subst e hq'
    rw [hp] at hp'
    cases hp'
    exact hq
theorem SrIn.yes {p : List Int × List C} {q : List (List Int × List C)} (h : SrIn N s n ps out0 k out qs) (hp : ps[k]? = some p) (ha : accP N p = true) (hq : Nx N s n p q) : SrIn N s n ps out0 (k + 1) (out ++ [p.1]) (qs ++ q) := by
  refine ⟨?_, h.nx_step hp hq⟩
  rw [take_snoc hp, List.filter_append, List.map_append, ← List.append_assoc, ← h.out_eq]
  simp [ha]
theorem SrIn.no {p : List Int × List C} {q : List (List Int × List C)} (h : SrIn N s n ps out0 k out qs) (hp : ps[k]? = some p) (ha : accP N p = false) (hq : Nx N s n p q) : SrIn N s n ps out0 (k + 1) out (qs ++ q) := by
  refine ⟨?_, h.nx_step hp hq⟩
  rw [take_snoc hp, List.filter_append, List.map_append, ← List.append_assoc, ← h.out_eq]
  simp [ha]
theorem Lev.nd (h : Lev N s n L ps) : ps.Nodup := by
  have := lexL_nd h.sorted
  rw [List.Nodup, List.pairwise_map] at this
  exact this.imp fun h e => h (by rw [e])
theorem nx_fun (hn : ps.Nodup) (hk : k ≤ ps.length) {qss : List (List (List Int × List C))} (hl : qss.length = k) : qss.flatten = (ps.take k).flatMap fun p => qss.getD (ps.idxOf p) [] := by
  have : qss = (ps.take k).map fun p => qss.getD (ps.idxOf p) [] := by
    refine List.ext_getElem (by rw [List.length_map, List.length_take]; omega) fun i h1 h2 => ?_
    rw [List.getElem_map, List.getElem_take, hn.idxOf_getElem i (by omega)]
    simp [List.getD, List.getElem?_eq_getElem h1]
  rw [List.flatMap_def, ← this]
theorem nx_sorted {ps' : List (List Int × List C)} {f : List Int × List C → List (List Int × List C)} (hs : (ps'.map (·.1)).Pairwise lexL) (hlen : ∀ p ∈ ps', p.1.length = L) (hf : ∀ p ∈ ps', Nxt N s n p.1 (f p)) : ((ps'.flatMap f).map (·.1)).Pairwise lexL := by
  rw [List.map_flatMap, List.pairwise_flatMap]
  refine ⟨fun p hp => (hf p hp).sorted, ?_⟩
  rw [List.pairwise_map] at hs
  refine hs.imp_of_mem fun {a b} ha hb hab x hx y hy => ?_
  obtain ⟨q, hq, rfl⟩ := List.mem_map.1 hx
  obtain ⟨q', hq', rfl⟩ := List.mem_map.1 hy
  obtain ⟨r, e⟩ := (hf a ha).pre q hq
  obtain ⟨r', e'⟩ := (hf b hb).pre q' hq'
  rw [e, e']
  exact lexL_snoc r r' (by rw [hlen a ha, hlen b hb]) hab
theorem nx_all (hl : Lev N s n L ps) (hk : k ≤ ps.length) {qss : List (List (List Int × List C))} (hql : qss.length = k) (h : ∀ (i : Nat) p q, ps[i]? = some p → qss[i]? = some q → Nx N s n p q) : ∀ p ∈ ps.take k, Nxt N s n p.1 (qss.getD (ps.idxOf p) []) := fun p hp => by
  obtain ⟨i, hi⟩ := List.getElem?_of_mem hp
  have hik := (List.getElem?_eq_some_iff.1 hi).1
  rw [List.length_take] at hik
  rw [List.getElem?_take, if_pos (by omega)] at hi
  obtain ⟨h1, rfl⟩ := List.getElem?_eq_some_iff.1 hi
  rw [hl.nd.idxOf_getElem i h1]
  have hq : qss[i]? = some (qss[i]'(by omega)) := List.getElem?_eq_getElem (by omega)
  have := (h i _ _ hi hq).2 (hl.set _ (List.getElem_mem h1))
  rw [List.getD, hq]
  exact this
theorem SrIn.done (h : SrIn N s n ps out0 ps.length out qs) (h0 : Sr N s n L ps out0) (hL : L ≤ n) : Sr N s n (L + 1) qs out := by
  obtain ⟨qss, h1, h2, h3⟩ := h.nx
  have ho := h.out_eq
  rw [List.take_length] at ho
  rcases h0 with ⟨hl, hO⟩ | ⟨⟨hd1, hd2⟩, rfl⟩
  · left
    refine ⟨?_, by rw [ho]; exact hO.next hl hL⟩
    rw [h2, nx_fun hl.nd (Nat.le_refl _) h1, List.take_length]
    exact hl.next fun p hp => nx_all hl (Nat.le_refl _) h1 h3 p (by rw [List.take_length]; exact hp)
  · right
    have hq : ∀ q ∈ qss, q = [] := fun q hq => by
      obtain ⟨i, hi⟩ := List.getElem?_of_mem hq
      have hik := (List.getElem?_eq_some_iff.1 hi).1
      have hp : ps[i]? = some (ps[i]'(by omega)) := List.getElem?_eq_getElem (by omega)
      exact (h3 i _ _ hp hi).1 (hd1 _ (List.getElem_mem (by omega)))
    refine ⟨⟨fun p hp => ?_, hd2⟩, ?_⟩
    · rw [h2, List.mem_flatten] at hp
      obtain ⟨q, hq1, hq2⟩ := hp
      rw [hq q hq1] at hq2; simp at hq2
    · rw [ho, List.filter_eq_nil_iff.2 fun p hp => by rw [accP, hd1 p hp]; simp]; rfl
theorem Sr.le (h : Sr N s n L ps out) (hW : Wds N s n W) : out.length ≤ W.length := by
  rcases h with ⟨_, hO⟩ | ⟨_, rfl⟩
  · exact hO.le hW
  · simp
theorem Sr.fin (h : Sr N s n (n + 1) ps out) (hW : Wds N s n W) : out = W := by
  rcases h with ⟨_, hO⟩ | ⟨⟨_, hd⟩, rfl⟩
  · exact hO.fin hW
  · cases W with
    | nil => rfl
    | cons w W => have := (hW.mem w).1 (by simp); exact absurd this.2 (hd w this.1)
theorem SrIn.big (h : SrIn N s n ps out0 k out qs) (hk : k ≤ ps.length) (h0 : Sr N s n L ps out0) (hL : L ≤ n) (hW : Wds N s n W) : out.length ≤ W.length ∧ qs.length ≤ W.length := by
  obtain ⟨qss, h1, h2, h3⟩ := h.nx
  have ho := h.out_eq
  rcases h0 with ⟨hl, hO⟩ | ⟨⟨hd1, hd2⟩, rfl⟩
  · constructor
    · have := (hO.next hl hL).le hW
      rw [ho, List.length_append, List.length_map]
      rw [List.length_append, List.length_map] at this
      have hs : ((ps.take k).filter (accP N)).length ≤ (ps.filter (accP N)).length := ((List.take_sublist k ps).filter _).length_le
      omega
    · have hx := nx_all hl hk h1 h3
      rw [h2, nx_fun hl.nd hk h1]
      have hlen : ∀ p ∈ ps.take k, p.1.length = L := fun p hp => hl.len p (List.mem_of_mem_take hp)
      have hs : ((ps.take k).map (·.1)).Pairwise lexL := by
        rw [List.map_take]; exact hl.sorted.sublist (List.take_sublist _ _)
      have hn := lexL_nd (nx_sorted hs hlen hx)
      have hsub : ∀ u ∈ (((ps.take k).flatMap fun p => qss.getD (ps.idxOf p) []).map (·.1)), u ∈ W.map fun w => w.take (L + 1) := fun u hu => by
        obtain ⟨q, hq, rfl⟩ := List.mem_map.1 hu
        obtain ⟨p, hp, hq⟩ := List.mem_flatMap.1 hq
        obtain ⟨c, hc⟩ := (hx p hp).ne q hq
        obtain ⟨r, e⟩ := (hx p hp).pre q hq
        obtain ⟨w, ha, hw⟩ := (((hx p hp).set q hq c).1 hc).acc
        exact List.mem_map.2 ⟨_, (hW.mem _).2 ⟨hw, ha⟩, List.take_left' (by rw [e, List.length_append, hlen p hp]; rfl)⟩
      have := hn.length_le_of_subset hsub
      simpa using this
  · have hq : ∀ q ∈ qss, q = [] := fun q hq => by
      obtain ⟨i, hi⟩ := List.getElem?_of_mem hq
      have hik := (List.getElem?_eq_some_iff.1 hi).1
      have hp : ps[i]? = some (ps[i]'(by omega)) := List.getElem?_eq_getElem (by omega)
      exact (h3 i _ _ hp hi).1 (hd1 _ (List.getElem_mem (by omega)))
    have e1 : qs = [] := by rw [h2]; exact List.flatten_eq_nil_iff.2 hq
    have e2 : out = [] := by
      rw [ho, List.filter_eq_nil_iff.2 fun p hp => by rw [accP, hd1 p (List.mem_of_mem_take hp)]; simp]; rfl
    rw [e1, e2]; simp
end
end Go.Proofs.Ytfepjcmjkaolgaa.G

set_option linter.all false
namespace Go.Proofs.Ytfepjcmjkaolgaa.G
open Go Go.RowKit
theorem Pres.at {h : Heap} : ∀ {rs : List RPre} {qs : List (List Int × List TCfg)}, Pres h rs qs → ∀ {j : Nat} {r : RPre}, rs[j]? = some r → ∃ q, qs[j]? = some q ∧ PreOk h r q
  | _ :: _, q :: _, p, 0, r, e => by simp at e; subst e; exact ⟨q, rfl, p.1⟩
  | _ :: _, _ :: _, p, j + 1, r, e => by simp at e; simpa using Pres.at p.2 e
theorem Pres.app {h : Heap} {rs' : List RPre} {qs' : List (List Int × List TCfg)} (k : Pres h rs' qs') : ∀ {rs : List RPre} {qs : List (List Int × List TCfg)}, Pres h rs qs → Pres h (rs ++ rs') (qs ++ qs')
  | [], [], _ => k
  | _ :: _, _ :: _, p => ⟨p.1, Pres.app k p.2⟩
section
variable {t : Tra} {l : List Int} {K : List TCfg} {dist : List (TCfg × Int)}
theorem acc_ends {q : List Int × List TCfg} : ((endsT t l).any fun c => decide (c ∈ q.2)) = accP (tnet t l) q := by
  rw [Bool.eq_iff_iff, accP, List.any_eq_true, List.any_eq_true]
  constructor
  · rintro ⟨c, h1, h2⟩; exact ⟨c, by simpa using h2, dn_ends.2 h1⟩
  · rintro ⟨c, h1, h2⟩; exact ⟨c, dn_ends.1 h2, by simpa using h1⟩
theorem sr_zero {nn : Nat} {n : Int} (hn : (nn : Int) = n) (hK : Closure (tcN t l) (· = ⟨t.start, 0⟩) K) (hd : DistOk (tnet t l) ⟨t.start, 0⟩ dist) {cs : List TCfg}
    (h : ∀ c, c ∈ cs ↔ Reach (fun c => (silM (K.flatMap (tcE t l)) c).filter fun c => okD dist c (n - 0)) (fun c => c ∈ [(⟨t.start, 0⟩ : TCfg)] ∧ okD dist c (n - 0) = true) c) : Sr (tnet t l) ⟨t.start, 0⟩ nn 0 [([], cs)] [] := by
  have h' : ∀ c, c ∈ cs ↔ Clo (tnet t l) dist nn [(⟨t.start, 0⟩ : TCfg)] c := fun c => by
    rw [h c, Int.sub_zero, ← hn]
    exact clo_silM hK fun c hc => (hK.mem _).2 (.base (List.mem_singleton.1 hc))
  cases cs with
  | nil => exact .inr ⟨⟨fun p hp => by rw [List.mem_singleton.1 hp], fun w hw => lev_none hd (fun c hc => by have := (h' c).2 hc; simp at this) hw⟩, rfl⟩
  | cons c cs => exact .inl ⟨lev_zero hd h' (by simp), out_zero⟩
theorem nx_out {nn : Nat} {n : Int} (hn : (nn : Int) = n) (hK : Closure (tcN t l) (· = ⟨t.start, 0⟩) K) (hd : DistOk (tnet t l) ⟨t.start, 0⟩ dist) {q : List Int × List TCfg} {ys : List Int} {fr Kf : Int → List TCfg}
    (h : ys.Pairwise (· < ·) ∧ (∀ r, r ∈ ys ↔ ∃ c ∈ q.2, ∃ m ∈ K.flatMap (tcE t l), m.src = c ∧ m.out = r ∧ r ≠ 0) ∧ (∀ r d, r ≠ 0 → (d ∈ fr r ↔ ∃ c ∈ q.2, ∃ m ∈ K.flatMap (tcE t l), m.src = c ∧ m.out = r ∧ m.dst = d)) ∧
      ∀ r ∈ ys, ∀ c, c ∈ Kf r ↔ Reach (fun c => (silM (K.flatMap (tcE t l)) c).filter fun c => okD dist c (n - ((q.1.length : Int) + 1))) (fun c => c ∈ fr r ∧ okD dist c (n - ((q.1.length : Int) + 1)) = true) c) :
    Nx (tnet t l) ⟨t.start, 0⟩ nn q (qsL q.1 ys Kf) := by
  subst hn
  refine ⟨fun e => ?_, fun hset => nxt_longer hK hd hset h⟩
  have : ys = [] := List.eq_nil_iff_forall_not_mem.2 fun r hr => by
    obtain ⟨c, hc, _⟩ := (h.2.1 r).1 hr
    rw [e] at hc; simp at hc
  rw [this]; rfl
end
def goodO (t : Tra) (x : ByteArray) (n : Int) : Bool := !(((!validT t || !okT x) || decide (n < 0)) || decide (4096 < n))
def OutP (t : Tra) (x : ByteArray) (n : Int) (out : List ByteArray) (e : Int) : Prop :=
  (goodO t x n = false → out = [] ∧ e = 1) ∧ (goodO t x n = true → ∀ W, Wds (tnet t (runesL x)) ⟨t.start, 0⟩ n.toNat W → (W.length ≤ 256 → out = W.map strL ∧ e = 0) ∧ (256 < W.length → out = [] ∧ e = 2))
theorem outP_bad {t : Tra} {x : ByteArray} {n : Int} (h : (((!validT t || !okT x) || decide (n < 0)) || decide (4096 < n)) = true) : OutP t x n [] 1 := ⟨fun _ => ⟨rfl, rfl⟩, fun g => by rw [goodO, h] at g; cases g⟩
theorem outP_big {t : Tra} {x : ByteArray} {n : Int} (hg : (((!validT t || !okT x) || decide (n < 0)) || decide (4096 < n)) = false) (h : ∀ W, Wds (tnet t (runesL x)) ⟨t.start, 0⟩ n.toNat W → 256 < W.length) : OutP t x n [] 2 :=
  ⟨fun g => (by rw [goodO, hg] at g; cases g), fun _ W hW => ⟨fun k => absurd (h W hW) (by omega), fun _ => ⟨rfl, rfl⟩⟩⟩
theorem outP_ok {t : Tra} {x : ByteArray} {n : Int} {o : List (List Int)} (hg : (((!validT t || !okT x) || decide (n < 0)) || decide (4096 < n)) = false) (ho : o.length ≤ 256) (h : ∀ W, Wds (tnet t (runesL x)) ⟨t.start, 0⟩ n.toNat W → o = W) : OutP t x n (o.map strL) 0 :=
  ⟨fun g => (by rw [goodO, hg] at g; cases g), fun _ W hW => ⟨fun _ => ⟨by rw [h W hW], rfl⟩, fun k => absurd (h W hW ▸ ho) (by omega)⟩⟩
theorem sum_sub {α β : Type} (f : α → List β) : ∀ (R K : List α), K.Nodup → (∀ x ∈ K, x ∈ R) → (K.flatMap f).length ≤ (R.flatMap f).length := by
  classical
  intro R
  induction R with
  | nil => intro K _ h; cases K with
    | nil => simp
    | cons x K => exact absurd (h x (by simp)) (by simp)
  | cons r R ih =>
    intro K hn h
    rw [List.flatMap_cons, List.length_append]
    by_cases hr : r ∈ K
    · have hp := List.perm_cons_erase hr
      have e : (K.flatMap f).length = ((r :: K.erase r).flatMap f).length := by
        rw [List.length_flatMap, List.length_flatMap]
        exact (hp.map _).sum_nat
      rw [e, List.flatMap_cons, List.length_append]
      have := ih (K.erase r) (hn.erase r) fun x hx => by
        have h1 := (hn.mem_erase_iff).1 hx
        exact (List.mem_cons.1 (h x h1.2)).resolve_left h1.1
      omega
    · have := ih K hn fun x hx => (List.mem_cons.1 (h x hx)).resolve_left fun e => hr (e ▸ hx)
      omega
theorem outs_sum (t : Tra) : ∀ m : Nat, ((List.range m).flatMap fun (p : Nat) => t.outs (p : Int)).length ≤ (t.arcs.filter fun x => decide (x.src < (m : Int))).length
  | 0 => by simp
  | m + 1 => by
    rw [List.range_succ, List.flatMap_append, List.length_append, List.flatMap_cons, List.flatMap_nil, List.append_nil]
    have ih := outs_sum t m
    have key : ∀ l : List Arc, (l.filter fun x => decide (x.src < (m : Int))).length + (l.filter fun x => decide (x.src = (m : Int))).length ≤ (l.filter fun x => decide (x.src < ((m + 1 : Nat) : Int))).length := fun l => by
      induction l with
      | nil => simp
      | cons x l ih =>
        simp only [List.filter_cons]
        by_cases h1 : x.src < (m : Int)
        · rw [decide_eq_true h1, decide_eq_false (show ¬ x.src = (m : Int) by omega), decide_eq_true (show x.src < ((m + 1 : Nat) : Int) by omega)]
          simp only [if_true, Bool.false_eq_true, if_false, List.length_cons]; omega
        · by_cases h2 : x.src = (m : Int)
          · rw [decide_eq_false h1, decide_eq_true h2, decide_eq_true (show x.src < ((m + 1 : Nat) : Int) by omega)]
            simp only [if_true, Bool.false_eq_true, if_false, List.length_cons]; omega
          · rw [decide_eq_false h1, decide_eq_false h2, decide_eq_false (show ¬ x.src < ((m + 1 : Nat) : Int) by omega)]
            simp only [Bool.false_eq_true, if_false]; exact ih
    have := key t.arcs
    show _ + (t.arcs.filter _).length ≤ _
    omega
theorem mv_big {t : Tra} {m : Nat} {l : List Int} {K : List TCfg} {sz : Nat} (ht : t.Ok m) (hl : l.length ≤ sz) (hK : Closure (tcN t l) (· = ⟨t.start, 0⟩) K) (h : (sz + 1) * t.arcs.length ≤ 1048576) : (K.flatMap (tcE t l)).length ≤ 1048576 := by
  have h1 := sum_sub (tcE t l) (rect2 m l.length) K hK.nodup fun c hc => tc_rect ht.arcs ht.start c ((hK.mem c).1 hc)
  have h2 : ((rect2 m l.length).flatMap (tcE t l)).length ≤ (l.length + 1) * t.arcs.length := by
    have e : ∀ n : Nat, (((List.range n).flatMap fun (p : Nat) => (List.range (l.length + 1)).map fun (i : Nat) => (⟨(p : Int), (i : Int)⟩ : TCfg)).flatMap (tcE t l)).length ≤ (l.length + 1) * ((List.range n).flatMap fun (p : Nat) => t.outs (p : Int)).length := fun n => by
      induction n with
      | zero => simp
      | succ n ih =>
        rw [List.range_succ (n := n), List.flatMap_append, List.flatMap_append, List.length_append, List.flatMap_append, List.length_append, Nat.mul_add]
        refine Nat.add_le_add ih ?_
        rw [List.flatMap_cons, List.flatMap_nil, List.append_nil, List.flatMap_cons, List.flatMap_nil, List.append_nil]
        have : ∀ is : List Nat, ((is.map fun (i : Nat) => (⟨(n : Int), (i : Int)⟩ : TCfg)).flatMap (tcE t l)).length ≤ is.length * (t.outs (n : Int)).length := fun is => by
          induction is with
          | nil => simp
          | cons i is ih2 =>
            rw [List.map_cons, List.flatMap_cons, List.length_append, List.length_cons, Nat.add_mul, Nat.one_mul]
            have := flat_len (mv1_len l ⟨(n : Int), (i : Int)⟩) (t.outs (n : Int))
            have h3 : (tcE t l ⟨(n : Int), (i : Int)⟩).length ≤ (t.outs (n : Int)).length := by
              show ((t.outs (n : Int)).flatMap _).length ≤ _
              omega
            omega
        have := this (List.range (l.length + 1))
        rw [List.length_range] at this
        exact this
    refine Nat.le_trans (e m) (Nat.mul_le_mul (Nat.le_refl _) (Nat.le_trans (outs_sum t m) (List.length_filter_le _ _)))
  have h3 := Nat.mul_le_mul (show l.length + 1 ≤ sz + 1 by omega) (Nat.le_refl t.arcs.length)
  omega
theorem alph_mv {t : Tra} {l : List Int} {K : List TCfg} (hal : ∀ ks : List Int, ks.Nodup → (∀ r ∈ ks, r ≠ 0 ∧ ∃ z ∈ t.arcs, z.out = r) → ks.length ≤ 4096) : ∀ ks : List Int, ks.Nodup → (∀ r ∈ ks, r ≠ 0 ∧ ∃ m ∈ K.flatMap (tcE t l), m.out = r) → ks.length ≤ 4096 := fun ks h1 h2 => hal ks h1 fun r hr => by
  obtain ⟨h0, m, hm, rfl⟩ := h2 r hr
  obtain ⟨c, _, hm⟩ := List.mem_flatMap.1 hm
  obtain ⟨z, hz, _, _, rfl⟩ := mem_tcE.1 hm
  exact ⟨h0, z, hz, rfl⟩
end Go.Proofs.Ytfepjcmjkaolgaa.G
