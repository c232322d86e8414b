/- Walks of the program's functions. -/
import Derived.Test.YtfepjcmjkaolgaaGOuu
import Derived.Test.YtfepjcmjkaolgaaGSts
import Derived.Test.YtfepjcmjkaolgaaGRls
import Derived.Test.YtfepjcmjkaolgaaWSc
import Derived.Test.YtfepjcmjkaolgaaGShl
import Derived.Test.YtfepjcmjkaolgaaWA
set_option linter.all false
namespace Go.Proofs.Ytfepjcmjkaolgaa.G
open Go Go.RowKit
noncomputable def wrdS (t : Tra) (xs l : List Int) (n : Nat) : List (List Int) := (List.range n).flatMap fun k => (strs l k).filter (relB t xs)
theorem wrdS_wds {t : Tra} {xs l : List Int} (hl : IsAlph t true l) (n : Nat) : Wds (tnet t xs) ⟨t.start, 0⟩ n (wrdS t xs l (n + 1)) := by
  refine ⟨?_, fun w => ?_⟩
  · rw [wrdS, List.pairwise_flatMap]
    refine ⟨fun k _ => ((strs_sorted hl.1 k).filter _).imp_of_mem fun {a b} ha hb hab => ?_, ?_⟩
    · have h1 := (mem_strs.1 (List.mem_filter.1 ha).1).1
      have h2 := (mem_strs.1 (List.mem_filter.1 hb).1).1
      exact .inr ⟨by omega, hab⟩
    · refine (List.pairwise_lt_range (n := n + 1)).imp_of_mem fun {a b} _ _ hab x hx y hy => .inl ?_
      have h1 := (mem_strs.1 (List.mem_filter.1 hx).1).1
      have h2 := (mem_strs.1 (List.mem_filter.1 hy).1).1
      omega
  · rw [acc_rel, wrdS, List.mem_flatMap]
    constructor
    · rintro ⟨k, hk, hw⟩
      obtain ⟨h1, h2⟩ := List.mem_filter.1 hw
      exact ⟨by have := (mem_strs.1 h1).1; have := List.mem_range.1 hk; omega, relB_iff.1 h2⟩
    · rintro ⟨h1, h2⟩
      refine ⟨w.length, List.mem_range.2 (by omega), List.mem_filter.2 ⟨mem_strs.2 ⟨rfl, fun r hr => ?_⟩, relB_iff.2 h2⟩⟩
      obtain ⟨f, _, hr2⟩ := h2
      obtain ⟨h0, x, hx, e⟩ := (run_out hr2).2 r hr
      exact (hl.2 r).2 ⟨h0, x, hx, e⟩
/-! Outputs of the reference against the program's -/
end Go.Proofs.Ytfepjcmjkaolgaa.G

set_option linter.all false
namespace Go.Proofs.Ytfepjcmjkaolgaa.G
open Go Go.RowKit
def alphL (t : Tra) (wr : Bool) : List Int := (canon (((t.arcs.map (labA wr)).filter fun r => !decide (r = 0)).map fun r => (⟨r, 0, 0, 0⟩ : Arc))).map (·.src)
theorem alphL_is (t : Tra) (wr : Bool) : IsAlph t wr (alphL t wr) := by
  have hform : ∀ a ∈ canon (((t.arcs.map (labA wr)).filter fun r => !decide (r = 0)).map fun r => (⟨r, 0, 0, 0⟩ : Arc)), a = ⟨a.src, 0, 0, 0⟩ := fun a ha => by
    obtain ⟨r, _, rfl⟩ := List.mem_map.1 (mem_canon.1 ha)
    rfl
  refine ⟨?_, fun r => ?_⟩
  · rw [alphL, List.pairwise_map]
    refine (canon_sorted _).imp_of_mem fun {a b} ha hb h => ?_
    rw [hform a ha, hform b hb] at h
    unfold ltArc at h
    simp only [] at h
    omega
  · simp only [alphL, List.mem_map, mem_canon, List.mem_filter, Bool.not_eq_true', decide_eq_false_iff_not]
    constructor
    · rintro ⟨a, ⟨r', ⟨⟨x, hx, e⟩, h0⟩, rfl⟩, rfl⟩; exact ⟨h0, x, hx, e⟩
    · rintro ⟨h0, x, hx, e⟩; exact ⟨⟨r, 0, 0, 0⟩, ⟨r, ⟨⟨x, hx, e⟩, h0⟩, rfl⟩, rfl⟩
/-! Strings -/
end Go.Proofs.Ytfepjcmjkaolgaa.G

set_option linter.all false
namespace Go.Proofs.Ytfepjcmjkaolgaa.G
open Go Go.RowKit
/-! the order of the words -/
open Classical in
noncomputable def slxB (u v : List Int) : Bool := decide (slx u v)
theorem slxB_iff {u v : List Int} : slxB u v = true ↔ slx u v := by simp [slxB]
theorem slxB_ne {u v : List Int} (h : ¬ (u.length : Int) = (v.length : Int)) : slxB u v = decide ((u.length : Int) < (v.length : Int)) := by
  rw [Bool.eq_iff_iff, slxB_iff, decide_eq_true_eq]
  constructor
  · rintro (k | ⟨k, _⟩) <;> omega
  · intro k; exact .inl (by omega)
theorem lexL_pre : ∀ {p u v : List Int}, lexL (p ++ u) (p ++ v) ↔ lexL u v
  | [], u, v => Iff.rfl
  | a :: p, u, v => by
    show (a < a ∨ (a = a ∧ lexL (p ++ u) (p ++ v))) ↔ _
    rw [lexL_pre]
    constructor
    · rintro (h | ⟨_, h⟩)
      · omega
      · exact h
    · intro h; exact .inr ⟨rfl, h⟩
theorem slxB_at {u v : List Int} {k : Nat} {p q : Int} (hl : (u.length : Int) = (v.length : Int)) (hu : u[k]? = some p) (hv : v[k]? = some q) (ht : u.take k = v.take k) (hn : ¬ p = q) : slxB u v = decide (p < q) := by
  rw [Bool.eq_iff_iff, slxB_iff, decide_eq_true_eq]
  have e1 : u = u.take k ++ p :: u.drop (k + 1) := by rw [← drop_cons hu, List.take_append_drop]
  have e2 : v = u.take k ++ q :: v.drop (k + 1) := by rw [ht, ← drop_cons hv, List.take_append_drop]
  have key : lexL u v ↔ p < q := by
    rw [e1, e2, lexL_pre]
    constructor
    · rintro (h | ⟨h, _⟩)
      · exact h
      · exact absurd h hn
    · intro h; exact .inl h
  constructor
  · rintro (k | ⟨_, k⟩)
    · omega
    · exact key.1 k
  · intro h; exact .inr ⟨by omega, key.2 h⟩
theorem slxB_eq {u v : List Int} (hl : (u.length : Int) = (v.length : Int)) (ht : u.take u.length = v.take u.length) : slxB u v = false := by
  have : u = v := by
    rw [List.take_length] at ht
    rw [ht, List.take_of_length_le (by omega)]
  subst this
  rw [Bool.eq_false_iff]
  intro h; exact slx_irrefl (slxB_iff.1 h)

theorem out_codes {t : Tra} {x : ByteArray} {n e : Int} {o : List ByteArray} (h : OutP t x n o e) (hg : goodO t x n = true) : ∃ W, Wds (tnet t (runesL x)) ⟨t.start, 0⟩ n.toNat W ∧ ((W.length ≤ 256 ∧ o = W.map strL ∧ e = 0) ∨ (256 < W.length ∧ o = [] ∧ e = 2)) := by
  have hW := wrdS_wds (t := t) (xs := runesL x) (alphL_is t true) n.toNat
  refine ⟨_, hW, ?_⟩
  obtain ⟨h1, h2⟩ := h.2 hg _ hW
  by_cases hc : (wrdS t (runesL x) (alphL t true) (n.toNat + 1)).length ≤ 256
  · exact .inl ⟨hc, h1 hc⟩
  · exact .inr ⟨by omega, h2 (by omega)⟩
theorem goodO_parts {t : Tra} {x : ByteArray} {n : Int} (h : goodO t x n = true) : validT t = true ∧ okT x = true ∧ 0 ≤ n ∧ n ≤ 4096 := by
  simp only [goodO, Bool.not_eq_true', Bool.or_eq_false_iff, Bool.not_eq_false', decide_eq_false_iff_not] at h
  exact ⟨h.1.1.1, h.1.1.2, by omega, by omega⟩
theorem out_ok0 {t : Tra} {x : ByteArray} {n : Int} {o : List ByteArray} (h : OutP t x n o 0) : goodO t x n = true ∧ ∃ W, Wds (tnet t (runesL x)) ⟨t.start, 0⟩ n.toNat W ∧ W.length ≤ 256 ∧ o = W.map strL := by
  cases hg : goodO t x n with
  | false => have := (h.1 hg).2; cases this
  | true =>
    obtain ⟨W, hW, ⟨h1, h2, _⟩ | ⟨_, _, h3⟩⟩ := out_codes h hg
    · exact ⟨rfl, W, hW, h1, h2⟩
    · cases h3
theorem run_labs {t : Tra} (hv : validT t = true) {p q : Int} {xs ys : List Int} (h : Run t p xs ys q) : Good ys := by
  induction h with
  | nil => intro r hr; simp at hr
  | @cons x us vs q hx _ ih =>
    intro r hr
    rcases List.mem_append.1 hr with hr | hr
    · unfold lab at hr; split at hr
      · simp at hr
      · rename_i h0; rw [List.mem_singleton.1 hr]; exact ⟨(validT_lab hv x hx).2, h0⟩
    · exact ih r hr
theorem rel_good {t : Tra} (hv : validT t = true) {xs w : List Int} (h : Rel t xs w) : Good w := by obtain ⟨f, _, hr⟩ := h; exact run_labs hv hr
theorem relS_word {t : Tra} {x : ByteArray} {w : List Int} (hv : validT t = true) (hx : okT x = true) (hg : Good w) : relS t x (strL w) = relB t (runesL x) w := by
  rw [relS, hv, hx, okT_str hg, runes_str hg.v]; rfl
structure OutOk (t : Tra) (x : ByteArray) (n : Int) (o : List ByteArray) : Prop where
  rel : ∀ s ∈ o, relS t x s = true
  len : ∀ s ∈ o, ((runesL s).length : Int) ≤ n ∧ (s.size : Int) ≤ 4 * n
  srt : ∀ (i : Nat) s t, o[i]? = some s → o[i + 1]? = some t → slxB (runesL s) (runesL t) = true
theorem out_ok {t : Tra} {x : ByteArray} {n : Int} {o : List ByteArray} (h : OutP t x n o 0) : OutOk t x n o := by
  obtain ⟨hg, W, hW, _, rfl⟩ := out_ok0 h
  obtain ⟨hv, hx, h0, _⟩ := goodO_parts hg
  have hw : ∀ w ∈ W, Rel t (runesL x) w ∧ w.length ≤ n.toNat ∧ Good w := fun w hw => by
    obtain ⟨k1, k2⟩ := (hW.mem w).1 hw
    have k3 := acc_rel.1 k2
    exact ⟨k3, k1, rel_good hv k3⟩
  refine ⟨fun s hs => ?_, fun s hs => ?_, fun i s t' hs ht => ?_⟩
  · obtain ⟨w, hw', rfl⟩ := List.mem_map.1 hs
    obtain ⟨k1, _, k3⟩ := hw w hw'
    rw [relS_word hv hx k3, relB_iff]; exact k1
  · obtain ⟨w, hw', rfl⟩ := List.mem_map.1 hs
    obtain ⟨_, k2, k3⟩ := hw w hw'
    have := strL_size w
    rw [runes_str k3.v]
    exact ⟨by omega, by omega⟩
  · rw [List.getElem?_map] at hs ht
    obtain ⟨w, hw1, rfl⟩ := Option.map_eq_some_iff.1 hs
    obtain ⟨w', hw2, rfl⟩ := Option.map_eq_some_iff.1 ht
    have g1 := (hw w (List.mem_of_getElem? hw1)).2.2
    have g2 := (hw w' (List.mem_of_getElem? hw2)).2.2
    rw [runes_str g1.v, runes_str g2.v, slxB_iff]
    obtain ⟨l1, e1⟩ := List.getElem?_eq_some_iff.1 hw1
    obtain ⟨l2, e2⟩ := List.getElem?_eq_some_iff.1 hw2
    have := List.pairwise_iff_getElem.1 hW.sorted i (i + 1) l1 l2 (by omega)
    rw [e1, e2] at this
    exact this
theorem out_err {t : Tra} {x : ByteArray} {n e : Int} {o : List ByteArray} (h : OutP t x n o e) (he : ¬ e = 0) : o = [] ∧ (e = 2 ∨ e = 1) := by
  cases hg : goodO t x n with
  | false => obtain ⟨h1, h2⟩ := h.1 hg; exact ⟨h1, .inr h2⟩
  | true =>
    obtain ⟨W, hW, ⟨_, _, h3⟩ | ⟨_, h2, h3⟩⟩ := out_codes h hg
    · exact absurd h3 he
    · exact ⟨h2, .inl h3⟩
/-- A smaller length: the first of them. -/
theorem out_pre {t : Tra} {x : ByteArray} {k j f : Int} {o m : List ByteArray} (hk : OutP t x k o 0) (hj : OutP t x j m f) (h0 : 0 ≤ j) (hjk : j ≤ k) {c : Nat} (hc : c ≤ o.length) (hle : ∀ s ∈ o.take c, ((runesL s).length : Int) ≤ j) (hst : c = o.length ∨ ∃ s, o[c]? = some s ∧ j < ((runesL s).length : Int)) : f = 0 ∧ m = o.take c := by
  obtain ⟨hg, W, hW, hl, rfl⟩ := out_ok0 hk
  obtain ⟨hv, hx, _, h4⟩ := goodO_parts hg
  have hg2 : goodO t x j = true := by
    rw [goodO, hv, hx, decide_eq_false (show ¬ j < 0 by omega), decide_eq_false (show ¬ 4096 < j by omega)]; rfl
  have hgd : ∀ w ∈ W, Good w := fun w hw => rel_good hv (acc_rel.1 ((hW.mem w).1 hw).2)
  rw [List.length_map] at hc
  have hW' : Wds (tnet t (runesL x)) ⟨t.start, 0⟩ j.toNat (W.take c) := by
    refine ⟨hW.sorted.sublist (List.take_sublist c W), fun w => ⟨fun hw => ?_, fun ⟨h1, h2⟩ => ?_⟩⟩
    · have hw' := List.mem_of_mem_take hw
      refine ⟨?_, ((hW.mem w).1 hw').2⟩
      have := hle (strL w) (by rw [← List.map_take]; exact List.mem_map.2 ⟨w, hw, rfl⟩)
      rw [runes_str (hgd w hw').v] at this
      omega
    · have hw : w ∈ W := (hW.mem w).2 ⟨by omega, h2⟩
      obtain ⟨i, hi, e⟩ := List.mem_iff_getElem.1 hw
      by_cases hic : i < c
      · exact List.mem_iff_getElem.2 ⟨i, by rw [List.length_take]; omega, by rw [List.getElem_take]; exact e⟩
      · rcases hst with hst | ⟨s, hs, hlt⟩
        · rw [List.length_map] at hst; omega
        · rw [List.getElem?_map] at hs
          obtain ⟨w', hw', rfl⟩ := Option.map_eq_some_iff.1 hs
          obtain ⟨hcl, e'⟩ := List.getElem?_eq_some_iff.1 hw'
          rw [runes_str (hgd w' (List.mem_of_getElem? hw')).v] at hlt
          by_cases hc2 : i = c
          · subst hc2; rw [e'] at e; rw [e] at hlt; omega
          · have := List.pairwise_iff_getElem.1 hW.sorted c i hcl hi (by omega)
            rw [e, e'] at this
            rcases this with h | ⟨h, _⟩ <;> omega
  obtain ⟨k1, _⟩ := hj.2 hg2 _ hW'
  obtain ⟨k2, k3⟩ := k1 (by rw [List.length_take]; omega)
  exact ⟨k3, by rw [k2, List.map_take]⟩
end Go.Proofs.Ytfepjcmjkaolgaa.G

set_option linter.all false
namespace Go.Proofs.Ytfepjcmjkaolgaa.G
open Go Go.RowKit
theorem alph_hun {t : Tra} (h : t.arcs.length ≤ 100) : ∀ ks : List Int, ks.Nodup → (∀ r ∈ ks, r ≠ 0 ∧ ∃ z ∈ t.arcs, z.out = r) → ks.length ≤ 4096 := fun ks h1 h2 => by
  have := h1.length_le_of_subset (l₂ := t.arcs.map (·.out)) fun r hr => by
    obtain ⟨_, z, hz, e⟩ := h2 r hr
    exact List.mem_map.2 ⟨z, hz, e⟩
  rw [List.length_map] at this; omega
end Go.Proofs.Ytfepjcmjkaolgaa.G

set_option linter.all false
namespace Go.Proofs.Ytfepjcmjkaolgaa.G
open Go Go.RowKit
theorem before_c (s t : ByteArray) (hs : s.size ≤ 100000) (ht : t.size ≤ 100000) {I : Heap} {w : World} (hI : hle I (hp w)) : Calls A 22 #[.string s, .string t] w (Ret w I fun r _ => r = .bool (slxB (runesL s) (runesL t))) := by
 have hls := runesL_le s
 have hlt := runesL_le t
 have M := Mem.start hI
 refine enter Try.func22 rfl 46 Try.ntmps22 [_, _] rfl ?_
 refine wc_seq <| wc_region <| wl_as M rfl rfl <| wl_nil ?_
 refine wc_seq <| wc_region <| wl_mv M rfl rfl <| wl_e (e_cvRI (E := ERune) (s := s) M (fun _ => rfl) Try.underlying9 Try.underlying40 Try.underlying21 (by omega) rfl) rfl rfl ?_
 rintro v9 w1 ⟨J9, hJ9, R9, M⟩
 obtain ⟨u9, rfl⟩ := rdSl_slice R9
 have hoJ9 := M.old
 replace R9 : rdSl ERune J9 (sv u9) (runesL s) := R9
 refine wl_mv M rfl rfl <| wl_e (e_cvRI (E := ERune) (s := t) M (fun _ => rfl) Try.underlying9 Try.underlying40 Try.underlying21 (by omega) rfl) rfl rfl ?_
 rintro v11 w2 ⟨J11, hJ11, R11, M⟩
 obtain ⟨u11, rfl⟩ := rdSl_slice R11
 have hoJ11 := M.old
 replace R11 : rdSl ERune J11 (sv u11) (runesL t) := R11
 refine wl_as M rfl rfl <| wl_as M rfl rfl <| wl_nil ?_
 refine wc_seq ?_
 refine wc_seq <| wc_region <| wl_mv M rfl rfl <| wl_m M (q_lenR (R9.mono hJ11) Try.underlying40 rfl) rfl rfl <| wl_mv M rfl rfl <| wl_m M (q_lenR R11 Try.underlying40 rfl) rfl rfl <| wl_m M (q_neq rfl rfl) rfl rfl <| wl_nil ?_
 refine wc_cond rfl (fun ht16 => ?_) (fun ht16 => ?_)
 ·have hll : ¬ ((runesL s).length : Int) = ((runesL t).length : Int) := by simpa using ht16
  refine wc_seq <| wc_region <| wl_mv M rfl rfl <| wl_m M (q_lenR (R9.mono hJ11) Try.underlying40 rfl) rfl rfl <| wl_mv M rfl rfl <| wl_m M (q_lenR R11 Try.underlying40 rfl) rfl rfl <| wl_m M (q_lss rfl rfl) rfl rfl <| wl_as M rfl rfl <| wl_nil <| wc_ret ?_
  exact out1 rfl rfl ⟨_, _, rfl, M.grow, by rw [slxB_ne hll]⟩
 have hll : ((runesL s).length : Int) = ((runesL t).length : Int) := by simpa using ht16
 refine wc_skip ?_
 refine wc_seq ?_
 refine wc_seq <| wc_region <| wl_as M rfl rfl <| wl_nil <| wc_block ?_
 refine wc_loop (α := Nat) [4, 7, 22, 23, 24, 25, 26, 27, 28, 29, 30, 31, 32, 33, 34, 35, 36, 37, 38, 39, 40, 41, 42, 43, 44, 45] (fun (k0 : Nat) => [(7, .int .i64 (k0 : Int))])
   (fun (k0 : Nat) w' => (k0 ≤ (runesL s).length) ∧ ((runesL s).take k0 = (runesL t).take k0) ∧ Mem w I J11 ([]) w')
   (fun (k0 : Nat) => (runesL s).length - k0) (0) ⟨rfl, trivial⟩ ?_ ?_
 ·refine ⟨Nat.zero_le _, (by simp), ?_⟩
  exact M
 rintro k0 jj0 w3 ⟨hk0, hp, M⟩
 have hoJ11 := M.old
 refine wc_seq ?_
 refine wc_seq <| wc_region <| wl_mv M rfl rfl <| wl_mv M rfl rfl <| wl_m M (q_lenR (R9.mono hJ11) Try.underlying40 rfl) rfl rfl <| wl_m M (q_lss rfl rfl) rfl rfl <| wl_nil ?_
 refine wc_dec rfl (fun ht25 => ?_) (fun ht25 => ?_)
 ·obtain ⟨x0, hx0⟩ : ∃ x_, (runesL s)[k0]? = some x_ := ⟨_, List.getElem?_eq_getElem (by omega)⟩
  have hll0 := ((R9.mono hJ11)).len_le
  obtain ⟨y0, hy0⟩ : ∃ y_, (runesL t)[k0]? = some y_ := ⟨_, List.getElem?_eq_getElem (by omega)⟩
  refine wc_skip ?_
  refine wc_seq <| wc_block ?_
  refine wc_seq ?_
  refine wc_draws (fun w' => Mem w I J11 ([]) w' ∧ True) [] fol ?_
  replace M := M.drew
  have hS := (⟨M, trivial⟩ : _ ∧ _)
  refine wa_q 0 rfl (by kernel_rfl) (q_move rfl) hS rfl rfl ?_
  refine wa_q 1 rfl (by kernel_rfl) (q_move rfl) hS rfl rfl ?_
  refine wa_ixS (j := k0) 2 hS (fun _ h => (R9.mono hJ11).mono h.1.imm) rfl (by kernel_rfl) Try.underlying40 rfl rfl hx0 rfl (fun b30 o30 p30 => ?_)
  refine wa_q 3 rfl (by kernel_rfl) (q_ldp p30 rfl rfl) hS rfl rfl ?_
  refine wa_q 4 rfl (by kernel_rfl) (q_move rfl) hS rfl rfl ?_
  refine wa_q 5 rfl (by kernel_rfl) (q_move rfl) hS rfl rfl ?_
  refine wa_ixS (j := k0) 6 hS (fun _ h => R11.mono h.1.imm) rfl (by kernel_rfl) Try.underlying40 rfl (ixe (by omega)) hy0 rfl (fun b34 o34 p34 => ?_)
  refine wa_q 7 rfl (by kernel_rfl) (q_ldp p34 rfl rfl) hS rfl rfl ?_
  refine wa_q 8 rfl (by kernel_rfl) (q_neq rfl rfl) hS rfl rfl ?_
  refine wa_done (by kernel_rfl) ?_
  refine wc_cond rfl (fun ht36 => ?_) (fun ht36 => ?_)
  ·have hne : ¬ x0 = y0 := by simpa using ht36
   refine wc_seq ?_
   refine wc_draws (fun w' => Mem w I J11 ([]) w' ∧ True) [] fol ?_
   replace M := M.drew
   have hS := (⟨M, trivial⟩ : _ ∧ _)
   refine wa_q 0 rfl (by kernel_rfl) (q_move rfl) hS rfl rfl ?_
   refine wa_q 1 rfl (by kernel_rfl) (q_move rfl) hS rfl rfl ?_
   refine wa_ixS (j := k0) 2 hS (fun _ h => (R9.mono hJ11).mono h.1.imm) rfl (by kernel_rfl) Try.underlying40 rfl rfl hx0 rfl (fun b39 o39 p39 => ?_)
   refine wa_q 3 rfl (by kernel_rfl) (q_ldp p39 rfl rfl) hS rfl rfl ?_
   refine wa_q 4 rfl (by kernel_rfl) (q_move rfl) hS rfl rfl ?_
   refine wa_q 5 rfl (by kernel_rfl) (q_move rfl) hS rfl rfl ?_
   refine wa_ixS (j := k0) 6 hS (fun _ h => R11.mono h.1.imm) rfl (by kernel_rfl) Try.underlying40 rfl (ixe (by omega)) hy0 rfl (fun b43 o43 p43 => ?_)
   refine wa_q 7 rfl (by kernel_rfl) (q_ldp p43 rfl rfl) hS rfl rfl ?_
   refine wa_q 8 rfl (by kernel_rfl) (q_lss rfl rfl) hS rfl rfl ?_
   refine wa_q 9 rfl (by kernel_rfl) (q_assign rfl) hS rfl rfl ?_
   refine wa_done (by kernel_rfl) ?_
   refine wc_ret ?_
   exact out1 rfl rfl ⟨_, _, rfl, M.grow, by rw [slxB_at hll hx0 hy0 hp hne]⟩
  have heq : x0 = y0 := by simpa using ht36
  refine wc_skip <| wc_region <| wl_mv M rfl rfl <| wl_m M (q_add rfl rfl (IntWalk.i64_in _ (by omega))) rfl rfl ?_
  refine wl_as M rfl rfl <| wl_nil ?_
  refine ⟨(k0 + 1), ?_, ⟨(by omega), (by rw [take_snoc hx0, take_snoc hy0, hp, heq]), M⟩, ⟨rfl, trivial⟩, unw_look rfl unw_base⟩
  show (runesL s).length - (k0 + 1) < (runesL s).length - k0
  omega
 have hke0 : k0 = (runesL s).length := by omega
 rw [hke0] at hp
 refine wc_exit rfl ?_
 refine wc_seq <| wc_region <| wl_as M rfl rfl <| wl_nil <| wc_ret ?_
 exact out1 rfl rfl ⟨_, _, rfl, M.grow, by rw [slxB_eq hll hp]⟩
end Go.Proofs.Ytfepjcmjkaolgaa.G
