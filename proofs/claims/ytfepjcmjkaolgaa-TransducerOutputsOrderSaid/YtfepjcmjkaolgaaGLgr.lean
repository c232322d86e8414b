/- Prefixes of outputs, as the search keeps them. -/
/- What (*search).longer gathers: the moves that write, by their runes. Plain Lean. -/
/- The prefixes that are one rune longer are the next level's. Plain Lean. -/
import Derived.Test.YtfepjcmjkaolgaaGMov
import Derived.Test.YtfepjcmjkaolgaaGSqB
set_option linter.all false
namespace Go.Proofs.Ytfepjcmjkaolgaa.G
open Go Go.RowKit
structure RPre where
  text : SV
  set : Nat
def RPre.cells (x : RPre) : List Value := [sv x.text, .map (some x.set)]
noncomputable def EPre : ET A RPre := ET.agg 72 2 32 RPre.cells _ Try.underlying72 rfl (.agg #[.slice none 0 0, .map none]) rfl (by kernel_rfl) (by decide) (by decide) (fun _ => rfl) (fun x v hv => by simp [RPre.cells] at hv; rcases hv with rfl | rfl <;> rfl)
def PreOk (h : Heap) (r : RPre) (q : List Int × List TCfg) : Prop := rdSl ERune h (sv r.text) q.1 ∧ rdMp QTCfg Value.bool h (.map (some r.set)) (tr q.2)
theorem PreOk.mono {h h' : Heap} (k : hle h h') {r : RPre} {q : List Int × List TCfg} (p : PreOk h r q) : PreOk h' r q := ⟨p.1.mono k, p.2.mono k⟩
/-- The prefixes of a slice. -/
def Pres (h : Heap) : List RPre → List (List Int × List TCfg) → Prop
  | [], [] => True
  | r :: rs, q :: qs => PreOk h r q ∧ Pres h rs qs
  | _, _ => False
theorem Pres.mono {h h' : Heap} (k : hle h h') : ∀ {rs : List RPre} {qs : List (List Int × List TCfg)}, Pres h rs qs → Pres h' rs qs
  | [], [], _ => trivial
  | _ :: _, _ :: _, p => ⟨p.1.mono k, Pres.mono k p.2⟩
theorem Pres.len {h : Heap} : ∀ {rs : List RPre} {qs : List (List Int × List TCfg)}, Pres h rs qs → rs.length = qs.length
  | [], [], _ => rfl
  | _ :: _, _ :: _, p => by simp [Pres.len p.2]
theorem Pres.snoc {h : Heap} {r : RPre} {q : List Int × List TCfg} (k : PreOk h r q) : ∀ {rs : List RPre} {qs : List (List Int × List TCfg)}, Pres h rs qs → Pres h (rs ++ [r]) (qs ++ [q])
  | [], [], _ => ⟨k, trivial⟩
  | _ :: _, _ :: _, p => ⟨p.1, Pres.snoc k p.2⟩
def extK (Kf : Int → List TCfg) (x : Int) (K : List TCfg) : Int → List TCfg := fun z => if z = x then K else Kf z
def qsL (txt : List Int) (l : List Int) (Kf : Int → List TCfg) : List (List Int × List TCfg) := (l.filter fun r => !(Kf r).isEmpty).map fun r => (txt ++ [r], Kf r)
theorem qsL_ext {txt l : List Int} {Kf : Int → List TCfg} {x : Int} {K : List TCfg} (hx : x ∉ l) : qsL txt l (extK Kf x K) = qsL txt l Kf := by
  have e : ∀ r ∈ l, extK Kf x K r = Kf r := fun r hr => if_neg (fun e : r = x => hx (e ▸ hr))
  unfold qsL
  rw [show (l.filter fun r => !(extK Kf x K r).isEmpty) = l.filter fun r => !(Kf r).isEmpty from List.filter_congr fun r hr => by rw [e r hr]]
  exact List.map_congr_left fun r hr => by rw [e r (List.mem_filter.1 hr).1]
theorem qsL_yes {txt l : List Int} {Kf : Int → List TCfg} {x : Int} {K : List TCfg} (hx : x ∉ l) (hK : 0 < K.length) : qsL txt (l ++ [x]) (extK Kf x K) = qsL txt l Kf ++ [(txt ++ [x], K)] := by
  have h1 : extK Kf x K x = K := if_pos rfl
  have h2 : (!(K.isEmpty)) = true := by cases K with | nil => simp at hK | cons => rfl
  have : qsL txt (l ++ [x]) (extK Kf x K) = qsL txt l (extK Kf x K) ++ [(txt ++ [x], K)] := by simp [qsL, h1, h2]
  rw [this, qsL_ext hx]
theorem qsL_no {txt l : List Int} {Kf : Int → List TCfg} {x : Int} {K : List TCfg} (hx : x ∉ l) (hK : ¬ 0 < K.length) : qsL txt (l ++ [x]) (extK Kf x K) = qsL txt l Kf := by
  have h1 : extK Kf x K x = K := if_pos rfl
  have h2 : K.isEmpty = true := by cases K with | nil => rfl | cons => simp at hK
  have : qsL txt (l ++ [x]) (extK Kf x K) = qsL txt l (extK Kf x K) := by simp [qsL, h1, h2]
  rw [this, qsL_ext hx]
theorem sorted_new {ys : List Int} (h : ys.Pairwise (· < ·)) {k : Nat} {x : Int} (hx : ys[k]? = some x) : x ∉ ys.take k := fun hm => by
  obtain ⟨i, hi⟩ := List.getElem?_of_mem hm
  have hil := (List.getElem?_eq_some_iff.1 hi).1
  rw [List.length_take] at hil
  rw [List.getElem?_take, if_pos (by omega)] at hi
  obtain ⟨h1, e1⟩ := List.getElem?_eq_some_iff.1 hi
  obtain ⟨h2, e2⟩ := List.getElem?_eq_some_iff.1 hx
  have := List.pairwise_iff_getElem.1 h i k h1 h2 (by omega)
  omega
theorem strict_of {ys : List Int} (h : ys.Pairwise (· ≤ ·)) (hn : ys.Nodup) : ys.Pairwise (· < ·) := (h.and hn).imp fun h => by omega
theorem givesK {l : List (Int × SV)} {bm : Nat} {mb : Option Nat} {I : Heap} (Rl : rdMp QRune sv I (.map mb) l) (Hb : I bm = some (.cells (#[.map mb] : Array Value) 107 (0, 0))) {w0 : World} {I0 : Heap} :
    Gives A 78 #[.pointer (some ⟨bm, 0, none⟩)] (Value.int .i32) (fun xs => xs.Perm (l.map (·.1))) l.length w0 I0 I :=
  fun γ lp Lt c0 w M hY => keys1T_c Rl Hb lp Lt c0 M hY
end Go.Proofs.Ytfepjcmjkaolgaa.G

set_option linter.all false
namespace Go.Proofs.Ytfepjcmjkaolgaa.G
open Go Go.RowKit
theorem lgr_tr {cs : List TCfg} : (tr cs).length = cs.length := by simp [tr]
def outsM (mv : List Move) (p : TCfg × Bool) : List Move := (mv.filter fun m_ => m_.src = p.1).filter fun m_ => !decide (m_.out = 0)
section
variable {mv : List Move} {dn : List (TCfg × Bool)} {cs : List TCfg}
theorem lgr_all {e : Move} (hdn : dn.Perm (tr cs)) : e ∈ dn.flatMap (outsM mv) ↔ ∃ c ∈ cs, e ∈ mv ∧ e.src = c ∧ e.out ≠ 0 := by
  rw [List.mem_flatMap]
  constructor
  · rintro ⟨p, hp, he⟩
    have hp' := hdn.mem_iff.1 hp
    obtain ⟨c, hc, rfl⟩ := List.mem_map.1 hp'
    have := List.mem_filter.1 he
    have h2 := List.mem_filter.1 this.1
    exact ⟨c, hc, h2.1, by simpa using h2.2, by simpa using this.2⟩
  · rintro ⟨c, hc, h1, h2, h3⟩
    exact ⟨(c, true), hdn.mem_iff.2 (List.mem_map.2 ⟨c, hc, rfl⟩), List.mem_filter.2 ⟨List.mem_filter.2 ⟨h1, by simpa using h2⟩, by simpa using h3⟩⟩
theorem lgr_flat (dn : List (TCfg × Bool)) : (dn.flatMap (outsM mv)).length ≤ dn.length * mv.length := by
  induction dn with
  | nil => simp
  | cons p l ih =>
    rw [List.flatMap_cons, List.length_append, List.length_cons, Nat.add_mul, Nat.one_mul]
    have : (outsM mv p).length ≤ mv.length := Nat.le_trans (List.length_filter_le _ _) (List.length_filter_le _ _)
    omega
theorem lgr_len {lm : List (Int × SV)} (hdn : dn.Perm (tr cs)) (hal : ∀ ks : List Int, ks.Nodup → (∀ r ∈ ks, r ≠ 0 ∧ ∃ m ∈ mv, m.out = r) → ks.length ≤ 4096) (hlk : lm.map (·.1) = gk (grp (fun e : Move => e.out) (fun e : Move => e.dst) (dn.flatMap (outsM mv)))) : lm.length ≤ 4096 := by
  rw [← List.length_map (f := (·.1)), hlk]
  refine hal _ (grp_nodup _ _ _) fun r hr => ?_
  obtain ⟨e, he, rfl⟩ := (mem_gk_grp _ _ _ _).1 hr
  obtain ⟨c, _, h1, _, h3⟩ := (lgr_all hdn).1 he
  exact ⟨h3, e, h1, rfl⟩
theorem lgr_fr (hmv : mv.length ≤ 1048576) (hcs : cs.length ≤ 2097152) (hdn : dn.Perm (tr cs)) (r : Int) : ((aget (grp (fun e : Move => e.out) (fun e : Move => e.dst) (dn.flatMap (outsM mv))) r).getD []).length ≤ 4398046511104 := by
  have h1 := grp_look_len (fun e : Move => e.out) (fun e : Move => e.dst) r (dn.flatMap (outsM mv))
  have h2 := lgr_flat (mv := mv) dn
  have h3 : dn.length = cs.length := by rw [hdn.length_eq, lgr_tr]
  have h4 := Nat.mul_le_mul (show dn.length ≤ 2097152 by omega) hmv
  omega
theorem lgr_qs {txt ys : List Int} {k : Nat} {Kf : Int → List TCfg} : (qsL txt (ys.take k) Kf).length ≤ ys.length := by
  rw [qsL, List.length_map]
  exact Nat.le_trans (List.length_filter_le _ _) (List.length_take_le' _ _)
theorem lgr_mem {lm : List (Int × SV)} {ys : List Int} (hdn : dn.Perm (tr cs)) (hlk : lm.map (·.1) = gk (grp (fun e : Move => e.out) (fun e : Move => e.dst) (dn.flatMap (outsM mv)))) (hy : ys.Perm (lm.map (·.1))) (r : Int) : r ∈ ys ↔ ∃ c ∈ cs, ∃ m ∈ mv, m.src = c ∧ m.out = r ∧ r ≠ 0 := by
  rw [hy.mem_iff, hlk, mem_gk_grp]
  constructor
  · rintro ⟨e, he, rfl⟩
    obtain ⟨c, hc, h1, h2, h3⟩ := (lgr_all hdn).1 he
    exact ⟨c, hc, e, h1, h2, rfl, h3⟩
  · rintro ⟨c, hc, m, hm, h1, rfl, h3⟩
    exact ⟨m, (lgr_all hdn).2 ⟨c, hc, hm, h1, h3⟩, rfl⟩
theorem lgr_by (hdn : dn.Perm (tr cs)) (r : Int) (d : TCfg) (h0 : r ≠ 0) : d ∈ (aget (grp (fun e : Move => e.out) (fun e : Move => e.dst) (dn.flatMap (outsM mv))) r).getD [] ↔ ∃ c ∈ cs, ∃ m ∈ mv, m.src = c ∧ m.out = r ∧ m.dst = d := by
  rw [grp_look, List.mem_map]
  constructor
  · rintro ⟨e, he, rfl⟩
    have he' := List.mem_filter.1 he
    obtain ⟨c, hc, h1, h2, h3⟩ := (lgr_all hdn).1 he'.1
    exact ⟨c, hc, e, h1, h2, by simpa using he'.2, rfl⟩
  · rintro ⟨c, hc, m, hm, h1, h2, rfl⟩
    exact ⟨m, List.mem_filter.2 ⟨(lgr_all hdn).2 ⟨c, hc, hm, h1, by rw [h2]; exact h0⟩, by simpa using h2⟩, rfl⟩
end
end Go.Proofs.Ytfepjcmjkaolgaa.G

set_option linter.all false
namespace Go.Proofs.Ytfepjcmjkaolgaa.G
open Go Go.RowKit
theorem reach_congr {C : Type} {N1 N2 : C → List C} {P : C → Prop} {K : C → Prop} (h0 : ∀ c, P c → K c) (hs : ∀ c, K c → ∀ d, d ∈ N1 c ↔ d ∈ N2 c) (hc : ∀ c, K c → ∀ d, d ∈ N1 c → K d) {c : C} : Reach N1 P c ↔ Reach N2 P c := by
  have h12 : ∀ c, Reach N1 P c → K c ∧ Reach N2 P c := fun c h => by
    induction h with
    | base h => exact ⟨h0 _ h, .base h⟩
    | tail _ hm ih => exact ⟨hc _ ih.1 _ hm, .tail ih.2 ((hs _ ih.1 _).1 hm)⟩
  have h21 : ∀ c, Reach N2 P c → K c ∧ Reach N1 P c := fun c h => by
    induction h with
    | base h => exact ⟨h0 _ h, .base h⟩
    | tail _ hm ih => exact ⟨hc _ ih.1 _ ((hs _ ih.1 _).2 hm), .tail ih.2 ((hs _ ih.1 _).2 hm)⟩
  exact ⟨fun h => (h12 c h).2, fun h => (h21 c h).2⟩
section
variable {t : Tra} {l : List Int} {K : List TCfg}
theorem mv_src {m : Move} {c : TCfg} (hc : c ∈ K) : (m ∈ K.flatMap (tcE t l) ∧ m.src = c) ↔ m ∈ tcE t l c := by
  constructor
  · rintro ⟨h, rfl⟩
    obtain ⟨s, hs, hm⟩ := List.mem_flatMap.1 h
    have : m.src = s := by
      obtain ⟨x, _, _, _, rfl⟩ := mem_tcE.1 hm; rfl
    rw [this]; exact hm
  · intro h
    have : m.src = c := by
      obtain ⟨x, _, _, _, rfl⟩ := mem_tcE.1 h; rfl
    exact ⟨List.mem_flatMap.2 ⟨c, hc, h⟩, this⟩
theorem live_in {n : Nat} {u : List Int} {c : TCfg} (hK : Closure (tcN t l) (· = ⟨t.start, 0⟩) K) (h : Live (tnet t l) ⟨t.start, 0⟩ n u c) : c ∈ K := (hK.mem _).2 (wlk_reach h.1 (.base rfl))
theorem clo_silM {dist : List (TCfg × Int)} {k : Int} {fr : List TCfg} (hK : Closure (tcN t l) (· = ⟨t.start, 0⟩) K) (hfr : ∀ c ∈ fr, c ∈ K) {c : TCfg} : Reach (fun c => (silM (K.flatMap (tcE t l)) c).filter fun d => okD dist d k) (fun c => c ∈ fr ∧ okD dist c k = true) c ↔ Clo (tnet t l) dist k fr c := by
  refine reach_congr (K := (· ∈ K)) (fun c h => hfr c h.1) (fun c hc d => ?_) (fun c hc d hd => ?_)
  · rw [List.mem_filter, List.mem_filter, silM_net hc]
  · have := (silM_net hc).1 (List.mem_filter.1 hd).1
    obtain ⟨m, hm, _, rfl⟩ := mem_sil.1 this
    exact (hK.mem _).2 (.tail ((hK.mem _).1 hc) (List.mem_map.2 ⟨m, hm, rfl⟩))
theorem nxt_longer {n : Nat} {dist : List (TCfg × Int)} {txt : List Int} {cs : List TCfg} {ys : List Int} {fr Kf : Int → List TCfg} (hK : Closure (tcN t l) (· = ⟨t.start, 0⟩) K) (hd : DistOk (tnet t l) ⟨t.start, 0⟩ dist) (hset : ∀ c, c ∈ cs ↔ Live (tnet t l) ⟨t.start, 0⟩ n txt c)
    (h : ys.Pairwise (· < ·) ∧ (∀ r, r ∈ ys ↔ ∃ c ∈ cs, ∃ m ∈ K.flatMap (tcE t l), m.src = c ∧ m.out = r ∧ r ≠ 0) ∧ (∀ r d, r ≠ 0 → (d ∈ fr r ↔ ∃ c ∈ cs, ∃ m ∈ K.flatMap (tcE t l), m.src = c ∧ m.out = r ∧ m.dst = d)) ∧
      ∀ r ∈ ys, ∀ c, c ∈ Kf r ↔ Reach (fun c => (silM (K.flatMap (tcE t l)) c).filter fun c => okD dist c ((n : Int) - ((txt.length : Int) + 1))) (fun c => c ∈ fr r ∧ okD dist c ((n : Int) - ((txt.length : Int) + 1)) = true) c) :
    Nxt (tnet t l) ⟨t.start, 0⟩ n txt (qsL txt ys Kf) := by
  obtain ⟨h1, h2, h3, h4⟩ := h
  have hin : ∀ c ∈ cs, c ∈ K := fun c hc => live_in hK ((hset c).1 hc)
  have hsp : ∀ r d c, c ∈ cs → ((r, d) ∈ (tnet t l).spk c ↔ r ≠ 0 ∧ ∃ m ∈ K.flatMap (tcE t l), m.src = c ∧ m.out = r ∧ m.dst = d) := fun r d c hc => by
    rw [mem_spk]
    constructor
    · rintro ⟨m, hm, h0, rfl, rfl⟩
      have := (mv_src (hin c hc)).2 hm
      exact ⟨h0, m, this.1, this.2, rfl, rfl⟩
    · rintro ⟨h0, m, hm, hs, rfl, rfl⟩
      exact ⟨m, (mv_src (hin c hc)).1 ⟨hm, hs⟩, h0, rfl, rfl⟩
  refine nxt_of (p := (txt, cs)) hd hset h1 (fun r => ?_) (by_ := fun r => if r = 0 then [] else fr r) (fun r d => ?_) fun r hr c => ?_
  · rw [h2]
    constructor
    · rintro ⟨c, hc, m, hm, hs, ho, h0⟩
      exact ⟨c, hc, m.dst, (hsp _ _ _ hc).2 ⟨h0, m, hm, hs, ho, rfl⟩⟩
    · rintro ⟨c, hc, d, hsd⟩
      obtain ⟨h0, m, hm, hs, ho, _⟩ := (hsp _ _ _ hc).1 hsd
      exact ⟨c, hc, m, hm, hs, ho, h0⟩
  · by_cases h0 : r = 0
    · rw [if_pos h0]
      constructor
      · intro h; simp at h
      · rintro ⟨c, hc, hsd⟩; exact absurd h0 ((hsp _ _ _ hc).1 hsd).1
    · rw [if_neg h0, h3 r d h0]
      constructor
      · rintro ⟨c, hc, hm⟩; exact ⟨c, hc, (hsp _ _ _ hc).2 ⟨h0, hm⟩⟩
      · rintro ⟨c, hc, hsd⟩; exact ⟨c, hc, ((hsp _ _ _ hc).1 hsd).2⟩
  · have h0 : r ≠ 0 := by
      obtain ⟨_, _, _, _, _, _, h0⟩ := (h2 r).1 hr; exact h0
    rw [h4 r hr c, if_neg h0]
    refine clo_silM hK fun c' hc' => ?_
    obtain ⟨c0, hc0, m, hm, hs, _, rfl⟩ := (h3 r c' h0).1 hc'
    have := (mv_src (hin c0 hc0)).1 ⟨hm, hs⟩
    exact (hK.mem _).2 (.tail ((hK.mem _).1 (hin c0 hc0)) (List.mem_map.2 ⟨m, this, rfl⟩))
end
end Go.Proofs.Ytfepjcmjkaolgaa.G
