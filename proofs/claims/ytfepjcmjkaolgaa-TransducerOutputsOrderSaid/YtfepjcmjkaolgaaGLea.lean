/- The least cost of a path to a final state, as the program computes it. Plain Lean. -/
/- The first input: greedily the least rune. Plain Lean. -/
import Derived.Test.YtfepjcmjkaolgaaWSc
set_option linter.all false
namespace Go.Proofs.Ytfepjcmjkaolgaa.G
open Go Go.RowKit
/-- A path to a final state, with its cost. -/
inductive Pth (t : Tra) (w : Arc → Int) : Int → Int → Prop
  | base {f : Int} : f ∈ t.finals → Pth t w f 0
  | step {x : Arc} {c : Int} : x ∈ t.arcs → Pth t w x.dst c → Pth t w x.src (c + w x)
def lat (l : List Int) (s : Int) : Int := l.getD s.toNat (-1)
theorem lat_set {l : List Int} {i s v : Int} (hi : 0 ≤ i) (hs : 0 ≤ s) (hl : i.toNat < l.length) : lat (l.set i.toNat v) s = if s = i then v else lat l s := by
  unfold lat
  rw [List.getD, List.getElem?_set]
  by_cases h : s = i
  · rw [if_pos h, h, if_pos rfl, if_pos hl]; rfl
  · rw [if_neg h, if_neg (by omega)]; rfl
theorem sum_set (f : Int → Nat) (a : Int) : ∀ {l : List Int} {i : Nat} {v : Int}, l[i]? = some v → ((l.set i a).map f).sum + f v = (l.map f).sum + f a
  | [], _, _, h => by simp at h
  | x :: l, 0, v, h => by simp at h; subst h; simp only [List.set_cons_zero, List.map_cons, List.sum_cons]; omega
  | x :: l, i + 1, v, h => by
    have := sum_set f a (l := l) (i := i) (v := v) (by simpa using h)
    simp only [List.set_cons_succ, List.map_cons, List.sum_cons]; omega
def cnP (v : Int) : Nat := if 0 ≤ v then 1 else 0
def cnt (l : List Int) : Nat := (l.map cnP).sum
theorem cnt_le : ∀ l : List Int, cnt l ≤ l.length
  | [] => by simp [cnt]
  | x :: l => by
    have := cnt_le l
    simp only [cnt, List.map_cons, List.sum_cons, List.length_cons] at this ⊢
    have : cnP x ≤ 1 := by unfold cnP; split <;> omega
    omega
def muP (m : Nat) (v : Int) : Nat := if 0 ≤ v then v.toNat else 2 * m + 1
def muL (m : Nat) (l : List Int) : Nat := (l.map (muP m)).sum
structure LeaIn (t : Tra) (w : Arc → Int) (m : Nat) (l : List Int) : Prop where
  len : l.length = m
  low : ∀ s, -1 ≤ lat l s
  snd : ∀ s, 0 ≤ s → 0 ≤ lat l s → Pth t w s (lat l s)
  fin : ∀ f ∈ t.finals, lat l f = 0
  bnd : ∀ s, lat l s ≤ 2 * (cnt l : Int)
structure LeaOk (t : Tra) (w : Arc → Int) (m : Nat) (l : List Int) : Prop where
  len : l.length = m
  low : ∀ s, -1 ≤ lat l s
  snd : ∀ s, 0 ≤ s → 0 ≤ lat l s → Pth t w s (lat l s)
  fin : ∀ f ∈ t.finals, lat l f = 0
  bnd : ∀ s, lat l s ≤ 2 * (m : Int)
  cmp : ∀ s c, Pth t w s c → 0 ≤ lat l s ∧ lat l s ≤ c
def leaB (w : Arc → Int) (l : List Int) (x : Arc) : Bool := decide (0 ≤ lat l x.dst) && (decide (lat l x.src < 0) || decide (lat l x.dst + w x < lat l x.src))
def leaL (w : Arc → Int) (l : List Int) (x : Arc) : List Int := l.set x.src.toNat (lat l x.dst + w x)
section
variable {t : Tra} {w : Arc → Int} {m : Nat} {l l' : List Int} {x : Arc}
theorem lat_get {s : Int} (h : s.toNat < l.length) : l[s.toNat]? = some (lat l s) := by
  unfold lat; rw [List.getD, List.getElem?_eq_getElem h]; rfl
theorem LeaIn.bm (h : LeaIn t w m l) (s : Int) : lat l s ≤ 2 * (m : Int) := by
  have h1 := h.bnd s; have h2 := cnt_le l; have h3 := h.len; omega
theorem LeaIn.step (h : LeaIn t w m l) (hw : 0 ≤ w x ∧ w x ≤ 2) (hx : x ∈ t.arcs) (hs : 0 ≤ x.src ∧ x.src < m) (hd : 0 ≤ x.dst ∧ x.dst < m) (hfr : ∀ f ∈ t.finals, 0 ≤ f) (hb : leaB w l x = true) : LeaIn t w m (leaL w l x) ∧ muL m (leaL w l x) < muL m l := by
  have hb' : 0 ≤ lat l x.dst ∧ (lat l x.src < 0 ∨ lat l x.dst + w x < lat l x.src) := by simpa [leaB] using hb
  obtain ⟨h0, hc⟩ := hb'
  have hlen := h.len
  have hsl : x.src.toNat < l.length := by omega
  have e : ∀ s, 0 ≤ s → lat (leaL w l x) s = if s = x.src then lat l x.dst + w x else lat l s := fun s hs0 => lat_set hs.1 hs0 hsl
  have hg := lat_get (s := x.src) hsl
  have hl1 := h.low x.src
  have hcs := sum_set cnP (lat l x.dst + w x) hg
  have hms := sum_set (muP m) (lat l x.dst + w x) hg
  have hcn : cnP (lat l x.dst + w x) = 1 := if_pos (by omega)
  have hcl := cnt_le l
  have hbd := h.bnd x.dst
  have hbs := h.bnd x.src
  have hcs' : cnt (leaL w l x) + cnP (lat l x.src) = cnt l + 1 := by rw [hcn] at hcs; exact hcs
  have hms' : muL m (leaL w l x) + muP m (lat l x.src) = muL m l + muP m (lat l x.dst + w x) := hms
  have hcc : (lat l x.src < 0 → cnt (leaL w l x) = cnt l + 1) ∧ (0 ≤ lat l x.src → cnt (leaL w l x) = cnt l) := by
    constructor
    · intro k; rw [cnP, if_neg (by omega)] at hcs'; omega
    · intro k; rw [cnP, if_pos k] at hcs'; omega
  have hle : lat l x.dst + w x ≤ 2 * (cnt (leaL w l x) : Int) := by
    rcases hc with k | k
    · have := hcc.1 k; omega
    · have := hcc.2 (by omega); omega
  have hcg : cnt l ≤ cnt (leaL w l x) := by
    by_cases k : 0 ≤ lat l x.src
    · have := hcc.2 k; omega
    · have := hcc.1 (by omega); omega
  have hneg : ∀ s : Int, ¬ 0 ≤ s → lat (leaL w l x) s = lat (leaL w l x) 0 := fun s k => by
    unfold lat; rw [show s.toNat = 0 by omega]; rfl
  have hall : ∀ s : Int, ∃ s' : Int, 0 ≤ s' ∧ lat (leaL w l x) s = lat (leaL w l x) s' := fun s => by
    by_cases k : 0 ≤ s
    · exact ⟨s, k, rfl⟩
    · exact ⟨0, Int.le_refl _, hneg s k⟩
  refine ⟨⟨by rw [leaL, List.length_set, hlen], fun s => ?_, fun s hs0 hp => ?_, fun f hf => ?_, fun s => ?_⟩, ?_⟩
  · obtain ⟨s', h1, h2⟩ := hall s
    rw [h2, e s' h1]; split
    · omega
    · exact h.low s'
  · rw [e s hs0] at hp ⊢
    by_cases k : s = x.src
    · rw [if_pos k, k]; exact .step hx (h.snd _ hd.1 h0)
    · rw [if_neg k] at hp ⊢; exact h.snd s hs0 hp
  · have hf0 := h.fin f hf
    rw [e f (hfr f hf), if_neg]
    · exact hf0
    · intro k; rw [k] at hf0; omega
  · obtain ⟨s', h1, h2⟩ := hall s
    rw [h2, e s' h1]; split
    · exact hle
    · have := h.bnd s'; omega
  · have hcl2 := cnt_le (leaL w l x)
    have hln2 : (leaL w l x).length = m := by rw [leaL, List.length_set, hlen]
    have h2 : muP m (lat l x.dst + w x) < muP m (lat l x.src) := by
      unfold muP
      rw [if_pos (by omega)]
      rcases hc with k | k
      · rw [if_neg (by omega)]; omega
      · rw [if_pos (by omega)]; omega
    omega
theorem LeaIn.ok (h : LeaIn t w m l) (hs : ∀ x ∈ t.arcs, leaB w l x = false) : LeaOk t w m l := by
  refine ⟨h.len, h.low, h.snd, h.fin, h.bm, fun s c hp => ?_⟩
  induction hp with
  | base hf => rw [h.fin _ hf]; exact ⟨Int.le_refl _, Int.le_refl _⟩
  | @step x c hx _ ih =>
    have hb := hs x hx
    simp only [leaB, Bool.and_eq_false_iff, Bool.or_eq_false_iff, decide_eq_false_iff_not] at hb
    rcases hb with hb | hb
    · exact absurd ih.1 hb
    · omega
/-- The table is determined. -/
theorem LeaOk.uniq (h : LeaOk t w m l) (h' : LeaOk t w m l') {s : Int} (hs : 0 ≤ s) : lat l s = lat l' s := by
  have a := h.low s; have b := h'.low s
  by_cases k : 0 ≤ lat l s
  · have h1 := h'.cmp s _ (h.snd s hs k)
    have h2 := h.cmp s _ (h'.snd s hs h1.1)
    omega
  · by_cases k' : 0 ≤ lat l' s
    · have h2 := h.cmp s _ (h'.snd s hs k'); omega
    · omega
/-! how it starts -/
def iniL (m : Nat) (fs : List Int) : List Int := fs.foldl (fun l f => l.set f.toNat 0) (List.replicate m (-1))
theorem iniL_snoc {fs : List Int} {f : Int} : iniL m (fs ++ [f]) = (iniL m fs).set f.toNat 0 := by rw [iniL, List.foldl_append]; rfl
theorem iniL_len (fs : List Int) : (iniL m fs).length = m := by
  have : ∀ (fs : List Int) (l : List Int), (fs.foldl (fun l f => l.set f.toNat 0) l).length = l.length := fun fs => by
    induction fs with
    | nil => intro l; rfl
    | cons f fs ih => intro l; rw [List.foldl_cons, ih, List.length_set]
  rw [iniL, this, List.length_replicate]
theorem iniL_lat {fs : List Int} (hf : ∀ f ∈ fs, 0 ≤ f ∧ f < m) {s : Int} (hs : 0 ≤ s) : lat (iniL m fs) s = if s ∈ fs then 0 else -1 := by
  have : ∀ (fs : List Int) (l : List Int), l.length = m → (∀ f ∈ fs, 0 ≤ f ∧ f < m) → lat (fs.foldl (fun l f => l.set f.toNat 0) l) s = if s ∈ fs then 0 else lat l s := fun fs => by
    induction fs with
    | nil => intro l _ _; simp
    | cons f fs ih =>
      intro l hl hf
      have hf0 := hf f (by simp)
      rw [List.foldl_cons, ih _ (by rw [List.length_set, hl]) (fun g hg => hf g (by simp [hg])), lat_set hf0.1 hs (by omega)]
      by_cases k : s ∈ fs
      · rw [if_pos k, if_pos (by simp [k])]
      · rw [if_neg k]
        by_cases k2 : s = f
        · rw [if_pos k2, if_pos (by simp [k2])]
        · rw [if_neg k2, if_neg (by simp [k, k2])]
  rw [iniL, this fs _ (by simp) hf]
  have : lat (List.replicate m (-1)) s = -1 := by
    unfold lat; rw [List.getD, List.getElem?_replicate]; split <;> rfl
  rw [this]
theorem LeaIn.init (hf : ∀ f ∈ t.finals, 0 ≤ f ∧ f < m) : LeaIn t w m (iniL m t.finals) := by
  have e : ∀ s, 0 ≤ s → lat (iniL m t.finals) s = if s ∈ t.finals then 0 else -1 := fun s hs => iniL_lat hf hs
  have hall : ∀ s : Int, lat (iniL m t.finals) s = 0 ∨ lat (iniL m t.finals) s = -1 := fun s => by
    have : lat (iniL m t.finals) s = lat (iniL m t.finals) (s.toNat : Int) := by unfold lat; rw [Int.toNat_natCast]
    rw [this, e _ (by omega)]; split
    · exact .inl rfl
    · exact .inr rfl
  refine ⟨iniL_len _, fun s => by rcases hall s with h | h <;> omega, fun s hs hp => ?_, fun f hf' => by rw [e f (hf f hf').1, if_pos hf'], fun s => by rcases hall s with h | h <;> omega⟩
  rw [e s hs] at hp ⊢
  split at hp
  · rename_i k; rw [if_pos k]; exact .base k
  · omega
end
theorem rep_ini {m k : Nat} (h : k < m) : (List.replicate k (-1 : Int) ++ List.replicate (m - k) 0).set k (-1) = List.replicate (k + 1) (-1 : Int) ++ List.replicate (m - (k + 1)) 0 := by
  obtain ⟨q, hq⟩ : ∃ q, m - k = q + 1 := ⟨m - k - 1, by omega⟩
  have h1 : m - (k + 1) = q := by omega
  rw [hq, h1, List.replicate_succ, List.set_append, if_neg (by simp), List.replicate_succ']
  simp
/-- While the arcs are gone through: l0 what stood at the round's head, l what stands now, ag whether something has turned. -/
structure LeaPass (t : Tra) (w : Arc → Int) (m : Nat) (l0 : List Int) (k : Nat) (l : List Int) (ag : Bool) : Prop where
  inn : LeaIn t w m l
  up : ag = true → muL m l < muL m l0
  cl : ag = false → l = l0 ∧ ∀ x ∈ t.arcs.take k, leaB w l0 x = false
theorem LeaPass.init {t : Tra} {w : Arc → Int} {m : Nat} {l : List Int} (h : LeaIn t w m l) : LeaPass t w m l 0 l false := ⟨h, nofun, fun _ => ⟨rfl, by simp⟩⟩
theorem LeaPass.hit {t : Tra} {w : Arc → Int} {m k : Nat} {l0 l : List Int} {ag : Bool} {x : Arc} (h : LeaPass t w m l0 k l ag) (hx : t.arcs[k]? = some x) (hw : 0 ≤ w x ∧ w x ≤ 2) (hs : 0 ≤ x.src ∧ x.src < m) (hd : 0 ≤ x.dst ∧ x.dst < m) (hfr : ∀ f ∈ t.finals, 0 ≤ f ∧ f < m) (hb : leaB w l x = true) : LeaPass t w m l0 (k + 1) (leaL w l x) true := by
  obtain ⟨h1, h2⟩ := h.inn.step hw (List.mem_of_getElem? hx) hs hd (fun f hf => (hfr f hf).1) hb
  refine ⟨h1, fun _ => ?_, nofun⟩
  cases hag : ag with
  | true => have := h.up hag; omega
  | false => have := (h.cl hag).1; subst this; exact h2
theorem LeaPass.skip {t : Tra} {w : Arc → Int} {m k : Nat} {l0 l : List Int} {ag : Bool} {x : Arc} (h : LeaPass t w m l0 k l ag) (hx : t.arcs[k]? = some x) (hb : leaB w l x = false) : LeaPass t w m l0 (k + 1) l ag :=
  ⟨h.inn, h.up, fun e => ⟨(h.cl e).1, fun y hy => by
    rw [take_snoc hx] at hy
    rcases List.mem_append.1 hy with hy | hy
    · exact (h.cl e).2 y hy
    · rw [List.mem_singleton.1 hy, ← (h.cl e).1]; exact hb⟩⟩
/-! tight -/
def tgA (l : List Int) (w : Arc → Int) (x : Arc) : Bool := decide (0 ≤ lat l x.dst) && decide (lat l x.src = lat l x.dst + w x)
def tgt (t : Tra) (w : Arc → Int) (l : List Int) : Tra := ⟨t.states, t.start, t.finals, t.arcs.filter (tgA l w)⟩
theorem tgt_uniq {t : Tra} {w : Arc → Int} {m : Nat} {l l' : List Int} (hx : ∀ x ∈ t.arcs, 0 ≤ x.src ∧ 0 ≤ x.dst) (h : LeaOk t w m l) (h' : LeaOk t w m l') : tgt t w l = tgt t w l' := by
  unfold tgt
  rw [List.filter_congr fun x hxa => ?_]
  unfold tgA
  rw [h.uniq h' (hx x hxa).1, h.uniq h' (hx x hxa).2]
theorem mem_tgt {t : Tra} {w : Arc → Int} {l : List Int} {x : Arc} : x ∈ (tgt t w l).arcs ↔ x ∈ t.arcs ∧ 0 ≤ lat l x.dst ∧ lat l x.src = lat l x.dst + w x := by
  rw [tgt, List.mem_filter, tgA, Bool.and_eq_true, decide_eq_true_eq, decide_eq_true_eq]
theorem costA_rng (x : Arc) : 0 ≤ costA x ∧ costA x ≤ 2 := by unfold costA; split <;> split <;> omega
theorem readA_rng (x : Arc) : 0 ≤ readA x ∧ readA x ≤ 2 := by unfold readA; split <;> omega
end Go.Proofs.Ytfepjcmjkaolgaa.G

set_option linter.all false
namespace Go.Proofs.Ytfepjcmjkaolgaa.G
open Go Go.RowKit
/-- The states that reading a word leads to. -/
inductive Rd (t : Tra) : List Int → Int → Prop
  | start : Rd t [] t.start
  | eps {w : List Int} {x : Arc} : Rd t w x.src → x ∈ t.arcs → x.inp = 0 → Rd t w x.dst
  | read {w : List Int} {x : Arc} : Rd t w x.src → x ∈ t.arcs → x.inp ≠ 0 → Rd t (w ++ [x.inp]) x.dst
theorem mem_epsN {t : Tra} {s d : Int} : d ∈ epsN t s ↔ ∃ x ∈ t.arcs, x.src = s ∧ x.inp = 0 ∧ x.dst = d := by
  simp only [epsN, Tra.outs, List.mem_map, List.mem_filter, decide_eq_true_eq]
  constructor
  · rintro ⟨x, ⟨⟨h1, h2⟩, h3⟩, h4⟩; exact ⟨x, h1, h2, h3, h4⟩
  · rintro ⟨x, h1, h2, h3, h4⟩; exact ⟨x, ⟨⟨h1, h2⟩, h3⟩, h4⟩
theorem rd_nil {t : Tra} {s : Int} : Reach (epsN t) (· ∈ [t.start]) s ↔ Rd t [] s := by
  constructor
  · intro h
    induction h with
    | base h => rw [List.mem_singleton.1 h]; exact .start
    | tail _ hm ih =>
      obtain ⟨x, hx, rfl, h0, rfl⟩ := mem_epsN.1 hm
      exact .eps ih hx h0
  · intro h
    suffices H : ∀ w s, Rd t w s → w = [] → Reach (epsN t) (· ∈ [t.start]) s from H _ _ h rfl
    clear h
    intro w s h
    induction h with
    | start => intro _; exact .base (List.mem_singleton.2 rfl)
    | eps _ hx h0 ih => intro e; exact .tail (ih e) (mem_epsN.2 ⟨_, hx, rfl, h0, rfl⟩)
    | read => intro e; simp at e
theorem mem_nxR {t : Tra} {bs : List Bool} {r : Int} {k : Nat} {d : Int} : d ∈ nxR t bs r k ↔ ∃ x ∈ t.arcs, (∃ s : Nat, s < k ∧ x.src = (s : Int) ∧ bs.getD s false = true) ∧ x.inp = r ∧ x.dst = d := by
  simp only [nxR, List.mem_flatMap, List.mem_range, List.mem_map, List.mem_filter, Tra.outs, stB, Bool.and_eq_true, decide_eq_true_eq]
  constructor
  · rintro ⟨s, hs, x, ⟨⟨h1, h2⟩, h3, h4⟩, h5⟩; exact ⟨x, h1, ⟨s, hs, h2, h3⟩, h4, h5⟩
  · rintro ⟨x, h1, ⟨s, hs, h2, h3⟩, h4, h5⟩; exact ⟨s, hs, x, ⟨⟨h1, h2⟩, h3, h4⟩, h5⟩
theorem bt_nat {bs : List Bool} {s : Nat} : bs.getD s false = true ↔ bt bs (s : Int) := by
  unfold bt
  rw [Int.toNat_natCast]
  constructor
  · intro h
    refine ⟨by omega, ?_⟩
    rw [List.getD] at h
    cases e : bs[s]? with
    | none => rw [e] at h; cases h
    | some b => rw [e] at h; rw [show b = true from h]
  · rintro ⟨_, h⟩
    rw [List.getD, h]; rfl
theorem rd_rng {t : Tra} {m : Nat} (ha : t.Ok m) {w : List Int} {s : Int} (h : Rd t w s) : 0 ≤ s ∧ s < m := by
  cases h with
  | start => exact ha.start
  | eps _ hx _ => exact (ha.arcs _ hx).2
  | read _ hx _ => exact (ha.arcs _ hx).2
theorem rd_snoc {t : Tra} {m : Nat} (ha : t.Ok m) {bs : List Bool} {w : List Int} {r : Int} (h0 : r ≠ 0) (hb : ∀ s, bt bs s ↔ Rd t w s) {s : Int} : Reach (epsN t) (· ∈ nxR t bs r m) s ↔ Rd t (w ++ [r]) s := by
  constructor
  · intro h
    induction h with
    | base h =>
      obtain ⟨x, hx, ⟨s, hs, e, hbs⟩, rfl, rfl⟩ := mem_nxR.1 h
      exact .read (by rw [e]; exact (hb _).1 (bt_nat.1 hbs)) hx h0
    | tail _ hm ih =>
      obtain ⟨x, hx, rfl, h0, rfl⟩ := mem_epsN.1 hm
      exact .eps ih hx h0
  · intro h
    suffices H : ∀ w' s, Rd t w' s → w' = w ++ [r] → Reach (epsN t) (· ∈ nxR t bs r m) s from H _ _ h rfl
    clear h
    intro w' s h
    induction h with
    | start => intro e; simp at e
    | eps _ hx h0 ih => intro e; exact .tail (ih e) (mem_epsN.2 ⟨_, hx, rfl, h0, rfl⟩)
    | @read w1 x hr hx h1 _ =>
      intro e
      obtain ⟨rfl, e2⟩ := List.append_inj' e rfl
      have e3 := List.cons.inj e2
      have hrg := rd_rng ha hr
      refine .base (mem_nxR.2 ⟨x, hx, ⟨x.src.toNat, by omega, by omega, bt_nat.2 (by rw [Int.toNat_of_nonneg hrg.1]; exact (hb _).2 hr)⟩, e3.1, rfl⟩)
/-! the least rune -/
def bsS (b : Int) (f : Bool) (x : Arc) : Int := if ((f && !decide (x.inp = 0)) && (decide (b = 0) || decide (x.inp < b))) = true then x.inp else b
def bsN (t : Tra) (bs : List Bool) (k : Nat) : Int := (List.range k).foldl (fun (b : Int) (s : Nat) => (t.outs (s : Int)).foldl (fun b x => bsS b (bs.getD s false) x) b) 0
theorem bsN_succ {t : Tra} {bs : List Bool} {k : Nat} : bsN t bs (k + 1) = (t.outs (k : Int)).foldl (fun b x => bsS b (bs.getD k false) x) (bsN t bs k) := by
  rw [bsN, List.range_succ, List.foldl_append]; rfl
theorem bsF_snoc {b : Int} {f : Bool} {l : List Arc} {k : Nat} {x : Arc} (h : l[k]? = some x) : (l.take (k + 1)).foldl (fun b x => bsS b f x) b = bsS ((l.take k).foldl (fun b x => bsS b f x) b) f x := by
  rw [take_snoc h, List.foldl_append]; rfl
/-- b is the least of the runes that satisfy P, or 0 if there is none. -/
def IsLst (P : Int → Prop) (b : Int) : Prop := (b ≠ 0 → P b) ∧ (∀ r, P r → r ≠ 0 → b ≠ 0 ∧ b ≤ r)
theorem bsS_lst {P : Int → Prop} {b : Int} {f : Bool} {x : Arc} (h : IsLst P b) : IsLst (fun r => P r ∨ (f = true ∧ x.inp = r)) (bsS b f x) := by
  unfold bsS
  split
  · rename_i hc
    simp only [Bool.and_eq_true, Bool.or_eq_true, Bool.not_eq_true', decide_eq_false_iff_not, decide_eq_true_eq] at hc
    obtain ⟨⟨hf, h0⟩, hb⟩ := hc
    refine ⟨fun _ => .inr ⟨hf, rfl⟩, fun r hr hr0 => ⟨h0, ?_⟩⟩
    rcases hr with hr | ⟨_, rfl⟩
    · have := h.2 r hr hr0
      rcases hb with hb | hb
      · exact absurd hb this.1
      · omega
    · exact Int.le_refl _
  · rename_i hc
    refine ⟨fun k => .inl (h.1 k), fun r hr hr0 => ?_⟩
    rcases hr with hr | ⟨hf, rfl⟩
    · exact h.2 r hr hr0
    · subst hf
      by_cases hb : b = 0
      · exfalso; apply hc; simp [hr0, hb]
      · refine ⟨hb, ?_⟩
        have : ¬ x.inp < b := fun k => hc (by simp [hr0, k])
        omega
theorem bsF_lst {f : Bool} : ∀ {l : List Arc} {P : Int → Prop} {b : Int}, IsLst P b → IsLst (fun r => P r ∨ (f = true ∧ ∃ x ∈ l, x.inp = r)) (l.foldl (fun b x => bsS b f x) b)
  | [], P, b, h => by
    refine ⟨fun k => .inl (h.1 k), fun r hr hr0 => h.2 r (hr.resolve_right fun k => ?_) hr0⟩
    obtain ⟨_, x, hx, _⟩ := k; simp at hx
  | x :: l, P, b, h => by
    have := bsF_lst (f := f) (l := l) (bsS_lst (f := f) (x := x) h)
    refine ⟨fun k => ?_, fun r hr hr0 => this.2 r ?_ hr0⟩
    · rcases this.1 k with (k | ⟨k1, k2⟩) | ⟨k1, y, hy, k2⟩
      · exact .inl k
      · exact .inr ⟨k1, x, by simp, k2⟩
      · exact .inr ⟨k1, y, by simp [hy], k2⟩
    · rcases hr with hr | ⟨hf, y, hy, e⟩
      · exact .inl (.inl hr)
      · rcases List.mem_cons.1 hy with rfl | hy
        · exact .inl (.inr ⟨hf, e⟩)
        · exact .inr ⟨hf, y, hy, e⟩
theorem bsN_lst {t : Tra} {bs : List Bool} (k : Nat) : IsLst (fun r => ∃ x ∈ t.arcs, (∃ s : Nat, s < k ∧ x.src = (s : Int) ∧ bs.getD s false = true) ∧ x.inp = r) (bsN t bs k) := by
  induction k with
  | zero => exact ⟨fun h => absurd (show bsN t bs 0 = 0 from rfl) h, fun r ⟨x, _, ⟨s, hs, _⟩, _⟩ => by omega⟩
  | succ k ih =>
    rw [bsN_succ]
    have := bsF_lst (f := bs.getD k false) (l := t.outs (k : Int)) ih
    have hiff : ∀ r, ((∃ x ∈ t.arcs, (∃ s : Nat, s < k ∧ x.src = (s : Int) ∧ bs.getD s false = true) ∧ x.inp = r) ∨ (bs.getD k false = true ∧ ∃ x ∈ t.outs (k : Int), x.inp = r)) ↔ (∃ x ∈ t.arcs, (∃ s : Nat, s < k + 1 ∧ x.src = (s : Int) ∧ bs.getD s false = true) ∧ x.inp = r) := fun r => by
      simp only [Tra.outs, List.mem_filter, decide_eq_true_eq]
      constructor
      · rintro (⟨x, hx, ⟨s, hs, h1, h2⟩, h3⟩ | ⟨h1, x, ⟨hx, h2⟩, h3⟩)
        · exact ⟨x, hx, ⟨s, by omega, h1, h2⟩, h3⟩
        · exact ⟨x, hx, ⟨k, by omega, h2, h1⟩, h3⟩
      · rintro ⟨x, hx, ⟨s, hs, h1, h2⟩, h3⟩
        by_cases e : s = k
        · subst e; exact .inr ⟨h2, x, ⟨hx, h1⟩, h3⟩
        · exact .inl ⟨x, hx, ⟨s, by omega, h1, h2⟩, h3⟩
    exact ⟨fun h => (hiff _).1 (this.1 h), fun r hr hr0 => this.2 r ((hiff r).2 hr) hr0⟩
/-- What reading goes on with. -/
def GoesR (t : Tra) (w : List Int) (r : Int) : Prop := ∃ x ∈ t.arcs, Rd t w x.src ∧ x.inp = r
theorem bsN_goes {t : Tra} {m : Nat} (ha : t.Ok m) {bs : List Bool} {w : List Int} (hb : ∀ s, bt bs s ↔ Rd t w s) : IsLst (GoesR t w) (bsN t bs m) := by
  have hiff : ∀ r, GoesR t w r ↔ (∃ x ∈ t.arcs, (∃ s : Nat, s < m ∧ x.src = (s : Int) ∧ bs.getD s false = true) ∧ x.inp = r) := fun r => by
    constructor
    · rintro ⟨x, hx, hr, e⟩
      have hrg := rd_rng ha hr
      exact ⟨x, hx, ⟨x.src.toNat, by omega, by omega, bt_nat.2 (by rw [Int.toNat_of_nonneg hrg.1]; exact (hb _).2 hr)⟩, e⟩
    · rintro ⟨x, hx, ⟨s, _, h1, h2⟩, e⟩
      exact ⟨x, hx, by rw [h1]; exact (hb _).1 (bt_nat.1 h2), e⟩
  have := bsN_lst (t := t) (bs := bs) m
  exact ⟨fun h => (hiff _).2 (this.1 h), fun r hr hr0 => this.2 r ((hiff r).1 hr) hr0⟩
/-- The greedy word. -/
def GreedyIn (t : Tra) (x : List Int) : Prop := ∀ (k : Nat) (r : Int), x[k]? = some r → r ≠ 0 ∧ IsLst (GoesR t (x.take k)) r
def Greedy (t : Tra) (x : List Int) : Prop := GreedyIn t x ∧ ∀ r, GoesR t x r → r = 0
theorem greedy_snoc {t : Tra} {x : List Int} {r : Int} (h : GreedyIn t x) (h0 : r ≠ 0) (hl : IsLst (GoesR t x) r) : GreedyIn t (x ++ [r]) := fun k r' hk => by
  rw [List.getElem?_append] at hk
  split at hk
  · rename_i h1
    rw [List.take_append_of_le_length (by omega)]
    exact h k r' hk
  · rename_i h1
    have hlen : k - x.length = 0 := by
      have := (List.getElem?_eq_some_iff.1 hk).1
      simp at this; omega
    rw [hlen] at hk
    simp at hk
    subst hk
    rw [List.take_left' (by omega)]
    exact ⟨h0, hl⟩
theorem greedy_fin {t : Tra} {x : List Int} {b : Int} (h : GreedyIn t x) (hl : IsLst (GoesR t x) b) (hb : b = 0) : Greedy t x :=
  ⟨h, fun r hr => Classical.byContradiction fun h0 => (hl.2 r hr h0).1 hb⟩
theorem lst_uniq {P : Int → Prop} {a b : Int} (h : IsLst P a) (k : IsLst P b) : a = b := by
  by_cases ha : a = 0
  · by_cases hb : b = 0
    · omega
    · exact absurd ha (h.2 b (k.1 hb) hb).1
  · have h1 := k.2 a (h.1 ha) ha
    have h2 := h.2 b (k.1 h1.1) h1.1
    omega
theorem greedy_uniq {t : Tra} {x y : List Int} (h : Greedy t x) (k : Greedy t y) : x = y := by
  have hp : ∀ n, x.take n = y.take n := fun n => by
    induction n with
    | zero => rfl
    | succ n ih =>
      rw [List.take_add_one, List.take_add_one, ih]
      congr 1
      cases hx : x[n]? with
      | none =>
        cases hy : y[n]? with
        | none => rfl
        | some r =>
          have h1 := k.1 n r hy
          have e : x.take n = x := List.take_of_length_le (List.getElem?_eq_none_iff.1 hx)
          rw [← ih, e] at h1
          exact absurd (h.2 r (h1.2.1 h1.1)) h1.1
      | some r =>
        have h1 := h.1 n r hx
        cases hy : y[n]? with
        | none =>
          have e : y.take n = y := List.take_of_length_le (List.getElem?_eq_none_iff.1 hy)
          rw [ih, e] at h1
          exact absurd (k.2 r (h1.2.1 h1.1)) h1.1
        | some r' =>
          have h2 := k.1 n r' hy
          rw [ih] at h1
          rw [lst_uniq h1.2 h2.2]
  have h1 := hp (x.length + y.length)
  rwa [List.take_of_length_le (by omega), List.take_of_length_le (by omega)] at h1
/-! how long it gets -/
def PotR (t : Tra) (P : Int → Int) : Prop := ∀ x ∈ t.arcs, P x.src = P x.dst + readA x ∧ 0 ≤ P x.dst
theorem rd_pot {t : Tra} {P : Int → Int} (hP : PotR t P) {w : List Int} {s : Int} (h : Rd t w s) : P s + w.length = P t.start := by
  induction h with
  | start => simp
  | eps _ hx h0 ih =>
    have := (hP _ hx).1
    rw [readA, if_pos h0] at this; omega
  | read _ hx h0 ih =>
    have := (hP _ hx).1
    rw [readA, if_neg h0] at this
    rw [List.length_append, List.length_singleton]; omega
theorem goes_pot {t : Tra} {P : Int → Int} (hP : PotR t P) {w : List Int} {r : Int} (h : GoesR t w r) (h0 : r ≠ 0) : (w.length : Int) < P t.start := by
  obtain ⟨x, hx, hr, rfl⟩ := h
  have h1 := rd_pot hP hr
  have h2 := hP x hx
  rw [readA, if_neg h0] at h2
  omega
end Go.Proofs.Ytfepjcmjkaolgaa.G
