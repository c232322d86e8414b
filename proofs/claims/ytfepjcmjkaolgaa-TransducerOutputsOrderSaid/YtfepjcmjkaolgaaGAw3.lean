/- Closures by certificate: small transducers trimmed by deciding. Plain Lean. -/
/- The example of the chapter on transducers. Plain Lean. -/
import Derived.Test.YtfepjcmjkaolgaaGTrm
import Derived.Test.YtfepjcmjkaolgaaGSts
import Derived.Test.YtfepjcmjkaolgaaGShl
import Derived.Test.YtfepjcmjkaolgaaWSc
set_option linter.all false
namespace Go.Proofs.Ytfepjcmjkaolgaa.G
open Go Go.RowKit
/-- Each is in base or follows an earlier one. -/
def disc {α : Type} [DecidableEq α] (E : α → List α) (base : List α) : List α → List α → Bool
  | _, [] => true
  | seen, x :: l => (decide (x ∈ base) || seen.any fun v => decide (x ∈ E v)) && disc E base (x :: seen) l
theorem disc_reach {α : Type} [DecidableEq α] {E : α → List α} {base : List α} : ∀ {l seen : List α}, disc E base seen l = true → (∀ x ∈ seen, Reach E (· ∈ base) x) → ∀ x ∈ l, Reach E (· ∈ base) x
  | [], _, _, _, x, hx => by simp at hx
  | y :: l, seen, h, hs, x, hx => by
    rw [disc, Bool.and_eq_true] at h
    have hy : Reach E (· ∈ base) y := by
      rcases Bool.or_eq_true_iff.1 h.1 with h1 | h1
      · exact .base (by simpa using h1)
      · obtain ⟨v, hv, h2⟩ := List.any_eq_true.1 h1
        exact .tail (hs v hv) (by simpa using h2)
    rcases List.mem_cons.1 hx with rfl | hx
    · exact hy
    · exact disc_reach h.2 (fun z hz => by
        rcases List.mem_cons.1 hz with rfl | hz
        · exact hy
        · exact hs z hz) x hx
def closedB {α : Type} [DecidableEq α] (E : α → List α) (base K : List α) : Bool := (base.all fun x => decide (x ∈ K)) && (K.all fun x => (E x).all fun y => decide (y ∈ K)) && disc E base [] K
theorem cert {α : Type} [DecidableEq α] {E : α → List α} {base K : List α} (h : closedB E base K = true) (x : α) : x ∈ K ↔ Reach E (· ∈ base) x := by
  simp only [closedB, Bool.and_eq_true, List.all_eq_true, decide_eq_true_eq] at h
  obtain ⟨⟨h1, h2⟩, h3⟩ := h
  constructor
  · exact disc_reach h3 (fun x hx => by simp at hx) x
  · intro hr
    induction hr with
    | base hb => exact h1 _ hb
    | tail _ hy ih => exact h2 _ ih _ hy
theorem reach_cg {α : Type} {E : α → List α} {S S' : α → Prop} (h : ∀ x, S x ↔ S' x) {s : α} (k : Reach E S s) : Reach E S' s := by
  induction k with
  | base hb => exact .base ((h _).1 hb)
  | tail _ hy ih => exact .tail ih hy
def kpC (U D : List Int) (i : Nat) : Bool := decide ((i : Int) ∈ U) && decide ((i : Int) ∈ D)
theorem kp_cert {t : Tra} {U D : List Int} (hU : closedB (stp t true) [t.start] U = true) (hD : closedB (stp t false) t.finals D = true) : kpS t = kpC U D := funext fun i => by
  rw [Bool.eq_iff_iff, kpS_iff, kpC, Bool.and_eq_true, decide_eq_true_eq, decide_eq_true_eq, cert hU, cert hD]
def finC (kp : Nat → Bool) (t : Tra) (m : Nat) : List Int := ((List.range m).filter fun i => kp i && decide ((i : Int) ∈ t.finals)).map fun i => (rk kp i : Int)
def arcC (kp : Nat → Bool) (x : Arc) : List Arc := if (kp x.src.toNat && kp x.dst.toNat) = true then [⟨(rk kp x.src.toNat : Int), (rk kp x.dst.toNat : Int), x.inp, x.out⟩] else []
theorem canon_is {l l' : List Arc} (hs : l'.Pairwise ltArc) (h1 : ∀ z ∈ l, z ∈ l') (h2 : ∀ z ∈ l', z ∈ l) : canon l = l' :=
  sorted_ext (canon_sorted l) hs fun z => by rw [mem_canon]; exact ⟨h1 z, h2 z⟩
instance (x y : Arc) : Decidable (ltArc x y) := by unfold ltArc; infer_instance
/-- A transducer trimmed, by certificate. -/
theorem trim_cert {t : Tra} {m : Nat} {U D F : List Int} {A : List Arc} {n s : Nat} (hU : closedB (stp t true) [t.start] U = true) (hD : closedB (stp t false) t.finals D = true) (hk : kpC U D t.start.toNat = true) (hn : rk (kpC U D) m = n) (hs : rk (kpC U D) t.start.toNat = s)
    (hF : finC (kpC U D) t m = F) (hA : A.Pairwise ltArc) (h1 : ∀ z ∈ t.arcs.flatMap (arcC (kpC U D)), z ∈ A) (h2 : ∀ z ∈ A, z ∈ t.arcs.flatMap (arcC (kpC U D))) : TrimS t m = ⟨n, s, F, A⟩ := by
  have e := kp_cert hU hD
  have ea : arcS t = arcC (kpC U D) := funext fun x => by unfold arcS arcC; rw [e]
  unfold TrimS
  rw [e, if_pos hk, hn, hs, ea, canon_is hA h1 h2]
  congr 1
  unfold finS
  rw [e]
  exact hF
theorem rel_cert {t : Tra} {xs ys : List Int} {K : List Place} (h : closedB (plN t xs ys) [⟨t.start, 0, 0⟩] K = true) : relB t xs ys = K.any (accB t xs ys) := by
  rw [Bool.eq_iff_iff, relB_iff, rel_iff, List.any_eq_true]
  have hc : ∀ c, c ∈ K ↔ Reach (plN t xs ys) (· = ⟨t.start, 0, 0⟩) c := fun c => by
    rw [cert h]
    exact ⟨reach_cg fun x => by simp, reach_cg fun x => by simp⟩
  constructor
  · rintro ⟨f, hf, hr⟩
    exact ⟨_, (hc _).2 hr, by simp [accB, hf]⟩
  · rintro ⟨c, hk, ha⟩
    simp only [accB, Bool.and_eq_true, decide_eq_true_eq] at ha
    refine ⟨c.state, ha.2, ?_⟩
    rw [← ha.1.1, ← ha.1.2]
    exact (hc c).1 hk
end Go.Proofs.Ytfepjcmjkaolgaa.G

set_option linter.all false
namespace Go.Proofs.Ytfepjcmjkaolgaa.G
open Go Go.RowKit
theorem alph_few {t : Tra} (h : t.arcs.length ≤ 12) : ∀ ks : List Int, ks.Nodup → (∀ r ∈ ks, r ≠ 0 ∧ ∃ z ∈ t.arcs, z.out = r) → ks.length ≤ 4096 := fun ks h1 h2 => by
  have := h1.length_le_of_subset (l₂ := t.arcs.map (·.out)) fun r hr => by
    obtain ⟨_, z, hz, e⟩ := h2 r hr
    exact List.mem_map.2 ⟨z, hz, e⟩
  rw [List.length_map] at this; omega
def aw3 : Tra := ⟨2, 0, [1], [⟨0, 1, 97, 98⟩, ⟨1, 1, 97, 0⟩]⟩
def aw3u : Tra := ⟨2, 0, [1], [⟨0, 1, 97, 98⟩]⟩
theorem aw3_valid : validT aw3 = true := by decide +kernel
theorem aw3_seq : seqS aw3 = true := by
  rw [seqS, aw3_valid]; decide +kernel
theorem aw3_r1 : relS aw3 ⟨#[97, 97]⟩ ⟨#[98]⟩ = true := by
  have e : ((validT aw3 && okT ⟨#[97, 97]⟩) && okT ⟨#[98]⟩) = true := by decide +kernel
  have e1 : runesL ⟨#[97, 97]⟩ = [97, 97] := by decide +kernel
  have e2 : runesL ⟨#[98]⟩ = [98] := by decide +kernel
  rw [relS, e, e1, e2, rel_cert (K := [⟨0, 0, 0⟩, ⟨1, 1, 1⟩, ⟨1, 2, 1⟩]) (by decide +kernel)]
  decide +kernel
theorem aw3_r2 : relS aw3 ⟨#[97, 97]⟩ ⟨#[98, 98]⟩ = false := by
  have e1 : runesL ⟨#[97, 97]⟩ = [97, 97] := by decide +kernel
  have e2 : runesL ⟨#[98, 98]⟩ = [98, 98] := by decide +kernel
  rw [relS, e1, e2, rel_cert (K := [⟨0, 0, 0⟩, ⟨1, 1, 1⟩, ⟨1, 2, 1⟩]) (by decide +kernel)]
  decide +kernel
theorem aw3_acc {w : List Int} : Acc (tnet aw3 [97, 97]) ⟨0, 0⟩ w ↔ w = [98] := by
  rw [acc_spk (r := 98) (d := ⟨1, 1⟩) (by decide +kernel) (by decide +kernel) (by decide +kernel)]
  constructor
  · rintro ⟨v, rfl, h⟩
    rw [acc_sil (d := ⟨1, 2⟩) (by decide +kernel) (by decide +kernel) (by decide +kernel), acc_end (by decide +kernel) (by decide +kernel) (by decide +kernel)] at h
    rw [h]
  · rintro rfl
    refine ⟨[], rfl, ?_⟩
    rw [acc_sil (d := ⟨1, 2⟩) (by decide +kernel) (by decide +kernel) (by decide +kernel), acc_end (by decide +kernel) (by decide +kernel) (by decide +kernel)]
theorem aw3_wds : Wds (tnet aw3 [97, 97]) ⟨0, 0⟩ 3 [[98]] := ⟨by simp, fun w => by
  rw [aw3_acc, List.mem_singleton]
  constructor
  · rintro rfl; exact ⟨by simp, rfl⟩
  · exact fun h => h.2⟩
theorem aw3_out {out : List ByteArray} {e : Int} (h : OutP aw3 ⟨#[97, 97]⟩ 3 out e) : out = [⟨#[98]⟩] ∧ e = 0 := by
  have hg : goodO aw3 ⟨#[97, 97]⟩ 3 = true := by decide +kernel
  have e1 : runesL ⟨#[97, 97]⟩ = [97, 97] := by decide +kernel
  have := (h.2 hg [[98]] (by rw [e1]; exact aw3_wds)).1 (by decide)
  exact ⟨by rw [this.1]; decide +kernel, this.2⟩
theorem aw3_ne : emptyS aw3 = false := by
  rw [empty_kp (by decide) aw3_valid, kp_cert (U := [0, 1]) (D := [1, 0]) (by decide +kernel) (by decide +kernel)]
  decide +kernel
theorem aw3_trim : TrimP aw3 = aw3 := by
  rw [TrimP, if_pos aw3_valid]
  exact trim_cert (U := [0, 1]) (D := [1, 0]) (by decide +kernel) (by decide +kernel) (by decide +kernel) (by decide +kernel) (by decide +kernel) (by decide +kernel) (by decide +kernel) (by decide +kernel) (by decide +kernel)
theorem aw3_ok {m : Nat} (h : aw3.Ok m) : m = 2 := by have := h.st; simp only [aw3] at this; omega
theorem aw3_step {m : Nat} {bs1 bs2 : List Bool} (ha : aw3.Ok m) (h1 : bs1.length = m ∧ ∀ s, bt bs1 s ↔ Reach (epsN aw3) (· ∈ frS aw3 [0]) s) (h2 : bs2.length = m ∧ ∀ s, bt bs2 s ↔ Reach (epsN aw3) (· ∈ nxR aw3 bs1 97 m) s) : onL bs2 m = [1] := by
  obtain rfl := aw3_ok ha
  have e1 : bs1 = [true, false] := bs_of (K := [0]) h1.1 fun s => by rw [h1.2, ← cert (E := epsN aw3) (base := frS aw3 [0]) (K := [0]) (by decide +kernel)]
  subst e1
  have e2 : bs2 = [false, true] := bs_of (K := [1]) h2.1 fun s => by rw [h2.2, ← cert (E := epsN aw3) (base := nxR aw3 [true, false] 97 2) (K := [1]) (by decide +kernel)]
  subst e2
  decide +kernel
/-! the shortest pair -/
theorem lat2 {a b : Int} (s : Int) (hs : 0 ≤ s) : lat [a, b] s = if s = 0 then a else if s = 1 then b else -1 := by
  unfold lat
  match h : s.toNat with
  | 0 => rw [if_pos (by omega)]; rfl
  | 1 => rw [if_neg (by omega), if_pos (by omega)]; rfl
  | n + 2 => rw [if_neg (by omega), if_neg (by omega)]; rfl
theorem lat2n {a b : Int} (s : Int) : lat [a, b] s = a ∨ lat [a, b] s = b ∨ lat [a, b] s = -1 := by
  unfold lat
  match h : s.toNat with
  | 0 => exact .inl rfl
  | 1 => exact .inr (.inl rfl)
  | n + 2 => exact .inr (.inr rfl)
theorem lea2 {t : Tra} {w : Arc → Int} {a : Int} {x0 : Arc} (ha : 0 ≤ a ∧ a ≤ 4) (hf : t.finals = [1]) (hx0 : x0 ∈ t.arcs) (h0 : x0.src = 0) (h1 : x0.dst = 1) (hw : w x0 = a) (hx : ∀ x ∈ t.arcs, 0 ≤ w x ∧ x.dst = 1 ∧ ((x.src = 0 ∧ w x = a) ∨ x.src = 1)) : LeaOk t w 2 [a, 0] := by
  refine ⟨rfl, fun s => ?_, fun s hs hp => ?_, fun f hf' => ?_, fun s => ?_, fun s c h => ?_⟩
  · rcases lat2n (a := a) (b := 0) s with e | e | e <;> omega
  · rw [lat2 s hs] at hp ⊢
    by_cases e : s = 0
    · rw [if_pos e, e, ← h0]
      have := Pth.step (w := w) hx0 (by rw [h1]; exact .base (by rw [hf]; simp))
      rw [hw, Int.zero_add] at this; exact this
    · rw [if_neg e] at hp ⊢
      by_cases e1 : s = 1
      · rw [if_pos e1, e1]; exact .base (by rw [hf]; simp)
      · rw [if_neg e1] at hp; omega
  · rw [hf, List.mem_singleton] at hf'; rw [hf']; rfl
  · rcases lat2n (a := a) (b := 0) s with e | e | e <;> omega
  · induction h with
    | base hf' => rw [hf, List.mem_singleton] at hf'; rw [hf']; exact ⟨Int.le_refl 0, Int.le_refl 0⟩
    | @step x c hxa _ ih =>
      obtain ⟨k0, k1, k2⟩ := hx x hxa
      rw [k1] at ih
      have e : lat [a, 0] 1 = 0 := rfl
      rw [e] at ih
      rcases k2 with ⟨k2, k3⟩ | k2
      · rw [k2]; have : lat [a, 0] 0 = a := rfl
        rw [this]; omega
      · rw [k2, e]; omega
theorem aw3_u {u : Tra} (h : IsU aw3 u) : u = aw3u := by
  obtain ⟨m, bs, l1, l2, ha, hl, hb, k1, k2, rfl⟩ := h
  obtain rfl := aw3_ok ha
  have e1 : bs = [true, true] := bs_of (K := [0, 1]) hl fun s => by rw [hb, ← cert (E := stp aw3 true) (base := [aw3.start]) (K := [0, 1]) (by decide +kernel)]
  subst e1
  have e2 : usF aw3 [true, true] = aw3 := by decide +kernel
  rw [e2] at k1 k2 ⊢
  have q1 : LeaOk aw3 costA 2 [2, 0] := lea2 (x0 := ⟨0, 1, 97, 98⟩) (by decide) rfl (by decide) rfl rfl (by decide) (by decide)
  have e3 : tgt aw3 costA l1 = aw3u := by
    rw [tgt_uniq (by decide) k1 q1]; decide +kernel
  rw [e3] at k2 ⊢
  have q2 : LeaOk aw3u readA 2 [1, 0] := lea2 (x0 := ⟨0, 1, 97, 98⟩) (by decide) rfl (by decide) rfl rfl (by decide) (by decide)
  rw [tgt_uniq (by decide) k2 q2]; decide +kernel
theorem aw3u_ok : aw3u.Ok 2 := ⟨rfl, by decide, by decide, by decide, by decide, by decide⟩
theorem bt2 {a b : Bool} {s : Int} : bt [a, b] s ↔ (s = 0 ∧ a = true) ∨ (s = 1 ∧ b = true) := by
  unfold bt
  match h : s.toNat with
  | 0 =>
    constructor
    · rintro ⟨h0, k⟩; exact .inl ⟨by omega, by simpa using k⟩
    · rintro (⟨rfl, k⟩ | ⟨e, k⟩)
      · exact ⟨by omega, by simpa using k⟩
      · omega
  | 1 =>
    constructor
    · rintro ⟨h0, k⟩; exact .inr ⟨by omega, by simpa using k⟩
    · rintro (⟨e, k⟩ | ⟨rfl, k⟩)
      · omega
      · exact ⟨by omega, by simpa using k⟩
  | n + 2 =>
    constructor
    · rintro ⟨h0, k⟩; simp at k
    · rintro (⟨e, k⟩ | ⟨e, k⟩) <;> omega
theorem aw3_b0 (s : Int) : bt [true, false] s ↔ Rd aw3u [] s := by
  rw [← rd_nil, ← cert (E := epsN aw3u) (base := [aw3u.start]) (K := [0]) (by decide +kernel), List.mem_singleton]
  rw [bt2]; simp
theorem aw3_b1 (s : Int) : bt [false, true] s ↔ Rd aw3u [97] s := by
  rw [show ([97] : List Int) = [] ++ [97] from rfl, ← rd_snoc aw3u_ok (by decide) aw3_b0, ← cert (E := epsN aw3u) (base := nxR aw3u [true, false] 97 2) (K := [1]) (by decide +kernel), List.mem_singleton]
  rw [bt2]; simp
theorem aw3_greedy : Greedy aw3u [97] := by
  have h1 := bsN_goes aw3u_ok aw3_b0
  have h2 := bsN_goes aw3u_ok aw3_b1
  have e1 : bsN aw3u [true, false] 2 = 97 := by decide +kernel
  have e2 : bsN aw3u [false, true] 2 = 0 := by decide +kernel
  rw [e1] at h1
  exact greedy_fin (greedy_snoc (x := []) (fun k r h => by simp at h) (by decide) h1) h2 e2
theorem aw3u_acc {w : List Int} : Acc (tnet aw3u [97]) ⟨0, 0⟩ w ↔ w = [98] := by
  rw [acc_spk (r := 98) (d := ⟨1, 1⟩) (by decide +kernel) (by decide +kernel) (by decide +kernel)]
  constructor
  · rintro ⟨v, rfl, h⟩
    rw [acc_end (by decide +kernel) (by decide +kernel) (by decide +kernel)] at h
    rw [h]
  · rintro rfl
    exact ⟨[], rfl, (acc_end (by decide +kernel) (by decide +kernel) (by decide +kernel)).2 rfl⟩
theorem aw3_h : ShtH aw3 := fun _ u xs hu hg => by
  obtain rfl := aw3_u hu
  obtain rfl := greedy_uniq hg aw3_greedy
  refine ⟨⟨[98], aw3u_acc.2 rfl, by decide⟩, fun w w' h h' => ?_⟩
  rw [aw3u_acc.1 h, aw3u_acc.1 h']
theorem aw3_sht {x y : ByteArray} {b : Bool} (h : ShtP aw3 x y b) : x = ⟨#[97]⟩ ∧ y = ⟨#[98]⟩ ∧ b = true := by
  obtain ⟨hb, u, xs, ys, hu, hg, hf, rfl, rfl⟩ := h.2 aw3_ne
  obtain rfl := aw3_u hu
  obtain rfl := greedy_uniq hg aw3_greedy
  obtain rfl := aw3u_acc.1 hf.1
  exact ⟨by decide +kernel, by decide +kernel, hb⟩
end Go.Proofs.Ytfepjcmjkaolgaa.G
