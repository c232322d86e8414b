/- What the walk of Outputs leans on. Plain Lean. -/
import Derived.Test.YtmjieefhjmiagaaGreatDoorGLgr
import Derived.Test.YtmjieefhjmiagaaGreatDoorGMid
set_option linter.all false
namespace Go.Proofs.YtmjieefhjmiagaaGreatDoor.G
open Go Go.RowKit
theorem Pres.at {h : Heap} : ∀ {rs : List RPre} {qs : List (List Int × List TCfg)}, Pres h rs qs → ∀ {j : Nat} {r : RPre}, rs[j]? = some r → ∃ q, qs[j]? = some q ∧ PreOk h r q
  | _ :: _, q :: _, p, 0, r, e => by simp at e; subst e; exact ⟨q, rfl, p.1⟩
  | _ :: _, _ :: _, p, j + 1, r, e => by simp at e; simpa using Pres.at p.2 e
theorem Pres.app {h : Heap} {rs' : List RPre} {qs' : List (List Int × List TCfg)} (k : Pres h rs' qs') : ∀ {rs : List RPre} {qs : List (List Int × List TCfg)}, Pres h rs qs → Pres h (rs ++ rs') (qs ++ qs')
  | [], [], _ => k
  | _ :: _, _ :: _, p => ⟨p.1, Pres.app k p.2⟩
section
variable {t : Tra} {l : List Int} {K : List TCfg} {dist : List (TCfg × Int)}
theorem acc_ends {q : List Int × List TCfg} : ((endsT t l).any fun c => decide (c ∈ q.2)) = accP (tnet t l) q := by
  rw [Bool.eq_iff_iff, accP, List.any_eq_true, List.any_eq_true]
  constructor
  · rintro ⟨c, h1, h2⟩; exact ⟨c, by simpa using h2, dn_ends.2 h1⟩
  · rintro ⟨c, h1, h2⟩; exact ⟨c, dn_ends.1 h2, by simpa using h1⟩
theorem sr_zero {nn : Nat} {n : Int} (hn : (nn : Int) = n) (hK : Closure (tcN t l) (· = ⟨t.start, 0⟩) K) (hd : DistOk (tnet t l) ⟨t.start, 0⟩ dist) {cs : List TCfg}
    (h : ∀ c, c ∈ cs ↔ Reach (fun c => (silM (K.flatMap (tcE t l)) c).filter fun c => okD dist c (n - 0)) (fun c => c ∈ [(⟨t.start, 0⟩ : TCfg)] ∧ okD dist c (n - 0) = true) c) : Sr (tnet t l) ⟨t.start, 0⟩ nn 0 [([], cs)] [] := by
  have h' : ∀ c, c ∈ cs ↔ Clo (tnet t l) dist nn [(⟨t.start, 0⟩ : TCfg)] c := fun c => by
    rw [h c, Int.sub_zero, ← hn]
    exact clo_silM hK fun c hc => (hK.mem _).2 (.base (List.mem_singleton.1 hc))
  cases cs with
  | nil => exact .inr ⟨⟨fun p hp => by rw [List.mem_singleton.1 hp], fun w hw => lev_none hd (fun c hc => by have := (h' c).2 hc; simp at this) hw⟩, rfl⟩
  | cons c cs => exact .inl ⟨lev_zero hd h' (by simp), out_zero⟩
theorem nx_out {nn : Nat} {n : Int} (hn : (nn : Int) = n) (hK : Closure (tcN t l) (· = ⟨t.start, 0⟩) K) (hd : DistOk (tnet t l) ⟨t.start, 0⟩ dist) {q : List Int × List TCfg} {ys : List Int} {fr Kf : Int → List TCfg}
    (h : ys.Pairwise (· < ·) ∧ (∀ r, r ∈ ys ↔ ∃ c ∈ q.2, ∃ m ∈ K.flatMap (tcE t l), m.src = c ∧ m.out = r ∧ r ≠ 0) ∧ (∀ r d, r ≠ 0 → (d ∈ fr r ↔ ∃ c ∈ q.2, ∃ m ∈ K.flatMap (tcE t l), m.src = c ∧ m.out = r ∧ m.dst = d)) ∧
      ∀ r ∈ ys, ∀ c, c ∈ Kf r ↔ Reach (fun c => (silM (K.flatMap (tcE t l)) c).filter fun c => okD dist c (n - ((q.1.length : Int) + 1))) (fun c => c ∈ fr r ∧ okD dist c (n - ((q.1.length : Int) + 1)) = true) c) :
    Nx (tnet t l) ⟨t.start, 0⟩ nn q (qsL q.1 ys Kf) := by
  subst hn
  refine ⟨fun e => ?_, fun hset => nxt_longer hK hd hset h⟩
  have : ys = [] := List.eq_nil_iff_forall_not_mem.2 fun r hr => by
    obtain ⟨c, hc, _⟩ := (h.2.1 r).1 hr
    rw [e] at hc; simp at hc
  rw [this]; rfl
end
def goodO (t : Tra) (x : ByteArray) (n : Int) : Bool := !(((!validT t || !okT x) || decide (n < 0)) || decide (4096 < n))
def OutP (t : Tra) (x : ByteArray) (n : Int) (out : List ByteArray) (e : Int) : Prop :=
  (goodO t x n = false → out = [] ∧ e = 1) ∧ (goodO t x n = true → ∀ W, Wds (tnet t (runesL x)) ⟨t.start, 0⟩ n.toNat W → (W.length ≤ 256 → out = W.map strL ∧ e = 0) ∧ (256 < W.length → out = [] ∧ e = 2))
theorem outP_bad {t : Tra} {x : ByteArray} {n : Int} (h : (((!validT t || !okT x) || decide (n < 0)) || decide (4096 < n)) = true) : OutP t x n [] 1 := ⟨fun _ => ⟨rfl, rfl⟩, fun g => by rw [goodO, h] at g; cases g⟩
theorem outP_big {t : Tra} {x : ByteArray} {n : Int} (hg : (((!validT t || !okT x) || decide (n < 0)) || decide (4096 < n)) = false) (h : ∀ W, Wds (tnet t (runesL x)) ⟨t.start, 0⟩ n.toNat W → 256 < W.length) : OutP t x n [] 2 :=
  ⟨fun g => (by rw [goodO, hg] at g; cases g), fun _ W hW => ⟨fun k => absurd (h W hW) (by omega), fun _ => ⟨rfl, rfl⟩⟩⟩
theorem outP_ok {t : Tra} {x : ByteArray} {n : Int} {o : List (List Int)} (hg : (((!validT t || !okT x) || decide (n < 0)) || decide (4096 < n)) = false) (ho : o.length ≤ 256) (h : ∀ W, Wds (tnet t (runesL x)) ⟨t.start, 0⟩ n.toNat W → o = W) : OutP t x n (o.map strL) 0 :=
  ⟨fun g => (by rw [goodO, hg] at g; cases g), fun _ W hW => ⟨fun _ => ⟨by rw [h W hW], rfl⟩, fun k => absurd (h W hW ▸ ho) (by omega)⟩⟩
theorem mv_big {t : Tra} {m : Nat} {l : List Int} {K : List TCfg} {sz : Nat} (hm : m ≤ 512) (hl : l.length ≤ sz) (hK : K.length ≤ m * (l.length + 1)) (h : 512 * (sz + 1) * t.arcs.length ≤ 1048576) : (K.flatMap (tcE t l)).length ≤ 1048576 := by
  have h1 := flat_len (tcE_len t l) K
  have h2 := Nat.mul_le_mul hm (show l.length + 1 ≤ sz + 1 by omega)
  have h3 := Nat.mul_le_mul (Nat.le_trans hK h2) (Nat.le_refl t.arcs.length)
  omega
theorem alph_mv {t : Tra} {l : List Int} {K : List TCfg} (hal : ∀ ks : List Int, ks.Nodup → (∀ r ∈ ks, r ≠ 0 ∧ ∃ z ∈ t.arcs, z.out = r) → ks.length ≤ 12) : ∀ ks : List Int, ks.Nodup → (∀ r ∈ ks, r ≠ 0 ∧ ∃ m ∈ K.flatMap (tcE t l), m.out = r) → ks.length ≤ 12 := fun ks h1 h2 => hal ks h1 fun r hr => by
  obtain ⟨h0, m, hm, rfl⟩ := h2 r hr
  obtain ⟨c, _, hm⟩ := List.mem_flatMap.1 hm
  obtain ⟨z, hz, _, _, rfl⟩ := mem_tcE.1 hm
  exact ⟨h0, z, hz, rfl⟩
end Go.Proofs.YtmjieefhjmiagaaGreatDoor.G
