/- algebra.finish: the trimmed raw construction; slices.SortFunc with algebra's comparison. -/
import Derived.Test.YtoilmeiikgegcaaDoorWVa
import Derived.Test.YtoilmeiikgegcaaDoorGSort
import Derived.Test.YtoilmeiikgegcaaDoorGLay
set_option linter.all false
namespace Go.Proofs.YtoilmeiikgegcaaDoor.G
open Go Go.RowKit Go.Sort Go.Shelf
theorem sortU_c {w0 w : World} {I0 I : Heap} {L : List Res} (i : Nat) {u : SV} {xs : List Arc} (M : Mem w0 I0 I L w) (hL : L[i]? = some (row EArc (sv u) xs)) (hsz : xs.length < 4611686018427387904) :
    Calls A 62 #[sv u, .func (.func 72) #[] #[]] w fun e w' => ∃ v, e = .returned v ∧ Mem w0 I0 I (L.set i (row EArc (sv u) (srtA xs))) w' :=
  sort_calls (E := EArc) Tryd.sortA (fun _ => by kernel_rfl) (fun _ => by kernel_rfl) ordA swoA totA (enters_of Tryd.func72 (by kernel_rfl) rfl) (fun x y _ _ hI => by rw [Array.append_empty]; exact orderU_c x y hI) i M hL hsz
noncomputable def FinS (t : Tra) (m : Nat) : Tra × Int := limS (TrimS t m)
theorem dn_kp {t : Tra} (hs : 0 ≤ t.start) : dnB t = kpS t t.start.toNat := by
  rw [Bool.eq_iff_iff, kpS_iff, Int.toNat_of_nonneg hs]
  simp only [dnB, decide_eq_true_eq]
  exact ⟨fun h => ⟨up_start t, h⟩, fun h => h.2⟩
theorem fin_one {t : Tra} {m : Nat} (hs : 0 ≤ t.start) (h : (!(dnB t)) = true) : FinS t m = (oneTra, 0) := by
  rw [dn_kp hs] at h
  rw [FinS, TrimS, if_neg (by simpa using h)]
  rfl
theorem trimS_at {t : Tra} {m : Nat} (hr : t.Rng m) (hk : kpS t t.start.toNat = true) {l : List Arc} (hl : l.Nodup ∧ ∀ z, z ∈ l ↔ z ∈ t.arcs.flatMap (arcQ (kpS t))) :
    TrimS t m = ⟨(rk (kpS t) m : Int), nuP (kpS t) t.start.toNat, dedupC (srtI (t.finals.flatMap (finQ (kpS t)))), srtA l⟩ := by
  rw [TrimS, if_pos hk, nuP_at hk, srt_canon hl.1 hl.2]
  congr 1
  refine (isorted_ext (dedupI_sorted (srtI_sorted _)) (finS_sorted t m) fun x => ?_).symm
  rw [mem_finS, mem_dedupC, mem_srtI, List.mem_flatMap]
  constructor
  · rintro ⟨f, hf, hx⟩
    have h0 := hr.fin f hf
    unfold finQ at hx
    split at hx
    · rename_i h; exact ⟨f.toNat, by omega, h, by rw [Int.toNat_of_nonneg h0.1]; exact hf, by simpa using hx⟩
    · simp at hx
  · rintro ⟨i, hi, h1, h2, rfl⟩
    exact ⟨(i : Int), h2, by simp [finQ, h1]⟩
end Go.Proofs.YtoilmeiikgegcaaDoor.G
