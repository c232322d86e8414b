/- slices.Sort, slices.Collect, slices.Sorted at runes, of any length. -/
import Derived.Test.YtfepjcmjkaolgaaWA
import Derived.Test.YtfepjcmjkaolgaaGSqA
import Derived.Test.YtfepjcmjkaolgaaWQ9
import Derived.Test.YtfepjcmjkaolgaaGBln
import Derived.Shelf.Sort.So_math_bits_LenIn
import Derived.Sort.EveryDepth
set_option linter.all false
namespace Go.Proofs.Ytfepjcmjkaolgaa.G
open Go Go.RowKit
theorem keys1T_c {l : List (Int × SV)} {mv : Value} {bm : Nat} {I : Heap} (Rl : rdMp QRune sv I mv l) (Hb : I bm = some (.cells (#[mv] : Array Value) 107 (0, 0))) {γ : Type} (lp : Nat) (Lt : γ → List Int → List Res) (c0 : γ) {w0 w : World} {I0 : Heap} (M : Mem w0 I0 I (Lt c0 []) w)
    (hY : ∀ (X : Res) (c : γ) (pre : List Int) (x : Int) (w' : World), pre.length < l.length → Mem w0 I0 I (X :: Lt c pre) w' → ∀ k, YieldAt Fence.wide k A lp #[.int .i32 x] w' fun e w'' => e = .returned (.bool true) ∧ ∃ c', Mem w0 I0 I (X :: Lt c' (pre ++ [x])) w'') :
    Calls A 78 #[.func (.yield lp) #[] #[], .pointer (some ⟨bm, 0, none⟩)] w fun e w' => ∃ v, e = .returned v ∧ ∃ xs c, xs.Perm (l.map (·.1)) ∧ Mem w0 I0 I (Lt c xs) w' := by
 have hoI := M.old
 refine enter Try.func78 rfl 14 Try.ntmps78 [_, _] rfl ?_
 refine wc_seq ?_
 refine wc_region ?_
 refine wl_m M (q_ldbI Hb Try.underlying107 rfl rfl rfl) rfl rfl ?_
 refine wl_e (e_rngI M Rl Try.underlying107 rfl) rfl rfl ?_
 rintro _ w1 ⟨r5, mb5, rfl, rfl, M⟩
 refine wl_nil ?_
 refine wc_block ?_
 refine wc_loop (α := γ × (List (Int × SV))) [3, 6, 7, 8, 9, 10, 11, 12, 13] (fun ((c, dn_5_0) : γ × (List (Int × SV))) => [])
   (fun ((c, dn_5_0) : γ × (List (Int × SV))) w' => Mem w0 I0 I (itr r5 mb5 l dn_5_0 :: (Lt c (dn_5_0.map (·.1)))) w')
   (fun ((c, dn_5_0) : γ × (List (Int × SV))) => l.length - dn_5_0.length) (c0, []) trivial ?_ ?_
 ·exact M
 rintro ⟨c, dn_5_0⟩ jj0 w2 M
 refine wc_seq ?_
 refine wc_region ?_
 refine wl_e (e_nx (Q := QRune) (V := sv) 0 M (M.imm _ _ (Rl).at_) rfl rfl) rfl rfl ?_
 rintro _ w3 (⟨rfl, hpm1, M⟩ | ⟨p5, hpi1, hpl1, rfl, M⟩)
 ·refine wl_m M (q_ext rfl rfl) rfl rfl ?_
  refine wl_nil ?_
  refine wc_seq ?_
  refine wc_false rfl ?_
  refine wc_exit rfl ?_
  exact out0 rfl ⟨_, rfl, _, c, hpm1.map _, M.drop 0⟩
 simp only [sC0, sCS] at M
 refine wl_m M (q_ext rfl rfl) rfl rfl ?_
 refine wl_nil ?_
 refine wc_seq ?_
 refine wc_true rfl ?_
 refine wc_skip ?_
 refine wc_block ?_
 refine wc_seq ?_
 refine wc_region ?_
 refine wl_m M (q_ent (Q := QRune) (V := sv) 0 (fun w M => M.imm _ _ (Rl).at_) rfl rfl) rfl rfl ?_
 refine wl_m M (q_ext rfl rfl) rfl rfl ?_
 refine wl_as M rfl rfl ?_
 refine wl_nil ?_
 refine wc_seq ?_
 refine wc_wide ?_
 refine wi_q opn_wide nofun (q_move rfl) M rfl rfl ?_
 refine wi_q opn_wide nofun (q_move rfl) M rfl rfl ?_
 refine wi_yield (Post := fun v w' => v = .bool true ∧ ∃ c', Mem w0 I0 I (itr r5 mb5 l (dn_5_0 ++ [p5]) :: Lt c' (dn_5_0.map (·.1) ++ [p5.1])) w') opn_wide rfl (run_yieldcall rfl rfl) (fun k => YieldAt.mono (hY _ c (dn_5_0.map (·.1)) p5.1 _ (by rw [List.length_map]; exact hpl1) M k) fun e w' h => ⟨_, h.1, rfl, h.2⟩) rfl ?_
 rintro _ w4 ⟨rfl, c', M⟩
 refine wi_q opn_wide nofun (q_not rfl) M rfl rfl ?_
 refine wi_end ?_
 refine wc_cond rfl (fun ht13 => ?_) (fun ht13 => ?_)
 ·exact absurd ht13 (by decide)
 refine wc_skip ?_
 refine ⟨(c', dn_5_0 ++ [p5]), ?_, (by have h := M; rw [show dn_5_0.map (·.1) ++ [p5.1] = (dn_5_0 ++ [p5]).map (·.1) from by simp] at h; exact h), trivial, unw_look rfl unw_base⟩
 show l.length - (dn_5_0 ++ [p5]).length < l.length - dn_5_0.length
 rw [List.length_append, List.length_singleton]; omega
theorem keysT_c {mb : Option Nat} {I : Heap} {w : World} (hI : hle I (hp w)) : Calls A 67 #[.map mb] w (Ret w I fun r I' => ∃ b, r = .func (.func 78) #[] #[.pointer (some ⟨b, 0, none⟩)] ∧ I' b = some (.cells (#[.map mb] : Array Value) 107 (0, 0))) := by
 have M := Mem.start hI
 refine enter Try.func67 rfl 4 Try.ntmps67 [_] rfl ?_
 refine wc_seq ?_
 refine wc_region ?_
 refine wl_e (e_box M rfl) rfl rfl ?_
 rintro _ w1 ⟨b1, rfl, M⟩
 refine wl_as M rfl rfl ?_
 refine wl_nil ?_
 refine wc_seq ?_
 refine wc_region ?_
 refine wl_m M (q_makeFunc (vs := [.pointer (some ⟨b1, 0, none⟩)]) rfl) rfl rfl ?_
 refine wl_as M rfl rfl ?_
 refine wl_nil ?_
 refine wc_ret ?_
 obtain ⟨I9, M, hI9, Hb⟩ := M.frzBox 0 rfl
 have hoI9 := M.old
 exact out1 rfl rfl ⟨_, I9, rfl, M.grow, b1, rfl, Hb⟩
end Go.Proofs.Ytfepjcmjkaolgaa.G

set_option linter.all false
namespace Go.Proofs.Ytfepjcmjkaolgaa.G
open Go Go.RowKit Go.Shelf
theorem bitsLen_c (x : Int) (w : World) (h0 : 0 ≤ x) (h1 : x ≤ 18446744073709551615) : Calls A 72 #[.int .u64 x] w fun e w' => ∃ v, e = .returned v ∧ (v = .int .i64 (Lib.bitLen x.toNat) ∧ w' = w) :=
  (calls_of_every_depth fun D => AnyS.bits_LenIn Try.bitsLen D x w h0 h1).mono fun e w' h => ⟨_, h.1, rfl, h.2⟩
theorem sortR_c {u : SV} {xs : List Int} {w0 w : World} {I0 I : Heap} {Lt : List Res} (hl : xs.length ≤ 1099511627776) (M : Mem w0 I0 I (row ERune (sv u) xs :: Lt) w) :
    Calls A 77 #[sv u] w fun e w' => ∃ v, e = .returned v ∧ ∃ ys : List Int, (ys.Perm xs ∧ ys.Pairwise (· ≤ ·)) ∧ Mem w0 I0 I (row ERune (sv u) ys :: Lt) w' := by
  refine enter Try.func77 rfl 11 Try.ntmps77 [_] rfl ?_
  refine wc_seq ?_
  refine wc_region ?_
  refine wl_mv M rfl rfl ?_
  refine wl_m M (q_lenr 0 M rfl Try.underlying40 rfl) rfl rfl ?_
  refine wl_as M rfl rfl ?_
  refine wl_nil ?_
  refine wc_region ?_
  refine wl_mv M rfl rfl ?_
  refine wl_mv M rfl rfl ?_
  refine wl_mv M rfl rfl ?_
  refine wl_m M (q_cvII (k' := .u64) (r' := (xs.length : Int)) (by rw [Try.underlying3]; rfl) Try.underlying118 (IntWalk.u64_in _ (by omega)) rfl) rfl rfl ?_
  refine wl_e (e_callR Try.func72 rfl (vs := [.int .u64 (xs.length : Int)]) rfl (bitsLen_c _ _ (by omega) (by omega))) rfl rfl ?_
  rintro _ w1 ⟨rfl, rfl⟩
  refine wl_e (e_callR Try.func91 rfl (vs := [sv u, .int .i64 0, .int .i64 (xs.length : Int), _]) rfl (pdqQ_c xs.length (a := 0) (b := xs.length) (by omega) rfl rfl ⟨by omega, by have := Lib.bitLen_le ((xs.length : Int)).toNat 64 (Nat.le_refl _) (by omega); omega⟩ (Nat.zero_le _) (Nat.le_refl _) hl (.inl rfl) M)) rfl rfl ?_
  rintro _ w2 ⟨ys, hys, M⟩
  refine wl_nil ?_
  exact out0 rfl ⟨_, rfl, ys, ⟨hys.1.perm, PQ.srt_all (by have := hys.2; rw [← hys.1.len] at this; exact this)⟩, M⟩
theorem collectR_c {w0 w : World} {I0 I : Heap} {Lt : List Res} {gf : FuncId} {lb : Array Value} {S : List Int → Prop} {N : Nat} (hN : (N + 1) * 4 ≤ 140737488355328) (eg : ∀ args w, (callFunc gf args).run A w = .ok (.enter gf args) w)
    (hit : Gives A gf lb (Value.int .i32) S N w0 I0 I) (M : Mem w0 I0 I Lt w) : Calls A 76 #[.func (.func gf) #[] lb] w fun e w' => ∃ v, e = .returned v ∧ ∃ (u : SV) (xs : List Int), v = sv u ∧ S xs ∧ Mem w0 I0 I (row ERune (sv u) xs :: Lt) w' := by
  refine enter Try.func76 rfl 5 Try.ntmps76 [_] rfl ?_
  refine wc_seq ?_
  refine wc_region ?_
  refine wl_as M rfl rfl ?_
  refine wl_nil ?_
  refine wc_seq ?_
  refine wc_region ?_
  refine wl_mv M rfl rfl ?_
  refine wl_e (e_callR (Post := fun v w' => ∃ (u : SV) (xs : List Int), v = sv u ∧ S xs ∧ Mem w0 I0 I (row ERune (sv u) xs :: Lt) w') Try.func90 rfl (vs := [.slice none 0 0, .func (.func gf) #[] lb]) rfl ((appendSeq_c hN eg hit M).mono fun e w' h => by obtain ⟨u, xs, rfl, h⟩ := h; exact ⟨_, rfl, u, xs, rfl, h⟩)) rfl rfl ?_
  rintro _ w1 ⟨u, xs, rfl, hS, M⟩
  refine wl_as M rfl rfl ?_
  refine wl_nil ?_
  refine wc_ret ?_
  exact out1 rfl rfl ⟨_, rfl, u, xs, rfl, hS, M⟩
theorem sortedR_c {w0 w : World} {I0 I : Heap} {Lt : List Res} {gf : FuncId} {lb : Array Value} {S : List Int → Prop} {N : Nat} (hN : (N + 1) * 4 ≤ 140737488355328) (hS12 : ∀ xs, S xs → xs.length ≤ 1099511627776) (eg : ∀ args w, (callFunc gf args).run A w = .ok (.enter gf args) w)
    (hit : Gives A gf lb (Value.int .i32) S N w0 I0 I) (M : Mem w0 I0 I Lt w) : Calls A 66 #[.func (.func gf) #[] lb] w fun e w' => ∃ v, e = .returned v ∧ ∃ (u : SV) (xs ys : List Int), v = sv u ∧ S xs ∧ (ys.Perm xs ∧ ys.Pairwise (· ≤ ·)) ∧ Mem w0 I0 I (row ERune (sv u) ys :: Lt) w' := by
  refine enter Try.func66 rfl 9 Try.ntmps66 [_] rfl ?_
  refine wc_seq ?_
  refine wc_region ?_
  refine wl_as M rfl rfl ?_
  refine wl_nil ?_
  refine wc_seq ?_
  refine wc_region ?_
  refine wl_mv M rfl rfl ?_
  refine wl_e (e_callR Try.func76 rfl (vs := [.func (.func gf) #[] lb]) rfl (collectR_c hN eg hit M)) rfl rfl ?_
  rintro _ w1 ⟨u, xs, rfl, hS, M⟩
  refine wl_as M rfl rfl ?_
  refine wl_nil ?_
  refine wc_seq ?_
  refine wc_region ?_
  refine wl_mv M rfl rfl ?_
  refine wl_e (e_callR Try.func77 rfl (vs := [sv u]) rfl (sortR_c (hS12 xs hS) M)) rfl rfl ?_
  rintro _ w2 ⟨ys, hys, M⟩
  refine wl_nil ?_
  refine wc_seq ?_
  refine wc_region ?_
  refine wl_mv M rfl rfl ?_
  refine wl_as M rfl rfl ?_
  refine wl_nil ?_
  refine wc_ret ?_
  exact out1 rfl rfl ⟨_, rfl, u, xs, ys, rfl, hS, hys, M⟩
end Go.Proofs.Ytfepjcmjkaolgaa.G
