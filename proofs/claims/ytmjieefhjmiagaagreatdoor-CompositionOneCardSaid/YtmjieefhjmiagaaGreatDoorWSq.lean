/- Walks of the program's functions. -/
import Derived.Test.YtmjieefhjmiagaaGreatDoorWA
import Derived.Test.YtmjieefhjmiagaaGreatDoorGSqA
set_option linter.all false
namespace Go.Proofs.YtmjieefhjmiagaaGreatDoor.G
open Go Go.RowKit
theorem keys1C_c {l : List (Int × SV)} {mv : Value} {bm : Nat} {I : Heap} (Rl : rdMp QRune sv I mv l) (Hb : I bm = some (.cells (#[mv] : Array Value) 83 (0, 0))) {γ : Type} (lp : Nat) (Lt : γ → List Int → List Res) (c0 : γ) {w0 w : World} {I0 : Heap} (M : Mem w0 I0 I (Lt c0 []) w)
    (hY : ∀ (X : Res) (c : γ) (pre : List Int) (x : Int) (w' : World), pre.length < l.length → Mem w0 I0 I (X :: Lt c pre) w' → ∀ k, YieldAt Fence.wide k A lp #[.int .i32 x] w' fun e w'' => e = .returned (.bool true) ∧ ∃ c', Mem w0 I0 I (X :: Lt c' (pre ++ [x])) w'') :
    Calls A 100 #[.func (.yield lp) #[] #[], .pointer (some ⟨bm, 0, none⟩)] w fun e w' => ∃ v, e = .returned v ∧ ∃ xs c, xs.Perm (l.map (·.1)) ∧ Mem w0 I0 I (Lt c xs) w' := by
 have hoI := M.old
 refine enter Tryz.func100 rfl 14 Tryz.ntmps100 [_, _] rfl ?_
 refine wc_seq ?_
 refine wc_region ?_
 refine wl_m M (q_ldbI Hb Tryz.underlying83 rfl rfl rfl) rfl rfl ?_
 refine wl_e (e_rngI M Rl Tryz.underlying83 rfl) rfl rfl ?_
 rintro _ w1 ⟨r5, mb5, rfl, rfl, M⟩
 refine wl_nil ?_
 refine wc_block ?_
 refine wc_loop (α := γ × (List (Int × SV))) [3, 6, 7, 8, 9, 10, 11, 12, 13] (fun ((c, dn_5_0) : γ × (List (Int × SV))) => [])
   (fun ((c, dn_5_0) : γ × (List (Int × SV))) w' => Mem w0 I0 I (itr r5 mb5 l dn_5_0 :: (Lt c (dn_5_0.map (·.1)))) w')
   (fun ((c, dn_5_0) : γ × (List (Int × SV))) => l.length - dn_5_0.length) (c0, []) trivial ?_ ?_
 ·exact M
 rintro ⟨c, dn_5_0⟩ jj0 w2 M
 refine wc_seq ?_
 refine wc_region ?_
 refine wl_e (e_nx (Q := QRune) (V := sv) 0 M (M.imm _ _ (Rl).at_) rfl rfl) rfl rfl ?_
 rintro _ w3 (⟨rfl, hpm1, M⟩ | ⟨p5, hpi1, hpl1, rfl, M⟩)
 ·refine wl_m M (q_ext rfl rfl) rfl rfl ?_
  refine wl_nil ?_
  refine wc_seq ?_
  refine wc_false rfl ?_
  refine wc_exit rfl ?_
  exact out0 rfl ⟨_, rfl, _, c, hpm1.map _, M.drop 0⟩
 simp only [sC0, sCS] at M
 refine wl_m M (q_ext rfl rfl) rfl rfl ?_
 refine wl_nil ?_
 refine wc_seq ?_
 refine wc_true rfl ?_
 refine wc_skip ?_
 refine wc_block ?_
 refine wc_seq ?_
 refine wc_region ?_
 refine wl_m M (q_ent (Q := QRune) (V := sv) 0 (fun w M => M.imm _ _ (Rl).at_) rfl rfl) rfl rfl ?_
 refine wl_m M (q_ext rfl rfl) rfl rfl ?_
 refine wl_as M rfl rfl ?_
 refine wl_nil ?_
 refine wc_seq ?_
 refine wc_wide ?_
 refine wi_q opn_wide nofun (q_move rfl) M rfl rfl ?_
 refine wi_q opn_wide nofun (q_move rfl) M rfl rfl ?_
 refine wi_yield (Post := fun v w' => v = .bool true ∧ ∃ c', Mem w0 I0 I (itr r5 mb5 l (dn_5_0 ++ [p5]) :: Lt c' (dn_5_0.map (·.1) ++ [p5.1])) w') opn_wide rfl (run_yieldcall rfl rfl) (fun k => YieldAt.mono (hY _ c (dn_5_0.map (·.1)) p5.1 _ (by rw [List.length_map]; exact hpl1) M k) fun e w' h => ⟨_, h.1, rfl, h.2⟩) rfl ?_
 rintro _ w4 ⟨rfl, c', M⟩
 refine wi_q opn_wide nofun (q_not rfl) M rfl rfl ?_
 refine wi_end ?_
 refine wc_cond rfl (fun ht13 => ?_) (fun ht13 => ?_)
 ·exact absurd ht13 (by decide)
 refine wc_skip ?_
 refine ⟨(c', dn_5_0 ++ [p5]), ?_, (by have h := M; rw [show dn_5_0.map (·.1) ++ [p5.1] = (dn_5_0 ++ [p5]).map (·.1) from by simp] at h; exact h), trivial, unw_look rfl unw_base⟩
 show l.length - (dn_5_0 ++ [p5]).length < l.length - dn_5_0.length
 rw [List.length_append, List.length_singleton]; omega
theorem keysC_c {mb : Option Nat} {I : Heap} {w : World} (hI : hle I (hp w)) : Calls A 66 #[.map mb] w (Ret w I fun r I' => ∃ b, r = .func (.func 100) #[] #[.pointer (some ⟨b, 0, none⟩)] ∧ I' b = some (.cells (#[.map mb] : Array Value) 83 (0, 0))) := by
 have M := Mem.start hI
 refine enter Tryz.func66 rfl 4 Tryz.ntmps66 [_] rfl ?_
 refine wc_seq ?_
 refine wc_region ?_
 refine wl_e (e_box M rfl) rfl rfl ?_
 rintro _ w1 ⟨b1, rfl, M⟩
 refine wl_as M rfl rfl ?_
 refine wl_nil ?_
 refine wc_seq ?_
 refine wc_region ?_
 refine wl_m M (q_makeFunc (vs := [.pointer (some ⟨b1, 0, none⟩)]) rfl) rfl rfl ?_
 refine wl_as M rfl rfl ?_
 refine wl_nil ?_
 refine wc_ret ?_
 obtain ⟨I9, M, hI9, Hb⟩ := M.frzBox 0 rfl
 have hoI9 := M.old
 exact out1 rfl rfl ⟨_, I9, rfl, M.grow, b1, rfl, Hb⟩
theorem keys1T_c {l : List (Int × SV)} {mv : Value} {bm : Nat} {I : Heap} (Rl : rdMp QRune sv I mv l) (Hb : I bm = some (.cells (#[mv] : Array Value) 168 (0, 0))) {γ : Type} (lp : Nat) (Lt : γ → List Int → List Res) (c0 : γ) {w0 w : World} {I0 : Heap} (M : Mem w0 I0 I (Lt c0 []) w)
    (hY : ∀ (X : Res) (c : γ) (pre : List Int) (x : Int) (w' : World), pre.length < l.length → Mem w0 I0 I (X :: Lt c pre) w' → ∀ k, YieldAt Fence.wide k A lp #[.int .i32 x] w' fun e w'' => e = .returned (.bool true) ∧ ∃ c', Mem w0 I0 I (X :: Lt c' (pre ++ [x])) w'') :
    Calls A 110 #[.func (.yield lp) #[] #[], .pointer (some ⟨bm, 0, none⟩)] w fun e w' => ∃ v, e = .returned v ∧ ∃ xs c, xs.Perm (l.map (·.1)) ∧ Mem w0 I0 I (Lt c xs) w' := by
 have hoI := M.old
 refine enter Tryz.func110 rfl 14 Tryz.ntmps110 [_, _] rfl ?_
 refine wc_seq ?_
 refine wc_region ?_
 refine wl_m M (q_ldbI Hb Tryz.underlying168 rfl rfl rfl) rfl rfl ?_
 refine wl_e (e_rngI M Rl Tryz.underlying168 rfl) rfl rfl ?_
 rintro _ w1 ⟨r5, mb5, rfl, rfl, M⟩
 refine wl_nil ?_
 refine wc_block ?_
 refine wc_loop (α := γ × (List (Int × SV))) [3, 6, 7, 8, 9, 10, 11, 12, 13] (fun ((c, dn_5_0) : γ × (List (Int × SV))) => [])
   (fun ((c, dn_5_0) : γ × (List (Int × SV))) w' => Mem w0 I0 I (itr r5 mb5 l dn_5_0 :: (Lt c (dn_5_0.map (·.1)))) w')
   (fun ((c, dn_5_0) : γ × (List (Int × SV))) => l.length - dn_5_0.length) (c0, []) trivial ?_ ?_
 ·exact M
 rintro ⟨c, dn_5_0⟩ jj0 w2 M
 refine wc_seq ?_
 refine wc_region ?_
 refine wl_e (e_nx (Q := QRune) (V := sv) 0 M (M.imm _ _ (Rl).at_) rfl rfl) rfl rfl ?_
 rintro _ w3 (⟨rfl, hpm1, M⟩ | ⟨p5, hpi1, hpl1, rfl, M⟩)
 ·refine wl_m M (q_ext rfl rfl) rfl rfl ?_
  refine wl_nil ?_
  refine wc_seq ?_
  refine wc_false rfl ?_
  refine wc_exit rfl ?_
  exact out0 rfl ⟨_, rfl, _, c, hpm1.map _, M.drop 0⟩
 simp only [sC0, sCS] at M
 refine wl_m M (q_ext rfl rfl) rfl rfl ?_
 refine wl_nil ?_
 refine wc_seq ?_
 refine wc_true rfl ?_
 refine wc_skip ?_
 refine wc_block ?_
 refine wc_seq ?_
 refine wc_region ?_
 refine wl_m M (q_ent (Q := QRune) (V := sv) 0 (fun w M => M.imm _ _ (Rl).at_) rfl rfl) rfl rfl ?_
 refine wl_m M (q_ext rfl rfl) rfl rfl ?_
 refine wl_as M rfl rfl ?_
 refine wl_nil ?_
 refine wc_seq ?_
 refine wc_wide ?_
 refine wi_q opn_wide nofun (q_move rfl) M rfl rfl ?_
 refine wi_q opn_wide nofun (q_move rfl) M rfl rfl ?_
 refine wi_yield (Post := fun v w' => v = .bool true ∧ ∃ c', Mem w0 I0 I (itr r5 mb5 l (dn_5_0 ++ [p5]) :: Lt c' (dn_5_0.map (·.1) ++ [p5.1])) w') opn_wide rfl (run_yieldcall rfl rfl) (fun k => YieldAt.mono (hY _ c (dn_5_0.map (·.1)) p5.1 _ (by rw [List.length_map]; exact hpl1) M k) fun e w' h => ⟨_, h.1, rfl, h.2⟩) rfl ?_
 rintro _ w4 ⟨rfl, c', M⟩
 refine wi_q opn_wide nofun (q_not rfl) M rfl rfl ?_
 refine wi_end ?_
 refine wc_cond rfl (fun ht13 => ?_) (fun ht13 => ?_)
 ·exact absurd ht13 (by decide)
 refine wc_skip ?_
 refine ⟨(c', dn_5_0 ++ [p5]), ?_, (by have h := M; rw [show dn_5_0.map (·.1) ++ [p5.1] = (dn_5_0 ++ [p5]).map (·.1) from by simp] at h; exact h), trivial, unw_look rfl unw_base⟩
 show l.length - (dn_5_0 ++ [p5]).length < l.length - dn_5_0.length
 rw [List.length_append, List.length_singleton]; omega
theorem keysT_c {mb : Option Nat} {I : Heap} {w : World} (hI : hle I (hp w)) : Calls A 87 #[.map mb] w (Ret w I fun r I' => ∃ b, r = .func (.func 110) #[] #[.pointer (some ⟨b, 0, none⟩)] ∧ I' b = some (.cells (#[.map mb] : Array Value) 168 (0, 0))) := by
 have M := Mem.start hI
 refine enter Tryz.func87 rfl 4 Tryz.ntmps87 [_] rfl ?_
 refine wc_seq ?_
 refine wc_region ?_
 refine wl_e (e_box M rfl) rfl rfl ?_
 rintro _ w1 ⟨b1, rfl, M⟩
 refine wl_as M rfl rfl ?_
 refine wl_nil ?_
 refine wc_seq ?_
 refine wc_region ?_
 refine wl_m M (q_makeFunc (vs := [.pointer (some ⟨b1, 0, none⟩)]) rfl) rfl rfl ?_
 refine wl_as M rfl rfl ?_
 refine wl_nil ?_
 refine wc_ret ?_
 obtain ⟨I9, M, hI9, Hb⟩ := M.frzBox 0 rfl
 have hoI9 := M.old
 exact out1 rfl rfl ⟨_, I9, rfl, M.grow, b1, rfl, Hb⟩
theorem lessR_c (x y : Int) {I : Heap} {w : World} (hI : hle I (hp w)) : Calls A 155 #[.int .i32 x, .int .i32 y] w (Ret w I fun r _ => r = .bool (decide (x < y))) := by
 have M := Mem.start hI
 refine enter Tryz.func155 rfl 17 Tryz.ntmps155 [_, _] rfl ?_
 refine wc_seq ?_
 refine wc_region ?_
 refine wl_as M rfl rfl ?_
 refine wl_nil ?_
 refine wc_seq ?_
 refine wc_join (α := Unit) [4, 5, 6, 7, 8, 9, 10, 11, 12, 13, 14, 15, 16] (fun _ => [(4, .bool (((false || false) && (!(false || false))) || (decide (x < y))))]) (fun _ w' => Mem w I I ([]) w') ?_ ?_
 ·refine wc_region ?_
  refine wl_mv M rfl rfl ?_
  refine wl_e (e_callC M (isNaN_rune x M.imm) Tryz.func129 rfl rfl) rfl rfl ?_
  rintro _ w1 ⟨J6, hJ6, rfl, M⟩
  replace M := M.less hJ6 (fun _ _ => rfl)
  refine wl_mv M rfl rfl ?_
  rcases Bool.eq_false_or_eq_true ((false || false)) with hg7 | hg7
  ·refine wl_m M (q_guard 2 rfl rfl rfl hg7 (q_move rfl)) rfl rfl ?_
   refine wl_e (e_guard 2 rfl rfl rfl hg7 (e_callC M (isNaN_rune y M.imm) Tryz.func129 rfl rfl)) rfl rfl ?_
   rintro _ w2 ⟨J9, hJ9, rfl, M⟩
   replace M := M.less hJ9 (fun _ _ => rfl)
   refine wl_m M (q_guard 2 rfl rfl rfl hg7 (q_not rfl)) rfl rfl ?_
   refine wl_m M (q_pickT rfl hg7 rfl) rfl rfl ?_
   refine wl_mv M rfl rfl ?_
   rcases Bool.eq_false_or_eq_true (!(false || false)) with hg12 | hg12
   ·refine wl_m M (q_off 7 rfl rfl rfl hg12) rfl rfl ?_
    refine wl_m M (q_off 7 rfl rfl rfl hg12) rfl rfl ?_
    refine wl_m M (q_off 7 rfl rfl rfl hg12) rfl rfl ?_
    refine wl_m M (q_pickT rfl hg12 rfl) rfl rfl ?_
    refine wl_as M rfl rfl ?_
    refine wl_nil ?_
    exact ⟨(), M, ⟨(show some (Value.bool true) = some (Value.bool (((false || false) && (!(false || false))) || (decide (x < y)))) from by first | (simp only [hg12, hg7, Bool.true_or, Bool.false_or, Bool.true_and, Bool.false_and, Bool.or_true, Bool.or_false, Bool.and_true, Bool.and_false]; done) | (simp_all; done) | (simp_all; omega)), trivial⟩, unw_take 13 rfl rfl⟩
   refine wl_m M (q_guard 7 rfl rfl rfl hg12 (q_move rfl)) rfl rfl ?_
   refine wl_m M (q_guard 7 rfl rfl rfl hg12 (q_move rfl)) rfl rfl ?_
   refine wl_m M (q_guard 7 rfl rfl rfl hg12 (q_lss rfl rfl)) rfl rfl ?_
   refine wl_m M (q_pickF rfl hg12 rfl) rfl rfl ?_
   refine wl_as M rfl rfl ?_
   refine wl_nil ?_
   exact ⟨(), M, ⟨(show some (Value.bool (decide (x < y))) = some (Value.bool (((false || false) && (!(false || false))) || (decide (x < y)))) from by first | (simp only [hg12, hg7, Bool.true_or, Bool.false_or, Bool.true_and, Bool.false_and, Bool.or_true, Bool.or_false, Bool.and_true, Bool.and_false]; done) | (simp_all; done) | (simp_all; omega)), trivial⟩, unw_take 13 rfl rfl⟩
  refine wl_m M (q_off 2 rfl rfl rfl hg7) rfl rfl ?_
  refine wl_m M (q_off 2 rfl rfl rfl hg7) rfl rfl ?_
  refine wl_m M (q_off 2 rfl rfl rfl hg7) rfl rfl ?_
  refine wl_m M (q_pickF rfl hg7 rfl) rfl rfl ?_
  refine wl_mv M rfl rfl ?_
  refine wl_m M (q_guard 7 rfl rfl rfl rfl (q_move rfl)) rfl rfl ?_
  refine wl_m M (q_guard 7 rfl rfl rfl rfl (q_move rfl)) rfl rfl ?_
  refine wl_m M (q_guard 7 rfl rfl rfl rfl (q_lss rfl rfl)) rfl rfl ?_
  refine wl_m M (q_pickF rfl rfl rfl) rfl rfl ?_
  refine wl_as M rfl rfl ?_
  refine wl_nil ?_
  exact ⟨(), M, ⟨(show some (Value.bool (decide (x < y))) = some (Value.bool (((false || false) && (!(false || false))) || (decide (x < y)))) from by first | (simp only [hg7, Bool.true_or, Bool.false_or, Bool.true_and, Bool.false_and, Bool.or_true, Bool.or_false, Bool.and_true, Bool.and_false]; done) | (simp_all; done) | (simp_all; omega)), trivial⟩, unw_take 13 rfl rfl⟩
 rintro _ jr1 w3 M
 refine wc_ret ?_
 exact out1 rfl rfl ⟨_, _, rfl, M.grow, by simp⟩
theorem insR_c {u : SV} {xs : List Int} {w0 w : World} {I0 I : Heap} {Lt : List Res} (hl : xs.length ≤ 1073741824) (M : Mem w0 I0 I (row ERune (sv u) xs :: Lt) w) :
    Calls A 149 #[sv u, .int .i64 0, .int .i64 (xs.length : Int)] w fun e w' => ∃ v, e = .returned v ∧ ∃ ys : List Int, (ys.Perm xs ∧ ys.Pairwise (· ≤ ·)) ∧ Mem w0 I0 I (row ERune (sv u) ys :: Lt) w' := by
 have hoI := M.old
 refine enter Tryz.func149 rfl 49 Tryz.ntmps149 [_, _, _] rfl ?_
 refine wc_seq ?_
 refine wc_region ?_
 refine wl_mv M rfl rfl ?_
 refine wl_m M (q_add rfl rfl (IntWalk.i64_in _ (by omega))) rfl rfl ?_
 refine wl_as M rfl rfl ?_
 refine wl_nil ?_
 refine wc_block ?_
 refine wc_loop (α := Nat × (List Int)) [6, 7, 10, 11, 12, 13, 14, 15, 16, 17, 18, 19, 20, 21, 22, 23, 24, 25, 26, 27, 28, 29, 30, 31, 32, 33, 34, 35, 36, 37, 38, 39, 40, 41, 42, 43, 44, 45, 46, 47, 48] (fun ((i, l_0_0) : Nat × (List Int)) => [(6, .int .i64 (i : Int))])
   (fun ((i, l_0_0) : Nat × (List Int)) w' => (Ins xs l_0_0 i) ∧ Mem w0 I0 I (row ERune (sv u) l_0_0 :: Lt) w')
   (fun ((i, l_0_0) : Nat × (List Int)) => xs.length - i) (1, xs) ⟨rfl, trivial⟩ ?_ ?_
 ·refine ⟨Ins.init, ?_⟩
  exact M
 rintro ⟨i, l_0_0⟩ jj0 w1 ⟨hA, M⟩
 refine wc_seq ?_
 refine wc_seq ?_
 refine wc_region ?_
 refine wl_mv M rfl rfl ?_
 refine wl_mv M rfl rfl ?_
 refine wl_m M (q_lss rfl rfl) rfl rfl ?_
 refine wl_nil ?_
 refine wc_dec rfl (fun ht12 => ?_) (fun ht12 => ?_)
 ·have hi12 : (i : Int) < xs.length := by simpa using ht12
  refine wc_skip ?_
  refine wc_seq ?_
  refine wc_block ?_
  refine wc_seq ?_
  refine wc_region ?_
  refine wl_mv M rfl rfl ?_
  refine wl_as M rfl rfl ?_
  refine wl_nil ?_
  refine wc_block ?_
  refine wc_loop (α := Nat × Int × (List Int)) [7, 16, 17, 18, 19, 20, 21, 22, 23, 24, 25, 26, 27, 28, 29, 30, 31, 32, 33, 34, 35, 36, 37, 38, 39, 40, 41, 42, 43, 44, 45, 46, 47, 48] (fun ((j, ji, l_0_2) : Nat × Int × (List Int)) => [(7, .int .i64 ji)])
    (fun ((j, ji, l_0_2) : Nat × Int × (List Int)) w' => (ji = (j : Int)) ∧ (InsIn xs l_0_2 i j) ∧ Mem w0 I0 I (row ERune (sv u) l_0_2 :: Lt) w')
    (fun ((j, ji, l_0_2) : Nat × Int × (List Int)) => j) (i, (i : Int), l_0_0) ⟨rfl, trivial⟩ ?_ ?_
  ·refine ⟨rfl, (hA.opn (by omega)), ?_⟩
   exact M
  rintro ⟨j, ji, l_0_2⟩ jj2 w2 ⟨hji, hB, M⟩
  have hBl := hB.len
  have hBi := hB.il
  have hBj := hB.ji
  refine wc_seq ?_
  refine wc_seq ?_
  refine wc_join (α := Unit) [16, 17, 18, 19, 20, 21, 22, 23, 24, 25, 26, 27, 28, 29, 30] (fun _ => [(30, .bool ((decide (0 < ji)) && (decide (l_0_2.getD j 0 < l_0_2.getD (j - 1) 0))))]) (fun _ w' => Mem w0 I0 I (row ERune (sv u) l_0_2 :: Lt) w') ?_ ?_
  ·refine wc_draws (fun w' => Mem w0 I0 I (row ERune (sv u) l_0_2 :: Lt) w' ∧ True) [] fol ?_
   replace M := M.drew
   have hS := (⟨M, trivial⟩ : _ ∧ _)
   refine wa_q 0 rfl (by kernel_rfl) (q_move rfl) hS rfl rfl ?_
   refine wa_q 1 rfl (by kernel_rfl) (q_move rfl) hS rfl rfl ?_
   refine wa_q 2 rfl (by kernel_rfl) (q_gtr rfl rfl) hS rfl rfl ?_
   refine wa_q 3 rfl (by kernel_rfl) (q_move rfl) hS rfl rfl ?_
   rcases Bool.eq_false_or_eq_true (decide (0 < ji)) with hg19 | hg19
   ·refine wa_q 4 rfl (by kernel_rfl) (q_guard 3 rfl rfl rfl hg19 (q_move rfl)) hS rfl rfl ?_
    refine wa_q 5 rfl (by kernel_rfl) (q_guard 3 rfl rfl rfl hg19 (q_move rfl)) hS rfl rfl ?_
    have hj0 : 0 < j := by have := of_decide_eq_true hg19; omega
    refine wa_ixSG (j := j) 3 rfl rfl rfl hg19 6 hS (fun _ h => h.1.rd (i := 0) rfl) rfl (by kernel_rfl) Tryz.underlying29 rfl (ixe (by omega)) (getD_at (d := 0) (by omega)) rfl (fun b22 o22 p22 => ?_)
    refine wa_q 7 rfl (by kernel_rfl) (q_guard 3 rfl rfl rfl hg19 (q_ldp p22 rfl rfl)) hS rfl rfl ?_
    refine wa_q 8 rfl (by kernel_rfl) (q_guard 3 rfl rfl rfl hg19 (q_move rfl)) hS rfl rfl ?_
    refine wa_q 9 rfl (by kernel_rfl) (q_guard 3 rfl rfl rfl hg19 (q_move rfl)) hS rfl rfl ?_
    refine wa_q 10 rfl (by kernel_rfl) (q_guard 3 rfl rfl rfl hg19 (q_sub rfl rfl (IntWalk.i64_in _ (by omega)))) hS rfl rfl ?_
    refine wa_ixSG (j := (j - 1)) 3 rfl rfl rfl hg19 11 hS (fun _ h => h.1.rd (i := 0) rfl) rfl (by kernel_rfl) Tryz.underlying29 rfl (ixe (by omega)) (getD_at (d := 0) (by omega)) rfl (fun b27 o27 p27 => ?_)
    refine wa_q 12 rfl (by kernel_rfl) (q_guard 3 rfl rfl rfl hg19 (q_ldp p27 rfl rfl)) hS rfl rfl ?_
    refine wa_e 13 rfl (by kernel_rfl) (e_guard 3 rfl rfl rfl hg19 (e_callC M (lessR_c (l_0_2.getD j 0) (l_0_2.getD (j - 1) 0) M.imm) Tryz.func155 rfl rfl)) rfl rfl ?_
    rintro _ w3 ⟨J29, hJ29, rfl, M⟩
    have hS := (⟨(M.less hJ29 hoI), trivial⟩ : _ ∧ _)
    refine ⟨fun _ => hS, ?_⟩
    replace M := M.less hJ29 hoI
    refine wa_q 14 rfl (by kernel_rfl) (q_pickT rfl hg19 rfl) hS rfl rfl ?_
    refine wa_done (by kernel_rfl) ?_
    exact ⟨(), M, ⟨(show some (Value.bool (decide (l_0_2.getD j 0 < l_0_2.getD (j - 1) 0))) = some (Value.bool ((decide (0 < ji)) && (decide (l_0_2.getD j 0 < l_0_2.getD (j - 1) 0)))) from by first | (simp only [hg19, Bool.true_or, Bool.false_or, Bool.true_and, Bool.false_and, Bool.or_true, Bool.or_false, Bool.and_true, Bool.and_false]; done) | (simp_all; done) | (simp_all; omega)), trivial⟩, unw_take 15 rfl rfl⟩
   refine wa_q 4 rfl (by kernel_rfl) (q_off 3 rfl rfl rfl hg19) hS rfl rfl ?_
   refine wa_q 5 rfl (by kernel_rfl) (q_off 3 rfl rfl rfl hg19) hS rfl rfl ?_
   refine wa_q 6 rfl (by kernel_rfl) (q_off 3 rfl rfl rfl hg19) hS rfl rfl ?_
   refine wa_q 7 rfl (by kernel_rfl) (q_off 3 rfl rfl rfl hg19) hS rfl rfl ?_
   refine wa_q 8 rfl (by kernel_rfl) (q_off 3 rfl rfl rfl hg19) hS rfl rfl ?_
   refine wa_q 9 rfl (by kernel_rfl) (q_off 3 rfl rfl rfl hg19) hS rfl rfl ?_
   refine wa_q 10 rfl (by kernel_rfl) (q_off 3 rfl rfl rfl hg19) hS rfl rfl ?_
   refine wa_q 11 rfl (by kernel_rfl) (q_off 3 rfl rfl rfl hg19) hS rfl rfl ?_
   refine wa_q 12 rfl (by kernel_rfl) (q_off 3 rfl rfl rfl hg19) hS rfl rfl ?_
   refine wa_q 13 rfl (by kernel_rfl) (q_off 3 rfl rfl rfl hg19) hS rfl rfl ?_
   refine wa_q 14 rfl (by kernel_rfl) (q_pickF rfl hg19 rfl) hS rfl rfl ?_
   refine wa_done (by kernel_rfl) ?_
   exact ⟨(), M, ⟨(show some (Value.bool false) = some (Value.bool ((decide (0 < ji)) && (decide (l_0_2.getD j 0 < l_0_2.getD (j - 1) 0)))) from by first | (simp only [hg19, Bool.true_or, Bool.false_or, Bool.true_and, Bool.false_and, Bool.or_true, Bool.or_false, Bool.and_true, Bool.and_false]; done) | (simp_all; done) | (simp_all; omega)), trivial⟩, unw_take 15 rfl rfl⟩
  rintro _ jr4 w4 M
  refine wc_cond rfl (fun ht30 => ?_) (fun ht30 => ?_)
  ·have h30 : 0 < ji ∧ l_0_2.getD j 0 < l_0_2.getD (j - 1) 0 := by simpa using ht30
   obtain ⟨hji0, hlt⟩ := h30
   have hj0 : 0 < j := by omega
   refine wc_skip ?_
   refine wc_seq ?_
   refine wc_block ?_
   refine wc_draws (fun w' => Mem w0 I0 I (row ERune (sv u) l_0_2 :: Lt) w' ∧ True) [15, 17] fol ?_
   replace M := M.drew
   have hS := (⟨M, trivial⟩ : _ ∧ _)
   refine wa_q 0 rfl (by kernel_rfl) (q_move rfl) hS rfl rfl ?_
   refine wa_q 1 rfl (by kernel_rfl) (q_move rfl) hS rfl rfl ?_
   refine wa_w 2 rfl (by kernel_rfl) (q_move rfl) (fun _ => hS) rfl rfl ?_
   refine wa_w 3 rfl (by kernel_rfl) (q_move rfl) (fun _ => hS) rfl rfl ?_
   refine wa_w 4 rfl (by kernel_rfl) (q_sub rfl rfl (IntWalk.i64_in _ (by omega))) (fun _ => hS) rfl rfl ?_
   refine wa_q 5 rfl (by kernel_rfl) (q_move rfl) hS rfl rfl ?_
   refine wa_q 6 rfl (by kernel_rfl) (q_move rfl) hS rfl rfl ?_
   refine wa_q 7 rfl (by kernel_rfl) (q_sub rfl rfl (IntWalk.i64_in _ (by omega))) hS rfl rfl ?_
   refine wa_ixS (j := (j - 1)) 8 hS (fun _ h => h.1.rd (i := 0) rfl) rfl (by kernel_rfl) Tryz.underlying29 rfl (ixe (by omega)) (getD_at (d := 0) (by omega)) rfl (fun b41 o41 p41 => ?_)
   refine wa_q 9 rfl (by kernel_rfl) (q_ldp p41 rfl rfl) hS rfl rfl ?_
   refine wa_w 10 rfl (by kernel_rfl) (q_move rfl) (fun _ => hS) rfl rfl ?_
   refine wa_w 11 rfl (by kernel_rfl) (q_move rfl) (fun _ => hS) rfl rfl ?_
   refine wa_ixSw (j := j) 12 hS (fun _ h => h.1.rd (i := 0) rfl) rfl (by kernel_rfl) Tryz.underlying29 rfl (ixe (by omega)) (getD_at (d := 0) (by omega)) rfl (fun b45 o45 p45 => ?_)
   refine wa_q 13 rfl (by kernel_rfl) (q_ldp p45 rfl rfl) hS rfl rfl ?_
   refine wa_ixw (j := j) 14 0 M hS rfl rfl (by kernel_rfl) Tryz.underlying29 rfl (ixe (by omega)) (by omega) rfl (fun b47 o47 p47 => ?_)
   refine wa_e0 15 rfl (by kernel_rfl) (e_str (u := (l_0_2.getD (j - 1) 0)) 0 M rfl rfl rfl p47 (by omega) rfl) rfl ?_
   intro _ w5 M
   simp only [sC0, sCS] at M
   refine ⟨nofun, ?_⟩
   refine wa_ixw1 (j := (j - 1)) 16 0 M rfl rfl (by kernel_rfl) Tryz.underlying29 rfl (ixe (by omega)) (by rw [List.length_set]; omega) rfl nofun (fun b48 o48 p48 => ?_)
   refine wa_e0 17 rfl (by kernel_rfl) (e_str (u := (l_0_2.getD j 0)) 0 M rfl rfl rfl p48 (by rw [List.length_set]; omega) rfl) rfl ?_
   intro _ w6 M
   simp only [sC0, sCS] at M
   refine ⟨nofun, ?_⟩
   refine wa_done (by kernel_rfl) ?_
   refine wc_region ?_
   refine wl_mv M rfl rfl ?_
   refine wl_m M (q_sub rfl rfl (IntWalk.i64_in _ (by omega))) rfl rfl ?_
   refine wl_as M rfl rfl ?_
   refine wl_nil ?_
   refine ⟨(j - 1, ji - 1, (l_0_2.set j (l_0_2.getD (j - 1) 0)).set (j - 1) (l_0_2.getD j 0)), ?_, ⟨(by omega), (hB.step hj0 (getD_at (d := 0) (by omega)) (getD_at (d := 0) (by omega)) hlt), M⟩, ⟨rfl, trivial⟩, unw_look rfl (unw_hav rfl (unw_look rfl unw_base))⟩
   show (j - 1) < j
   omega
  have hBd := hB.done (by
    by_cases hj0 : 0 < j
    · refine .inr ⟨_, _, getD_at (d := 0) (by omega), getD_at (d := 0) (by omega), ?_⟩
      have := ht30
      rw [hji] at this
      simp [hj0] at this
      simpa using this
    · exact .inl (by omega))
  refine wc_exit rfl ?_
  refine wc_region ?_
  refine wl_mv M rfl rfl ?_
  refine wl_m M (q_add rfl rfl (IntWalk.i64_in _ (by omega))) rfl rfl ?_
  refine wl_as M rfl rfl ?_
  refine wl_nil ?_
  refine ⟨(i + 1, l_0_2), ?_, ⟨hBd, M⟩, ⟨rfl, trivial⟩, unw_look rfl (unw_hav rfl (unw_look rfl (unw_hav rfl (unw_look rfl unw_base))))⟩
  show xs.length - (i + 1) < xs.length - i
  omega
 have hi12 : ¬ (i : Int) < xs.length := by simpa using ht12
 refine wc_exit rfl ?_
 exact out0 rfl ⟨_, rfl, _, hA.fin (by omega), M⟩
theorem pdqR_c {u : SV} {xs : List Int} {w0 w : World} {I0 I : Heap} {Lt : List Res} (hl : xs.length ≤ 12) (n : Int) (M : Mem w0 I0 I (row ERune (sv u) xs :: Lt) w) :
    Calls A 132 #[sv u, .int .i64 0, .int .i64 (xs.length : Int), .int .i64 n] w fun e w' => ∃ v, e = .returned v ∧ ∃ ys : List Int, (ys.Perm xs ∧ ys.Pairwise (· ≤ ·)) ∧ Mem w0 I0 I (row ERune (sv u) ys :: Lt) w' := by
 have hoI := M.old
 refine enter Tryz.func132 rfl 134 Tryz.ntmps132 [_, _, _, _] rfl ?_
 refine wc_seq ?_
 refine wc_region ?_
 refine wl_as M rfl rfl ?_
 refine wl_nil ?_
 refine wc_seq ?_
 refine wc_region ?_
 refine wl_as M rfl rfl ?_
 refine wl_nil ?_
 refine wc_block ?_
 refine wc_loop (α := Unit) [1, 2, 3, 8, 9, 10, 11, 12, 13, 14, 15, 16, 17, 18, 19, 20, 21, 22, 23, 24, 25, 26, 27, 28, 29, 30, 31, 32, 33, 34, 35, 36, 37, 38, 39, 40, 41, 42, 43, 44, 45, 46, 47, 48, 49, 50, 51, 52, 53, 54, 55, 56, 57, 58, 59, 60, 61, 62, 63, 64, 65, 66, 67, 68, 69, 70, 71, 72, 73, 74, 75, 76, 77, 78, 79, 80, 81, 82, 83, 84, 85, 86, 87, 88, 89, 90, 91, 92, 93, 94, 95, 96, 97, 98, 99, 100, 101, 102, 103, 104, 105, 106, 107, 108, 109, 110, 111, 112, 113, 114, 115, 116, 117, 118, 119, 120, 121, 122, 123, 124, 125, 126, 127, 128, 129, 130, 131, 132, 133] (fun (_u : Unit) => [(1, .int .i64 0), (2, .int .i64 (xs.length : Int)), (3, .int .i64 n)])
   (fun (_u : Unit) w' => Mem w0 I0 I (row ERune (sv u) xs :: Lt) w')
   (fun (_u : Unit) => 0) (()) ⟨rfl, rfl, rfl, trivial⟩ ?_ ?_
 ·exact M
 rintro _u jj0 w1 M
 refine wc_block ?_
 refine wc_seq ?_
 refine wc_region ?_
 refine wl_mv M rfl rfl ?_
 refine wl_mv M rfl rfl ?_
 refine wl_m M (q_sub rfl rfl (IntWalk.i64_in _ (by omega))) rfl rfl ?_
 refine wl_as M rfl rfl ?_
 refine wl_nil ?_
 refine wc_seq ?_
 refine wc_seq ?_
 refine wc_region ?_
 refine wl_mv M rfl rfl ?_
 refine wl_m M (q_leq rfl rfl) rfl rfl ?_
 refine wl_nil ?_
 refine wc_dec rfl (fun ht23 => ?_) (fun ht23 => ?_)
 ·refine wc_seq ?_
  refine wc_region ?_
  refine wl_mv M rfl rfl ?_
  refine wl_mv M rfl rfl ?_
  refine wl_mv M rfl rfl ?_
  refine wl_e (e_callR Tryz.func149 rfl (vs := [sv u, .int .i64 0, .int .i64 (xs.length : Int)]) rfl (insR_c (by omega) M)) rfl rfl ?_
  rintro _ w9 ⟨ys, hys, M⟩
  refine wl_nil ?_
  refine wc_ret ?_
  exact out0 rfl ⟨_, rfl, ys, hys, M⟩
 exact absurd ht23 (by omega)
end Go.Proofs.YtmjieefhjmiagaaGreatDoor.G
