/- slices.AppendSeq at runes, against whatever iterator keeps its contract. -/
/- Insertion sort, as slices.insertionSortOrdered goes. Plain Lean. -/
import Derived.Test.YtfepjcmjkaolgaaGSeq
import Derived.Test.YtfepjcmjkaolgaaGBfs
import Derived.Test.YtfepjcmjkaolgaaGMem
set_option linter.all false
namespace Go.Proofs.Ytfepjcmjkaolgaa.G
open Go Go.RowKit
theorem bsR1 (a0 : Value) : bldS A 40 1 [(0, [a0])] 21 [a0] := fun w => by kernel_rfl
theorem szR : (A.info? 40).map (·.size) = some 1 := by kernel_rfl
theorem appendSeq_c {w0 w : World} {I0 I : Heap} {Lt : List Res} {gf : FuncId} {lb : Array Value} {S : List Int → Prop} {N : Nat} (hN : (N + 1) * 4 ≤ 140737488355328) (eg : ∀ args w, (callFunc gf args).run A w = .ok (.enter gf args) w)
    (hit : Gives A gf lb (Value.int .i32) S N w0 I0 I) (M : Mem w0 I0 I Lt w) : Calls A 90 #[.slice none 0 0, .func (.func gf) #[] lb] w fun e w' => ∃ (u : SV) (xs : List Int), e = .returned (sv u) ∧ S xs ∧ Mem w0 I0 I (row ERune (sv u) xs :: Lt) w' := by
  have hoI := M.old
  refine enter_marks Try.func90 rfl 13 Try.ntmps90 [_, _] rfl ?_
  intro a hd hf
  refine wpIn_seq (wi_region hd hf ?_)
  refine wi_e opn_wide nofun (e_box M rfl) rfl rfl ?_
  rintro _ w1 ⟨b2, rfl, M⟩
  refine wi_q opn_wide nofun (q_assign rfl) M rfl rfl ?_
  refine wi_nil fun a hd hf => ?_
  refine wpIn_seq ?_
  refine wpIn_seq (wi_region hd hf ?_)
  refine wi_q opn_wide nofun (q_move rfl) M rfl rfl ?_
  refine wi_nil fun a hd hf => ?_
  refine wpIn_block ?_
  have hf' : Fits 13 a _ := (by obtain ⟨t, d⟩ := a; obtain rfl : d = [] := hd; exact hf)
  replace M := M.nilRow ERune
  refine wp_range (n := 13) hf' rfl rfl M eg hit (γ := SV) (fun u pre => row ERune (sv u) pre :: box b2 40 [sv u] :: Lt) nilV rfl (fun x => (5, .int .i32 x) :: (7, .int .i32 x) :: (6, .func (.func gf) #[] lb) :: (4, .slice none 0 0) :: (2, .pointer (some ⟨b2, 0, none⟩)) :: argsL 0 [.slice none 0 0, .func (.func gf) #[] lb]) ?_ ?_ ?_
  · intro F k x w' Q' hF h
    refine wi_q hF nofun (q_assign rfl) (S := fun _ => True) trivial rfl rfl ?_
    exact wi_nil h
  · intro F k u pre x w' X Y Z Q' hF hlt M h
    refine wi_q hF nofun (q_ldb 4 Try.underlying40 rfl rfl rfl rfl) M rfl rfl ?_
    refine wi_q hF nofun (q_move rfl) M rfl rfl ?_
    refine wi_e hF nofun (e_bsI (E := ERune) (xs := [x]) M (bsR1 _) ⟨⟨rfl, rfl⟩, trivial⟩ rfl rfl (by decide)) rfl rfl ?_
    rintro _ w3 ⟨u10, J10, rfl, hJ10, R10, M⟩
    refine wi_e hF nofun (e_app 3 M rfl R10 Try.underlying40 rfl rfl (by show (pre.length + 1) * 4 ≤ _; omega)) rfl rfl ?_
    rintro _ w4 ⟨u11, rfl, M⟩
    simp only [sC0, sCS] at M
    refine wi_e0 hF nofun (e_stb 4 M rfl rfl rfl szR rfl rfl) rfl ?_
    intro _ w5 M
    simp only [sC0, sCS] at M
    refine wi_nil fun a _ _ => ?_
    exact h a u11 _ (M.less hJ10 hoI)
  · intro D xs u w' a hd hf hS M
    show Code.wpIn Fence.wide 0 _ (Code.seq _ _) _ a w'
    refine wpIn_seq (wi_region hd hf ?_)
    refine wi_q opn_wide nofun (q_ldb 2 Try.underlying40 rfl rfl rfl rfl) M rfl rfl ?_
    refine wi_q opn_wide nofun (q_assign rfl) M rfl rfl ?_
    refine wi_nil fun a hd hf => ?_
    refine wpIn_ret ?_
    show LeavesInM _ _ _ _ a.tmps _ a.defers _ _
    rw [hd]
    refine leave_marks M hf fun w2 M2 => ?_
    exact out1 rfl rfl ⟨u, xs, rfl, hS, M2.drop 1⟩
end Go.Proofs.Ytfepjcmjkaolgaa.G

set_option linter.all false
namespace Go.Proofs.Ytfepjcmjkaolgaa.G
open Go Go.RowKit
structure Ins (xs l : List Int) (i : Nat) : Prop where
  perm : l.Perm xs
  pos : 0 < i
  srt : ∀ p q, p < q → q < i → ∀ x y, l[p]? = some x → l[q]? = some y → x ≤ y
structure InsIn (xs l : List Int) (i j : Nat) : Prop where
  perm : l.Perm xs
  ji : j ≤ i
  il : i < l.length
  old : ∀ p q, p < q → q ≤ i → p ≠ j → q ≠ j → ∀ x y, l[p]? = some x → l[q]? = some y → x ≤ y
  new : ∀ q, j < q → q ≤ i → ∀ x y, l[j]? = some x → l[q]? = some y → x ≤ y
theorem Ins.init {xs : List Int} : Ins xs xs 1 := ⟨.refl _, by decide, fun p q h1 h2 => by omega⟩
theorem Ins.len {xs l : List Int} {i : Nat} (h : Ins xs l i) : l.length = xs.length := h.perm.length_eq
theorem InsIn.len {xs l : List Int} {i j : Nat} (h : InsIn xs l i j) : l.length = xs.length := h.perm.length_eq
theorem Ins.opn {xs l : List Int} {i : Nat} (h : Ins xs l i) (hi : i < xs.length) : InsIn xs l i i :=
  ⟨h.perm, Nat.le_refl _, by rw [h.len]; exact hi, fun p q h1 h2 h3 h4 => h.srt p q h1 (by omega), fun q h1 h2 => by omega⟩
theorem swap_perm {l : List Int} {j k : Nat} {a b : Int} (hj : l[j]? = some a) (hk : l[k]? = some b) : ((l.set j b).set k a).Perm l := by
  obtain ⟨h1, e1⟩ := List.getElem?_eq_some_iff.1 hj
  obtain ⟨h2, e2⟩ := List.getElem?_eq_some_iff.1 hk
  rw [← e1, ← e2]
  exact List.set_set_perm h1 h2
theorem InsIn.step {xs l : List Int} {i j : Nat} {a b : Int} (h : InsIn xs l i j) (h0 : 0 < j) (hj : l[j]? = some a) (hk : l[j - 1]? = some b) (hlt : a < b) : InsIn xs ((l.set j b).set (j - 1) a) i (j - 1) := by
  have hji := h.ji
  have hil := h.il
  have g : ∀ q, ((l.set j b).set (j - 1) a)[q]? = if q = j - 1 then some a else if q = j then some b else l[q]? := fun q => by
    rw [List.getElem?_set, List.getElem?_set]
    by_cases e1 : q = j - 1
    · subst e1; rw [if_pos rfl, if_pos (by rw [List.length_set]; omega), if_pos rfl]
    · rw [if_neg (fun e => e1 e.symm), if_neg e1]
      by_cases e2 : q = j
      · subst e2; rw [if_pos rfl, if_pos (by omega), if_pos rfl]
      · rw [if_neg (fun e => e2 e.symm), if_neg e2]
  refine ⟨(swap_perm hj hk).trans h.perm, by omega, by simp; omega, fun p q h1 h2 h3 h4 x y hx hy => ?_, fun q h1 h2 x y hx hy => ?_⟩
  · rw [g, if_neg h3] at hx
    rw [g, if_neg h4] at hy
    by_cases e1 : p = j
    · rw [if_pos e1] at hx
      cases hx
      rw [if_neg (by omega)] at hy
      exact h.old (j - 1) q (by omega) h2 (by omega) (by omega) _ _ hk hy
    · rw [if_neg e1] at hx
      by_cases e2 : q = j
      · rw [if_pos e2] at hy
        cases hy
        exact h.old p (j - 1) (by omega) (by omega) e1 (by omega) _ _ hx hk
      · rw [if_neg e2] at hy
        exact h.old p q h1 h2 e1 e2 _ _ hx hy
  · rw [g, if_pos rfl] at hx
    cases hx
    rw [g, if_neg (by omega)] at hy
    by_cases e2 : q = j
    · rw [if_pos e2] at hy; cases hy; omega
    · rw [if_neg e2] at hy
      exact h.new q (by omega) h2 _ _ hj hy
theorem InsIn.done {xs l : List Int} {i j : Nat} (h : InsIn xs l i j) (hs : j = 0 ∨ ∃ a b, l[j]? = some a ∧ l[j - 1]? = some b ∧ b ≤ a) : Ins xs l (i + 1) := by
  refine ⟨h.perm, by omega, fun p q h1 h2 x y hx hy => ?_⟩
  by_cases e1 : p = j
  · subst e1; exact h.new q h1 (by omega) _ _ hx hy
  by_cases e2 : q = j
  · subst e2
    rcases hs with hs | ⟨a, b, ha, hb, hab⟩
    · omega
    · rw [ha] at hy
      cases hy
      by_cases e3 : p = q - 1
      · subst e3; rw [hb] at hx; cases hx; exact hab
      · exact Int.le_trans (h.old p (q - 1) (by omega) (by have := h.ji; omega) e1 (by omega) _ _ hx hb) hab
  · exact h.old p q h1 (by omega) e1 e2 _ _ hx hy
theorem Ins.fin {xs l : List Int} {i : Nat} (h : Ins xs l i) (hi : xs.length ≤ i) : l.Perm xs ∧ l.Pairwise (· ≤ ·) := by
  refine ⟨h.perm, List.pairwise_iff_getElem.2 fun p q hp hq hpq => ?_⟩
  exact h.srt p q hpq (by have := h.len; omega) _ _ (List.getElem?_eq_getElem hp) (List.getElem?_eq_getElem hq)
end Go.Proofs.Ytfepjcmjkaolgaa.G
