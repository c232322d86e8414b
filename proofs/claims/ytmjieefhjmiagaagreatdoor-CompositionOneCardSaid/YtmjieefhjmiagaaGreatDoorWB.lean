/- Walks of the program's functions. -/
import Derived.Test.YtmjieefhjmiagaaGreatDoorWA
set_option linter.all false
namespace Go.Proofs.YtmjieefhjmiagaaGreatDoor.G
open Go Go.RowKit
theorem compact_c {w0 w : World} {I0 I : Heap} {Lt : List Res} {u : SV} {xs : List Arc} (hxs : xs.length ≤ 1099511627776) (M : Mem w0 I0 I (row EArc (sv u) xs :: Lt) w) :
    Calls A 61 #[sv u] w (fun e w' => ∃ u' : SV, e = .returned (sv u') ∧ Mem w0 I0 I (row EArc (sv u') (dedupC xs) :: Lt) w') := by
 have hoI := M.old
 refine enter Tryz.func61 rfl 61 Tryz.ntmps61 [_] rfl ?_
 refine wc_seq ?_
 refine wc_region ?_
 refine wl_as M rfl rfl ?_
 refine wl_nil ?_
 refine wc_seq ?_
 refine wc_seq ?_
 refine wc_region ?_
 refine wl_mv M rfl rfl ?_
 refine wl_m M (q_lenr 0 M rfl Tryz.underlying23 rfl) rfl rfl ?_
 refine wl_m M (q_lss rfl rfl) rfl rfl ?_
 refine wl_nil ?_
 refine wc_dec rfl (fun ht8 => ?_) (fun ht8 => ?_)
 ·refine wc_seq ?_
  refine wc_region ?_
  refine wl_mv M rfl rfl ?_
  refine wl_as M rfl rfl ?_
  refine wl_nil ?_
  refine wc_ret ?_
  exact out1 rfl rfl ⟨u, rfl, by rw [dedupC_short (by omega)]; exact M⟩
 refine wc_skip ?_
 refine wc_seq ?_
 refine wc_seq ?_
 refine wc_region ?_
 refine wl_as M rfl rfl ?_
 refine wl_nil ?_
 refine wc_block ?_
 refine wc_loop (α := Nat) [2, 3, 4, 5, 10, 11, 12, 13, 14, 15, 16, 17, 18, 19, 20, 21, 22, 23, 24, 25, 26, 27, 28, 29, 30, 31, 32, 33, 34, 35, 36, 37, 38, 39, 40, 41, 42, 43, 44, 45, 46, 47, 48, 49, 50, 51, 52, 53, 54, 55, 56, 57, 58, 59] (fun (k0 : Nat) => [(3, .int .i64 (k0 : Int))])
   (fun (k0 : Nat) w' => (k0 ≤ xs.length) ∧ (dedupC (xs.take k0) = xs.take k0 ∧ 1 ≤ k0) ∧ Mem w0 I0 I (row EArc (sv u) xs :: Lt) w')
   (fun (k0 : Nat) => xs.length - k0) (1) ⟨rfl, trivial⟩ ?_ ?_
 ·refine ⟨(by omega), ⟨dedupC_short (by simp; omega), Nat.le_refl 1⟩, ?_⟩
  exact M
 rintro k0 jj0 w1 ⟨hk0, hd, M⟩
 refine wc_seq ?_
 refine wc_seq ?_
 refine wc_region ?_
 refine wl_mv M rfl rfl ?_
 refine wl_mv M rfl rfl ?_
 refine wl_m M (q_lenr 0 M rfl Tryz.underlying23 rfl) rfl rfl ?_
 refine wl_m M (q_lss rfl rfl) rfl rfl ?_
 refine wl_nil ?_
 refine wc_dec rfl (fun ht13 => ?_) (fun ht13 => ?_)
 ·obtain ⟨x0, hx0⟩ : ∃ x_, xs[k0]? = some x_ := ⟨_, List.getElem?_eq_getElem (by omega)⟩
  obtain ⟨y0, hy0⟩ : ∃ y, xs[k0 - 1]? = some y := ⟨_, List.getElem?_eq_getElem (by omega)⟩
  refine wc_skip ?_
  refine wc_seq ?_
  refine wc_block ?_
  refine wc_seq ?_
  refine wc_draws (fun w' => Mem w0 I0 I (row EArc (sv u) xs :: Lt) w' ∧ True) [] fol ?_
  replace M := M.drew
  have hS := (⟨M, trivial⟩ : _ ∧ _)
  refine wa_q 0 rfl (by kernel_rfl) (q_move rfl) hS rfl rfl ?_
  refine wa_q 1 rfl (by kernel_rfl) (q_move rfl) hS rfl rfl ?_
  refine wa_ixS (j := k0) 2 hS (fun _ h => h.1.rd (i := 0) rfl) rfl (by kernel_rfl) Tryz.underlying23 rfl rfl hx0 rfl (fun b18 o18 p18 => ?_)
  refine wa_q 3 rfl (by kernel_rfl) (q_ldp p18 rfl rfl) hS rfl rfl ?_
  refine wa_q 4 rfl (by kernel_rfl) (q_move rfl) hS rfl rfl ?_
  refine wa_q 5 rfl (by kernel_rfl) (q_move rfl) hS rfl rfl ?_
  refine wa_q 6 rfl (by kernel_rfl) (q_sub rfl rfl (IntWalk.i64_in _ (by omega))) hS rfl rfl ?_
  refine wa_ixS (j := (k0 - 1)) 7 hS (fun _ h => h.1.rd (i := 0) rfl) rfl (by kernel_rfl) Tryz.underlying23 rfl (ixe (by omega)) hy0 rfl (fun b23 o23 p23 => ?_)
  refine wa_q 8 rfl (by kernel_rfl) (q_ldp p23 rfl rfl) hS rfl rfl ?_
  refine wa_q 9 rfl (by kernel_rfl) (q_eqlK QArcE x0 y0 rfl rfl rfl) hS rfl rfl ?_
  refine wa_done (by kernel_rfl) ?_
  refine wc_dec rfl (fun ht25 => ?_) (fun ht25 => ?_)
  ·refine wc_seq ?_
   refine wc_region ?_
   refine wl_mv M rfl rfl ?_
   refine wl_mv M rfl rfl ?_
   refine wl_m M (q_cutV (E := EArc) (k := k0) Tryz.underlying23 rfl rfl (by rw [M.rowLen (i := 0) rfl]; omega)) rfl rfl ?_
   refine wl_as M rfl rfl ?_
   refine wl_nil ?_
   refine wc_seq ?_
   refine wc_seq ?_
   refine wc_region ?_
   refine wl_as M rfl rfl ?_
   refine wl_nil ?_
   refine wc_block ?_
   refine wc_loop (α := Nat × Nat × (List Arc)) [3, 5, 29, 30, 31, 32, 33, 34, 35, 36, 37, 38, 39, 40, 41, 42, 43, 44, 45, 46, 47, 48, 49, 50, 51, 52, 53] (fun ((k2, kk, l_0_2) : Nat × Nat × (List Arc)) => [(3, .int .i64 (kk : Int)), (5, .int .i64 (k2 : Int))])
     (fun ((k2, kk, l_0_2) : Nat × Nat × (List Arc)) w' => (k2 ≤ xs.length - k0) ∧ (l_0_2.length = xs.length ∧ kk + 1 ≤ k0 + k2 ∧ 1 ≤ k2 ∧ k0 ≤ kk) ∧ (l_0_2.take kk = dedupC (xs.take (k0 + k2))) ∧ (l_0_2.drop kk = xs.drop kk) ∧ Mem w0 I0 I (row EArc (sv u) l_0_2 :: Lt) w')
     (fun ((k2, kk, l_0_2) : Nat × Nat × (List Arc)) => xs.length - k0 - k2) (1, k0, xs) ⟨rfl, rfl, trivial⟩ ?_ ?_
   ·refine ⟨(by omega), ⟨rfl, by omega, Nat.le_refl 1, Nat.le_refl _⟩, (by rw [dedupC_step hd.2 hy0 hx0, if_pos ht25.symm, hd.1]), rfl, ?_⟩
    exact M
   rintro ⟨k2, kk, l_0_2⟩ jj2 w2 ⟨hk2, hin, hpre, hsuf, M⟩
   have hdl : (l_0_2.drop k0).length = xs.length - k0 := by rw [List.length_drop, hin.1]
   refine wc_seq ?_
   refine wc_seq ?_
   refine wc_region ?_
   refine wl_mv M rfl rfl ?_
   refine wl_mv M rfl rfl ?_
   refine wl_m M (q_lenR (rdCut (M.rd (i := 0) rfl) (k := k0) (by (simp only [List.length_drop] at *; omega))) Tryz.underlying23 rfl) rfl rfl ?_
   refine wl_m M (q_lss rfl rfl) rfl rfl ?_
   refine wl_nil ?_
   refine wc_dec rfl (fun ht32 => ?_) (fun ht32 => ?_)
   ·obtain ⟨z, hz⟩ : ∃ z, (l_0_2.drop k0)[k2]? = some z := ⟨_, List.getElem?_eq_getElem (by omega)⟩
    obtain ⟨z1, hz1⟩ : ∃ z, (l_0_2.drop k0)[k2 - 1]? = some z := ⟨_, List.getElem?_eq_getElem (by omega)⟩
    have hxz : xs[k0 + k2]? = some z := by rw [← drop_get hsuf (by omega), ← hz, List.getElem?_drop]
    have hxz1 : xs[k0 + k2 - 1]? = some z1 := by rw [← drop_get hsuf (by omega), ← hz1, List.getElem?_drop]; congr 1; omega
    refine wc_skip ?_
    refine wc_seq ?_
    refine wc_block ?_
    refine wc_seq ?_
    refine wc_draws (fun w' => Mem w0 I0 I (row EArc (sv u) l_0_2 :: Lt) w' ∧ True) [] fol ?_
    replace M := M.drew
    have hS := (⟨M, trivial⟩ : _ ∧ _)
    refine wa_q 0 rfl (by kernel_rfl) (q_move rfl) hS rfl rfl ?_
    refine wa_q 1 rfl (by kernel_rfl) (q_move rfl) hS rfl rfl ?_
    refine wa_ixS (j := k2) 2 hS (fun _ h => rdCut (h.1.rd (i := 0) rfl) (k := k0) (by (simp only [List.length_drop] at *; omega))) rfl (by kernel_rfl) Tryz.underlying23 rfl rfl hz rfl (fun b37 o37 p37 => ?_)
    refine wa_q 3 rfl (by kernel_rfl) (q_ldp p37 rfl rfl) hS rfl rfl ?_
    refine wa_q 4 rfl (by kernel_rfl) (q_move rfl) hS rfl rfl ?_
    refine wa_q 5 rfl (by kernel_rfl) (q_move rfl) hS rfl rfl ?_
    refine wa_q 6 rfl (by kernel_rfl) (q_sub rfl rfl (IntWalk.i64_in _ (by omega))) hS rfl rfl ?_
    refine wa_ixS (j := (k2 - 1)) 7 hS (fun _ h => rdCut (h.1.rd (i := 0) rfl) (k := k0) (by (simp only [List.length_drop] at *; omega))) rfl (by kernel_rfl) Tryz.underlying23 rfl (ixe (by omega)) hz1 rfl (fun b42 o42 p42 => ?_)
    refine wa_q 8 rfl (by kernel_rfl) (q_ldp p42 rfl rfl) hS rfl rfl ?_
    refine wa_q 9 rfl (by kernel_rfl) (q_neqK QArcE z z1 rfl rfl rfl) hS rfl rfl ?_
    refine wa_done (by kernel_rfl) ?_
    refine wc_cond rfl (fun ht44 => ?_) (fun ht44 => ?_)
    ·refine wc_seq ?_
     refine wc_region ?_
     refine wl_mv M rfl rfl ?_
     refine wl_mv M rfl rfl ?_
     refine wl_mv M rfl rfl ?_
     refine wl_mv M rfl rfl ?_
     refine wl_ixS (j := k2) M (fun w M => rdCut (M.rd (i := 0) rfl) (k := k0) (by (simp only [List.length_drop] at *; omega))) Tryz.underlying23 rfl rfl hz rfl (fun b49 o49 p49 => ?_)
     refine wl_m M (q_ldp p49 rfl rfl) rfl rfl ?_
     refine wl_ixw (j := kk) 0 M rfl Tryz.underlying23 rfl rfl (by omega) rfl (fun b51 o51 p51 => ?_)
     refine wl_e0 (e_str (u := z) 0 M rfl rfl rfl p51 (by omega) rfl) rfl ?_
     intro _ w3 M
     simp only [sC0, sCS] at M
     refine wl_nil ?_
     refine wc_region ?_
     refine wl_mv M rfl rfl ?_
     refine wl_m M (q_add rfl rfl (IntWalk.i64_in _ (by omega))) rfl rfl ?_
     refine wl_as M rfl rfl ?_
     refine wl_nil ?_
     refine wc_region ?_
     refine wl_mv M rfl rfl ?_
     refine wl_m M (q_add rfl rfl (IntWalk.i64_in _ (by omega))) rfl rfl ?_
     refine wl_as M rfl rfl ?_
     refine wl_nil ?_
     refine ⟨(k2 + 1, kk + 1, l_0_2.set kk z), ?_, ⟨(by omega), ⟨by simp [hin.1], by omega, by omega, by omega⟩, (by rw [show k0 + (k2 + 1) = (k0 + k2) + 1 by omega, dedupC_step (by omega) hxz1 hxz, if_neg (fun e => nd_t ht44 e.symm), ← hpre, take_set_snoc (by omega)]), (by rw [List.drop_set_of_lt (by omega)]; exact drop_more hsuf (by omega)), M⟩, ⟨rfl, rfl, trivial⟩, unw_look rfl unw_base⟩
     show xs.length - k0 - (k2 + 1) < xs.length - k0 - k2
     omega
    refine wc_skip ?_
    refine wc_region ?_
    refine wl_mv M rfl rfl ?_
    refine wl_m M (q_add rfl rfl (IntWalk.i64_in _ (by omega))) rfl rfl ?_
    refine wl_as M rfl rfl ?_
    refine wl_nil ?_
    refine ⟨(k2 + 1, kk, l_0_2), ?_, ⟨(by omega), ⟨hin.1, by omega, by omega, by omega⟩, (by rw [show k0 + (k2 + 1) = (k0 + k2) + 1 by omega, dedupC_step (by omega) hxz1 hxz, if_pos (nd_f ht44).symm, ← hpre]), hsuf, M⟩, ⟨rfl, rfl, trivial⟩, unw_look rfl unw_base⟩
    show xs.length - k0 - (k2 + 1) < xs.length - k0 - k2
    omega
   have hke2 : k2 = xs.length - k0 := by omega
   rw [show k0 + k2 = xs.length by omega, List.take_length] at hpre
   refine wc_exit rfl ?_
   refine wc_seq ?_
   refine wc_region ?_
   refine wl_mv M rfl rfl ?_
   refine wl_mv M rfl rfl ?_
   refine wl_m M (q_cutV (E := EArc) (k := kk) Tryz.underlying23 rfl rfl (by rw [M.rowLen (i := 0) rfl]; omega)) rfl rfl ?_
   refine wl_e0 (e_clear (E := EArc) (k := kk) (zv := (Arc.mk 0 0 0 0)) 0 M rfl Tryz.underlying23 z51 rfl (by omega)) rfl ?_
   rintro _ w4 M
   simp only [sC0, sCS] at M
   refine wl_nil ?_
   refine wc_seq ?_
   refine wc_region ?_
   refine wl_mv M rfl rfl ?_
   refine wl_mv M rfl rfl ?_
   refine wl_m M (q_takeV (E := EArc) (k := kk) Tryz.underlying23 rfl rfl (by have := M.rowLen (i := 0) rfl; have := M.rowCap (i := 0) rfl; simp only [List.length_append, List.length_take, List.length_replicate] at *; omega)) rfl rfl ?_
   replace M := M.rowTake 0 rfl (k := kk) (by simp; omega)
   simp only [sC0, sCS] at M
   refine wl_as M rfl rfl ?_
   refine wl_nil ?_
   refine wc_ret ?_
   exact out1 rfl rfl ⟨_, rfl, by rw [List.take_append_of_le_length (by simp; omega), List.take_take, Nat.min_self, hpre] at M; exact M⟩
  refine wc_skip ?_
  refine wc_region ?_
  refine wl_mv M rfl rfl ?_
  refine wl_m M (q_add rfl rfl (IntWalk.i64_in _ (by omega))) rfl rfl ?_
  refine wl_as M rfl rfl ?_
  refine wl_nil ?_
  refine ⟨(k0 + 1), ?_, ⟨(by omega), ⟨by rw [dedupC_step hd.2 hy0 hx0, if_neg (fun e => ht25 e.symm), hd.1, take_snoc hx0], by omega⟩, M⟩, ⟨rfl, trivial⟩, unw_look rfl unw_base⟩
  show xs.length - (k0 + 1) < xs.length - k0
  omega
 have hke0 : k0 = xs.length := by omega
 rw [hke0, List.take_length] at hd
 refine wc_exit rfl ?_
 refine wc_seq ?_
 refine wc_region ?_
 refine wl_mv M rfl rfl ?_
 refine wl_as M rfl rfl ?_
 refine wl_nil ?_
 refine wc_ret ?_
 exact out1 rfl rfl ⟨u, rfl, by rw [hd.1]; exact M⟩
theorem clip_c {w0 w : World} {I0 I : Heap} {Lt : List Res} {u : SV} {xs : List Arc} (M : Mem w0 I0 I (row EArc (sv u) xs :: Lt) w) :
    Calls A 60 #[sv u] w (fun e w' => ∃ u' : SV, e = .returned (sv u') ∧ Mem w0 I0 I (row EArc (sv u') xs :: Lt) w') := by
 have hoI := M.old
 refine enter Tryz.func60 rfl 9 Tryz.ntmps60 [_] rfl ?_
 refine wc_seq ?_
 refine wc_region ?_
 refine wl_as M rfl rfl ?_
 refine wl_nil ?_
 refine wc_seq ?_
 refine wc_region ?_
 refine wl_mv M rfl rfl ?_
 refine wl_mv M rfl rfl ?_
 refine wl_m M (q_lenr 0 M rfl Tryz.underlying23 rfl) rfl rfl ?_
 refine wl_mv M rfl rfl ?_
 refine wl_m M (q_lenr 0 M rfl Tryz.underlying23 rfl) rfl rfl ?_
 refine wl_m M (q_clipV (E := EArc) Tryz.underlying23 rfl (by rw [M.rowLen (i := 0) rfl]; rfl) (by rw [M.rowLen (i := 0) rfl]; rfl) (M.rowCap (i := 0) rfl)) rfl rfl ?_
 replace M := M.rowClip 0 rfl
 simp only [sC0, sCS] at M
 refine wl_as M rfl rfl ?_
 refine wl_nil ?_
 refine wc_ret ?_
 exact out1 rfl rfl ⟨_, rfl, M⟩
theorem edges_c {a b : List (List Arc)} {p q : Nat} {xs ys : List Arc} (hxs : a[p]? = some xs) (hys : b[q]? = some ys) (hX : xs.length ≤ 4096) (hY : ys.length ≤ 4096) {v1 v2 : Value} {I : Heap} {w : World} (hI : hle I (hp w)) (R1 : rdMat EArc VArc I v1 a) (R2 : rdMat EArc VArc I v2 b) :
    Calls A 89 #[v1, v2, .agg #[.int .i64 (p : Int), .int .i64 (q : Int)]] w (Ret w I fun r I' => rdSl EEdge I' r (edgL ⟨p, q⟩ xs ys)) := by
 have hXY : xs.length * (ys.length + 1) ≤ 4096 * 4097 := Nat.mul_le_mul hX (by omega)
 have M := Mem.start hI
 refine enter Tryz.func89 rfl 97 Tryz.ntmps89 [_, _, _] rfl ?_
 refine wc_seq ?_
 refine wc_region ?_
 refine wl_e (e_box M rfl) rfl rfl ?_
 rintro _ w1 ⟨b5, rfl, M⟩
 refine wl_as M rfl rfl ?_
 refine wl_nil ?_
 refine wc_seq ?_
 refine wc_region ?_
 refine wl_as M rfl rfl ?_
 replace M := M.nilRow EEdge
 refine wl_nil ?_
 refine wc_seq ?_
 refine wc_seq ?_
 refine wc_region ?_
 refine wl_mv M rfl rfl ?_
 refine wl_m M (q_fa fo_117_0 rfl) rfl rfl ?_
 refine wl_m M (q_ldb 1 Tryz.underlying3 rfl rfl rfl rfl) rfl rfl ?_
 obtain ⟨os17, u17, Ro17, ho17, R17⟩ := (R1).at_ hxs
 replace R17 : rdSl EArc I (sv u17) (xs) := R17
 refine wl_ix (j := p) M Ro17 Tryz.underlying75 rfl rfl ho17 rfl (fun b17 o17 p17 => ?_)
 refine wl_m M (q_ldp p17 rfl rfl) rfl rfl ?_
 refine wl_m M (q_lenR R17 Tryz.underlying23 rfl) rfl rfl ?_
 refine wl_mv M rfl rfl ?_
 refine wl_nil ?_
 refine wc_block ?_
 refine wc_loop (α := Nat × SV × (List Edge)) [7, 9, 11, 20, 21, 22, 23, 24, 25, 26, 27, 28, 29, 30, 31, 32, 33, 34, 35, 36, 37, 38, 39, 40, 41, 42, 43, 44, 45, 46, 47, 48, 49, 50, 51, 52, 53, 54, 55, 56, 57, 58, 59, 60, 61, 62, 63, 64, 65, 66, 67, 68, 69] (fun ((k0, u_7_0, l_7_0) : Nat × SV × (List Edge)) => [(20, .int .i64 (k0 : Int)), (7, sv u_7_0)])
   (fun ((k0, u_7_0, l_7_0) : Nat × SV × (List Edge)) w' => (k0 ≤ xs.length) ∧ (l_7_0 = (xs.take k0).flatMap (edg1 ⟨p, q⟩ ys)) ∧ Mem w I I (row EEdge (sv u_7_0) l_7_0 :: box b5 117 [.int .i64 (p : Int), .int .i64 (q : Int)] :: []) w')
   (fun ((k0, u_7_0, l_7_0) : Nat × SV × (List Edge)) => xs.length - k0) (0, nilV, []) ⟨rfl, rfl, trivial⟩ ?_ ?_
 ·refine ⟨Nat.zero_le _, rfl, ?_⟩
  exact M
 rintro ⟨k0, u_7_0, l_7_0⟩ jj0 w2 ⟨hk0, hl, M⟩
 refine wc_seq ?_
 refine wc_region ?_
 refine wl_m M (q_lss rfl rfl) rfl rfl ?_
 refine wl_nil ?_
 refine wc_seq ?_
 refine wc_dec rfl (fun ht21 => ?_) (fun ht21 => ?_)
 ·obtain ⟨x0, hx0⟩ : ∃ x_, xs[k0]? = some x_ := ⟨_, List.getElem?_eq_getElem (by omega)⟩
  have hll0 := (R17).len_le
  refine wc_skip ?_
  refine wc_seq ?_
  refine wc_block ?_
  refine wc_seq ?_
  refine wc_region ?_
  refine wl_ix (j := k0) M R17 Tryz.underlying23 rfl rfl hx0 rfl (fun b22 o22 p22 => ?_)
  refine wl_m M (q_ldp p22 rfl rfl) rfl rfl ?_
  refine wl_e (e_alloc M z51) rfl rfl ?_
  rintro _ w3 ⟨b9, rfl, M⟩
  refine wl_e0 (e_stW 0 M rfl rfl rfl sz51 rfl rfl) rfl ?_
  intro _ w4 M
  simp only [sC0, sCS] at M
  refine wl_nil ?_
  refine wc_seq ?_
  refine wc_seq ?_
  refine wc_region ?_
  refine wl_m M (q_fa fo_51_3 rfl) rfl rfl ?_
  refine wl_m M (q_ldb 0 Tryz.underlying21 rfl rfl rfl rfl) rfl rfl ?_
  refine wl_m M (q_eql rfl rfl) rfl rfl ?_
  refine wl_nil ?_
  refine wc_dec rfl (fun ht26 => ?_) (fun ht26 => ?_)
  ·refine wc_seq ?_
   refine wc_region ?_
   refine wl_mv M rfl rfl ?_
   refine wl_m M (q_ldbA 2 Tryz.underlying117 rfl sz117 rfl rfl rfl rfl) rfl rfl ?_
   refine wl_m M (q_fa fo_51_1 rfl) rfl rfl ?_
   refine wl_m M (q_ldb 0 Tryz.underlying3 rfl rfl rfl rfl) rfl rfl ?_
   refine wl_m M (q_fa fo_117_1 rfl) rfl rfl ?_
   refine wl_m M (q_ldb 2 Tryz.underlying3 rfl rfl rfl rfl) rfl rfl ?_
   refine wl_m M (q_build (bd_117_0_1 _ _) ⟨⟨rfl, rfl⟩, ⟨rfl, rfl⟩, trivial⟩) rfl rfl ?_
   refine wl_m M (q_fa fo_51_2 rfl) rfl rfl ?_
   refine wl_m M (q_ldb 0 Tryz.underlying21 rfl rfl rfl rfl) rfl rfl ?_
   refine wl_m M (q_build (bd_125_0_1_2_3 _ _ _ _ _ _) ⟨⟨rfl, rfl⟩, ⟨rfl, rfl⟩, ⟨rfl, rfl⟩, ⟨rfl, rfl⟩, trivial⟩) rfl rfl ?_
   refine wl_e (e_bsI (E := EEdge) (xs := [(Edge.mk (⟨p, q⟩ : Pair) (Pair.mk x0.dst (q : Int)) x0.inp 0)]) M (bs_111_1 _ _ _ _ _ _) ⟨⟨rfl, rfl⟩, trivial⟩ rfl rfl (by decide)) rfl rfl ?_
   rintro _ w5 ⟨u37, J37, rfl, hJ37, R37, M⟩
   have hoJ37 := M.old
   refine wl_e (e_app 1 M rfl R37 Tryz.underlying111 rfl rfl (by have := take_flat_len (edg1_len ⟨p, q⟩ ys) xs k0; rw [hl]; show (_ + 1) * 40 ≤ _; omega)) rfl rfl ?_
   rintro _ w6 ⟨u38, rfl, M⟩
   replace M := M.less hJ37 (fun _ _ => rfl)
   simp only [sC0, sCS] at M
   refine wl_as M rfl rfl ?_
   refine wl_nil ?_
   refine wc_exit rfl ?_
   refine wc_region ?_
   refine wl_m M (q_add rfl rfl (IntWalk.i64_in _ (by omega))) rfl rfl ?_
   refine wl_mv M rfl rfl ?_
   refine wl_nil ?_
   replace M := M.drop 0
   refine ⟨(k0 + 1, u38, l_7_0 ++ [(Edge.mk (⟨p, q⟩ : Pair) (Pair.mk x0.dst (q : Int)) x0.inp 0)]), ?_, ⟨(by omega), (by rw [take_flat hx0, hl]; simp [edg1, ht26]), M⟩, ⟨rfl, rfl, trivial⟩, unw_look rfl unw_base⟩
   show xs.length - (k0 + 1) < xs.length - k0
   omega
  refine wc_skip ?_
  refine wc_seq ?_
  refine wc_region ?_
  refine wl_mv M rfl rfl ?_
  refine wl_m M (q_fa fo_117_1 rfl) rfl rfl ?_
  refine wl_m M (q_ldb 2 Tryz.underlying3 rfl rfl rfl rfl) rfl rfl ?_
  obtain ⟨os42, u42, Ro42, ho42, R42⟩ := (R2).at_ hys
  replace R42 : rdSl EArc I (sv u42) (ys) := R42
  refine wl_ix (j := q) M Ro42 Tryz.underlying75 rfl rfl ho42 rfl (fun b42 o42 p42 => ?_)
  refine wl_m M (q_ldp p42 rfl rfl) rfl rfl ?_
  refine wl_m M (q_lenR R42 Tryz.underlying23 rfl) rfl rfl ?_
  refine wl_mv M rfl rfl ?_
  refine wl_nil ?_
  refine wc_block ?_
  refine wc_loop (α := Nat × SV × (List Edge)) [7, 11, 45, 46, 47, 48, 49, 50, 51, 52, 53, 54, 55, 56, 57, 58, 59, 60, 61, 62, 63, 64, 65, 66, 67, 68] (fun ((k2, u_7_2, l_7_2) : Nat × SV × (List Edge)) => [(45, .int .i64 (k2 : Int)), (7, sv u_7_2)])
    (fun ((k2, u_7_2, l_7_2) : Nat × SV × (List Edge)) w' => (k2 ≤ ys.length) ∧ (l_7_2 = l_7_0 ++ (ys.take k2).flatMap (edgA ⟨p, q⟩ x0)) ∧ Mem w I I (box b9 51 [.int .i64 x0.src, .int .i64 x0.dst, .int .i32 x0.inp, .int .i32 x0.out] :: row EEdge (sv u_7_2) l_7_2 :: box b5 117 [.int .i64 (p : Int), .int .i64 (q : Int)] :: []) w')
    (fun ((k2, u_7_2, l_7_2) : Nat × SV × (List Edge)) => ys.length - k2) (0, u_7_0, l_7_0) ⟨rfl, rfl, trivial⟩ ?_ ?_
  ·refine ⟨Nat.zero_le _, (by simp), ?_⟩
   exact M
  rintro ⟨k2, u_7_2, l_7_2⟩ jj2 w7 ⟨hk2, hl2, M⟩
  refine wc_seq ?_
  refine wc_region ?_
  refine wl_m M (q_lss rfl rfl) rfl rfl ?_
  refine wl_nil ?_
  refine wc_seq ?_
  refine wc_dec rfl (fun ht46 => ?_) (fun ht46 => ?_)
  ·obtain ⟨x2, hx2⟩ : ∃ x_, ys[k2]? = some x_ := ⟨_, List.getElem?_eq_getElem (by omega)⟩
   have hll2 := (R42).len_le
   refine wc_skip ?_
   refine wc_seq ?_
   refine wc_block ?_
   refine wc_seq ?_
   refine wc_region ?_
   refine wl_ix (j := k2) M R42 Tryz.underlying23 rfl rfl hx2 rfl (fun b47 o47 p47 => ?_)
   refine wl_m M (q_ldp p47 rfl rfl) rfl rfl ?_
   refine wl_e (e_alloc M z51) rfl rfl ?_
   rintro _ w8 ⟨b11, rfl, M⟩
   refine wl_e0 (e_stW 0 M rfl rfl rfl sz51 rfl rfl) rfl ?_
   intro _ w9 M
   simp only [sC0, sCS] at M
   refine wl_nil ?_
   refine wc_seq ?_
   refine wc_region ?_
   refine wl_m M (q_fa fo_51_2 rfl) rfl rfl ?_
   refine wl_m M (q_ldb 0 Tryz.underlying21 rfl rfl rfl rfl) rfl rfl ?_
   refine wl_m M (q_fa fo_51_3 rfl) rfl rfl ?_
   refine wl_m M (q_ldb 1 Tryz.underlying21 rfl rfl rfl rfl) rfl rfl ?_
   refine wl_m M (q_eql rfl rfl) rfl rfl ?_
   refine wl_nil ?_
   refine wc_dec rfl (fun ht53 => ?_) (fun ht53 => ?_)
   ·refine wc_region ?_
    refine wl_mv M rfl rfl ?_
    refine wl_m M (q_ldbA 3 Tryz.underlying117 rfl sz117 rfl rfl rfl rfl) rfl rfl ?_
    refine wl_m M (q_fa fo_51_1 rfl) rfl rfl ?_
    refine wl_m M (q_ldb 1 Tryz.underlying3 rfl rfl rfl rfl) rfl rfl ?_
    refine wl_m M (q_fa fo_51_1 rfl) rfl rfl ?_
    refine wl_m M (q_ldb 0 Tryz.underlying3 rfl rfl rfl rfl) rfl rfl ?_
    refine wl_m M (q_build (bd_117_0_1 _ _) ⟨⟨rfl, rfl⟩, ⟨rfl, rfl⟩, trivial⟩) rfl rfl ?_
    refine wl_m M (q_fa fo_51_2 rfl) rfl rfl ?_
    refine wl_m M (q_ldb 1 Tryz.underlying21 rfl rfl rfl rfl) rfl rfl ?_
    refine wl_m M (q_fa fo_51_3 rfl) rfl rfl ?_
    refine wl_m M (q_ldb 0 Tryz.underlying21 rfl rfl rfl rfl) rfl rfl ?_
    refine wl_m M (q_build (bd_125_0_1_2_3 _ _ _ _ _ _) ⟨⟨rfl, rfl⟩, ⟨rfl, rfl⟩, ⟨rfl, rfl⟩, ⟨rfl, rfl⟩, trivial⟩) rfl rfl ?_
    refine wl_e (e_bsI (E := EEdge) (xs := [(Edge.mk (⟨p, q⟩ : Pair) (Pair.mk x0.dst x2.dst) x0.inp x2.out)]) M (bs_111_1 _ _ _ _ _ _) ⟨⟨rfl, rfl⟩, trivial⟩ rfl rfl (by decide)) rfl rfl ?_
    rintro _ w10 ⟨u66, J66, rfl, hJ66, R66, M⟩
    have hoJ66 := M.old
    refine wl_e (e_app 2 M rfl R66 Tryz.underlying111 rfl rfl (by have := take_flat_len (edg1_len ⟨p, q⟩ ys) xs k0; have := take_flat_len (edgA_len ⟨p, q⟩ x0) ys k2; rw [hl2, hl, List.length_append]; show (_ + 1) * 40 ≤ _; omega)) rfl rfl ?_
    rintro _ w11 ⟨u67, rfl, M⟩
    replace M := M.less hJ66 (fun _ _ => rfl)
    simp only [sC0, sCS] at M
    refine wl_as M rfl rfl ?_
    refine wl_nil ?_
    refine wc_region ?_
    refine wl_m M (q_add rfl rfl (IntWalk.i64_in _ (by omega))) rfl rfl ?_
    refine wl_mv M rfl rfl ?_
    refine wl_nil ?_
    replace M := M.drop 0
    refine ⟨(k2 + 1, u67, l_7_2 ++ [(Edge.mk (⟨p, q⟩ : Pair) (Pair.mk x0.dst x2.dst) x0.inp x2.out)]), ?_, ⟨(by omega), (by rw [take_flat hx2, hl2]; simp [edgA, ht53]), M⟩, ⟨rfl, rfl, trivial⟩, unw_look rfl unw_base⟩
    show ys.length - (k2 + 1) < ys.length - k2
    omega
   refine wc_skip ?_
   refine wc_region ?_
   refine wl_m M (q_add rfl rfl (IntWalk.i64_in _ (by omega))) rfl rfl ?_
   refine wl_mv M rfl rfl ?_
   refine wl_nil ?_
   replace M := M.drop 0
   refine ⟨(k2 + 1, u_7_2, l_7_2), ?_, ⟨(by omega), (by rw [take_flat hx2, hl2]; simp [edgA, ht53]), M⟩, ⟨rfl, rfl, trivial⟩, unw_look rfl unw_base⟩
   show ys.length - (k2 + 1) < ys.length - k2
   omega
  have hke2 : k2 = ys.length := by omega
  rw [hke2, List.take_length] at hl2
  refine wc_exit rfl ?_
  refine wc_region ?_
  refine wl_m M (q_add rfl rfl (IntWalk.i64_in _ (by omega))) rfl rfl ?_
  refine wl_mv M rfl rfl ?_
  refine wl_nil ?_
  replace M := M.drop 0
  refine ⟨(k0 + 1, u_7_2, l_7_2), ?_, ⟨(by omega), (by rw [take_flat hx0, hl2, hl]; simp [edg1, ht26]), M⟩, ⟨rfl, rfl, trivial⟩, unw_look rfl (unw_hav rfl (unw_look rfl unw_base))⟩
  show xs.length - (k0 + 1) < xs.length - k0
  omega
 have hke0 : k0 = xs.length := by omega
 refine wc_exit rfl ?_
 refine wc_seq ?_
 refine wc_seq ?_
 refine wc_region ?_
 refine wl_mv M rfl rfl ?_
 refine wl_m M (q_fa fo_117_1 rfl) rfl rfl ?_
 refine wl_m M (q_ldb 1 Tryz.underlying3 rfl rfl rfl rfl) rfl rfl ?_
 obtain ⟨os73, u73, Ro73, ho73, R73⟩ := (R2).at_ hys
 replace R73 : rdSl EArc I (sv u73) (ys) := R73
 refine wl_ix (j := q) M Ro73 Tryz.underlying75 rfl rfl ho73 rfl (fun b73 o73 p73 => ?_)
 refine wl_m M (q_ldp p73 rfl rfl) rfl rfl ?_
 refine wl_m M (q_lenR R73 Tryz.underlying23 rfl) rfl rfl ?_
 refine wl_mv M rfl rfl ?_
 refine wl_nil ?_
 refine wc_block ?_
 refine wc_loop (α := Nat × SV × (List Edge)) [7, 13, 76, 77, 78, 79, 80, 81, 82, 83, 84, 85, 86, 87, 88, 89, 90, 91, 92, 93, 94, 95] (fun ((k4, u_7_4, l_7_4) : Nat × SV × (List Edge)) => [(76, .int .i64 (k4 : Int)), (7, sv u_7_4)])
   (fun ((k4, u_7_4, l_7_4) : Nat × SV × (List Edge)) w' => (k4 ≤ ys.length) ∧ (l_7_4 = xs.flatMap (edg1 ⟨p, q⟩ ys) ++ (ys.take k4).flatMap (edgB ⟨p, q⟩)) ∧ Mem w I I (row EEdge (sv u_7_4) l_7_4 :: box b5 117 [.int .i64 (p : Int), .int .i64 (q : Int)] :: []) w')
   (fun ((k4, u_7_4, l_7_4) : Nat × SV × (List Edge)) => ys.length - k4) (0, u_7_0, l_7_0) ⟨rfl, rfl, trivial⟩ ?_ ?_
 ·refine ⟨Nat.zero_le _, (by rw [hl, hke0, List.take_length]; simp), ?_⟩
  exact M
 rintro ⟨k4, u_7_4, l_7_4⟩ jj4 w12 ⟨hk4, hl4, M⟩
 refine wc_seq ?_
 refine wc_region ?_
 refine wl_m M (q_lss rfl rfl) rfl rfl ?_
 refine wl_nil ?_
 refine wc_seq ?_
 refine wc_dec rfl (fun ht77 => ?_) (fun ht77 => ?_)
 ·obtain ⟨x4, hx4⟩ : ∃ x_, ys[k4]? = some x_ := ⟨_, List.getElem?_eq_getElem (by omega)⟩
  have hll4 := (R73).len_le
  refine wc_skip ?_
  refine wc_seq ?_
  refine wc_block ?_
  refine wc_seq ?_
  refine wc_region ?_
  refine wl_ix (j := k4) M R73 Tryz.underlying23 rfl rfl hx4 rfl (fun b78 o78 p78 => ?_)
  refine wl_m M (q_ldp p78 rfl rfl) rfl rfl ?_
  refine wl_e (e_alloc M z51) rfl rfl ?_
  rintro _ w13 ⟨b13, rfl, M⟩
  refine wl_e0 (e_stW 0 M rfl rfl rfl sz51 rfl rfl) rfl ?_
  intro _ w14 M
  simp only [sC0, sCS] at M
  refine wl_nil ?_
  refine wc_seq ?_
  refine wc_region ?_
  refine wl_m M (q_fa fo_51_2 rfl) rfl rfl ?_
  refine wl_m M (q_ldb 0 Tryz.underlying21 rfl rfl rfl rfl) rfl rfl ?_
  refine wl_m M (q_eql rfl rfl) rfl rfl ?_
  refine wl_nil ?_
  refine wc_dec rfl (fun ht82 => ?_) (fun ht82 => ?_)
  ·refine wc_region ?_
   refine wl_mv M rfl rfl ?_
   refine wl_m M (q_ldbA 2 Tryz.underlying117 rfl sz117 rfl rfl rfl rfl) rfl rfl ?_
   refine wl_m M (q_fa fo_117_0 rfl) rfl rfl ?_
   refine wl_m M (q_ldb 2 Tryz.underlying3 rfl rfl rfl rfl) rfl rfl ?_
   refine wl_m M (q_fa fo_51_1 rfl) rfl rfl ?_
   refine wl_m M (q_ldb 0 Tryz.underlying3 rfl rfl rfl rfl) rfl rfl ?_
   refine wl_m M (q_build (bd_117_0_1 _ _) ⟨⟨rfl, rfl⟩, ⟨rfl, rfl⟩, trivial⟩) rfl rfl ?_
   refine wl_m M (q_fa fo_51_3 rfl) rfl rfl ?_
   refine wl_m M (q_ldb 0 Tryz.underlying21 rfl rfl rfl rfl) rfl rfl ?_
   refine wl_m M (q_build (bd_125_0_1_2_3 _ _ _ _ _ _) ⟨⟨rfl, rfl⟩, ⟨rfl, rfl⟩, ⟨rfl, rfl⟩, ⟨rfl, rfl⟩, trivial⟩) rfl rfl ?_
   refine wl_e (e_bsI (E := EEdge) (xs := [(Edge.mk (⟨p, q⟩ : Pair) (Pair.mk (p : Int) x4.dst) 0 x4.out)]) M (bs_111_1 _ _ _ _ _ _) ⟨⟨rfl, rfl⟩, trivial⟩ rfl rfl (by decide)) rfl rfl ?_
   rintro _ w15 ⟨u93, J93, rfl, hJ93, R93, M⟩
   have hoJ93 := M.old
   refine wl_e (e_app 1 M rfl R93 Tryz.underlying111 rfl rfl (by have := flat_len (edg1_len ⟨p, q⟩ ys) xs; have := take_flat_len (edgB_len ⟨p, q⟩) ys k4; rw [hl4, List.length_append]; show (_ + 1) * 40 ≤ _; omega)) rfl rfl ?_
   rintro _ w16 ⟨u94, rfl, M⟩
   replace M := M.less hJ93 (fun _ _ => rfl)
   simp only [sC0, sCS] at M
   refine wl_as M rfl rfl ?_
   refine wl_nil ?_
   refine wc_region ?_
   refine wl_m M (q_add rfl rfl (IntWalk.i64_in _ (by omega))) rfl rfl ?_
   refine wl_mv M rfl rfl ?_
   refine wl_nil ?_
   replace M := M.drop 0
   refine ⟨(k4 + 1, u94, l_7_4 ++ [(Edge.mk (⟨p, q⟩ : Pair) (Pair.mk (p : Int) x4.dst) 0 x4.out)]), ?_, ⟨(by omega), (by rw [take_flat hx4, hl4]; simp [edgB, ht82]), M⟩, ⟨rfl, rfl, trivial⟩, unw_look rfl unw_base⟩
   show ys.length - (k4 + 1) < ys.length - k4
   omega
  refine wc_skip ?_
  refine wc_region ?_
  refine wl_m M (q_add rfl rfl (IntWalk.i64_in _ (by omega))) rfl rfl ?_
  refine wl_mv M rfl rfl ?_
  refine wl_nil ?_
  replace M := M.drop 0
  refine ⟨(k4 + 1, u_7_4, l_7_4), ?_, ⟨(by omega), (by rw [take_flat hx4, hl4]; simp [edgB, ht82]), M⟩, ⟨rfl, rfl, trivial⟩, unw_look rfl unw_base⟩
  show ys.length - (k4 + 1) < ys.length - k4
  omega
 have hke4 : k4 = ys.length := by omega
 rw [hke4, List.take_length] at hl4
 refine wc_exit rfl ?_
 refine wc_seq ?_
 refine wc_region ?_
 refine wl_mv M rfl rfl ?_
 refine wl_as M rfl rfl ?_
 refine wl_nil ?_
 refine wc_ret ?_
 obtain ⟨I2, M, hI2, Rm⟩ := M.frzRow 0 rfl
 rw [hl4] at Rm
 exact out1 rfl rfl ⟨_, I2, rfl, M.grow, Rm⟩
theorem reachable_c {a b : Tra} {m n : Nat} (ha : a.Ok m) (hb : b.Ok n) (hbig : (m * n + 1) * (a.arcs.length * (b.arcs.length + 1) + b.arcs.length + 1) ≤ 1099511627776) {v1 v2 : Value} {I : Heap} {w : World} (hI : hle I (hp w)) (R1 : a.rd I v1) (R2 : b.rd I v2) :
    Calls A 52 #[v1, v2] w (Ret w I fun r I' => ∃ (u : SV) (v3 : Value) (K : List Pair), r = .tuple #[sv u, v3] ∧ rdSl EEdge I' (sv u) (K.flatMap (compE a b)) ∧ rdMp QPair Value.bool I' v3 (tr K) ∧ Closure (compN a b) (· = ⟨a.start, b.start⟩) K) := by
 obtain ⟨fu1, au1, rfl, Rf1, Ra1⟩ := R1
 obtain ⟨fu2, au2, rfl, Rf2, Ra2⟩ := R2
 have hU : m * n ≤ 512 * 512 := Nat.mul_le_mul ha.le hb.le
 have M := Mem.start hI
 refine enter Tryz.func52 rfl 66 Tryz.ntmps52 [_, _] rfl ?_
 refine wc_seq ?_
 refine wc_region ?_
 refine wl_e (e_box M rfl) rfl rfl ?_
 rintro _ w1 ⟨b2, rfl, M⟩
 refine wl_e (e_box M rfl) rfl rfl ?_
 rintro _ w2 ⟨b3, rfl, M⟩
 refine wl_as M rfl rfl ?_
 refine wl_as M rfl rfl ?_
 refine wl_nil ?_
 refine wc_seq ?_
 refine wc_draws (fun w' => Mem w I I (box b3 25 [.int .i64 b.states, .int .i64 b.start, sv fu2, sv au2] :: box b2 25 [.int .i64 a.states, .int .i64 a.start, sv fu1, sv au1] :: []) w' ∧ True) [] fol ?_
 replace M := M.drew
 have hS := (⟨M, trivial⟩ : _ ∧ _)
 refine wa_q 0 rfl (by kernel_rfl) ((q_ldbA 1 Tryz.underlying25 rfl sz25 rfl rfl rfl rfl).mono fun _ h => h.1) hS rfl rfl ?_
 refine wa_q 2 rfl (by kernel_rfl) ((q_ldbA 0 Tryz.underlying25 rfl sz25 rfl rfl rfl rfl).mono fun _ h => h.1) hS rfl rfl ?_
 refine wa_e 1 rfl (by kernel_rfl) (e_callC M (leaving_c a m ha.st ha.le (fun x hx => (ha.arcs x hx).1) ha.alen M.imm ⟨fu1, au1, rfl, Rf1, Ra1⟩) Tryz.func63 rfl rfl) rfl rfl ?_
 rintro v16 w3 ⟨J16, hJ16, R16, M⟩
 obtain ⟨u16, rfl⟩ := rdMat_slice R16
 have hoJ16 := M.old
 have hS := (⟨(M.less hJ16 (fun _ _ => rfl)), trivial⟩ : _ ∧ _)
 refine ⟨fun _ => hS, ?_⟩
 refine wa_e 3 rfl (by kernel_rfl) (e_callC M (leaving_c b n hb.st hb.le (fun x hx => (hb.arcs x hx).1) hb.alen M.imm ⟨fu2, au2, rfl, (Rf2.mono hJ16), (Ra2.mono hJ16)⟩) Tryz.func63 rfl rfl) rfl rfl ?_
 rintro v18 w4 ⟨J18, hJ18, R18, M⟩
 obtain ⟨u18, rfl⟩ := rdMat_slice R18
 have hoJ18 := M.old
 have hS := (⟨(M.less (hle.trans hJ16 hJ18) (fun _ _ => rfl)), trivial⟩ : _ ∧ _)
 refine ⟨fun _ => hS, ?_⟩
 refine wa_q 4 rfl (by kernel_rfl) (q_assign rfl) hS rfl rfl ?_
 refine wa_q 5 rfl (by kernel_rfl) (q_assign rfl) hS rfl rfl ?_
 refine wa_done (by kernel_rfl) ?_
 refine wc_seq ?_
 refine wc_region ?_
 refine wl_m M (q_fa fo_25_1 rfl) rfl rfl ?_
 refine wl_m M (q_ldb 1 Tryz.underlying3 rfl rfl rfl rfl) rfl rfl ?_
 refine wl_m M (q_fa fo_25_1 rfl) rfl rfl ?_
 refine wl_m M (q_ldb 0 Tryz.underlying3 rfl rfl rfl rfl) rfl rfl ?_
 refine wl_m M (q_build (bd_117_0_1 _ _) ⟨⟨rfl, rfl⟩, ⟨rfl, rfl⟩, trivial⟩) rfl rfl ?_
 refine wl_e (e_alloc M z117) rfl rfl ?_
 rintro _ w5 ⟨b8, rfl, M⟩
 refine wl_e0 (e_stW 0 M rfl rfl rfl sz117 rfl rfl) rfl ?_
 intro _ w6 M
 simp only [sC0, sCS] at M
 refine wl_nil ?_
 refine wc_seq ?_
 refine wc_region ?_
 refine wl_e (e_mkm QPair Value.bool M) rfl rfl ?_
 rintro _ w7 ⟨b24, rfl, M⟩
 refine wl_m M (q_ldbA 1 Tryz.underlying117 rfl sz117 rfl rfl rfl rfl) rfl rfl ?_
 refine wl_e0 (e_mpi (k := (Pair.mk a.start b.start)) (v := true) 0 M rfl Tryz.underlying112 rfl rfl rfl) rfl ?_
 intro _ w8 M
 simp only [sC0, sCS] at M
 refine wl_mv M rfl rfl ?_
 refine wl_as M rfl rfl ?_
 refine wl_nil ?_
 refine wc_seq ?_
 refine wc_region ?_
 refine wl_m M (q_ldbA 1 Tryz.underlying117 rfl sz117 rfl rfl rfl rfl) rfl rfl ?_
 refine wl_e (e_bsR (E := EPair) (xs := [(Pair.mk a.start b.start)]) M (bs_118_1 _ _) ⟨⟨rfl, rfl⟩, trivial⟩ rfl rfl (by decide)) rfl rfl ?_
 rintro _ w9 ⟨u28, rfl, M⟩
 refine wl_as M rfl rfl ?_
 refine wl_nil ?_
 refine wc_seq ?_
 refine wc_region ?_
 refine wl_as M rfl rfl ?_
 replace M := M.nilRow EEdge
 refine wl_nil ?_
 refine wc_seq ?_
 refine wc_block ?_
 refine wc_loop (α := (List Pair) × SV × (List Pair) × SV × (List Edge) × (List (Pair × Bool))) [10, 11, 12, 14, 29, 30, 31, 32, 33, 34, 35, 36, 37, 38, 39, 40, 41, 42, 43, 44, 45, 46, 47, 48, 49, 50, 51, 52, 53, 54, 55, 56, 57, 58, 59, 60, 61, 62, 63] (fun ((vs, u_28_0, l_28_0, u_11_0, l_11_0, m_24_0) : (List Pair) × SV × (List Pair) × SV × (List Edge) × (List (Pair × Bool))) => [(10, sv u_28_0), (11, sv u_11_0)])
   (fun ((vs, u_28_0, l_28_0, u_11_0, l_11_0, m_24_0) : (List Pair) × SV × (List Pair) × SV × (List Edge) × (List (Pair × Bool))) w' => (Bfs (compN a b) (· = ⟨a.start, b.start⟩) vs l_28_0) ∧ (m_24_0 = tr (vs ++ l_28_0)) ∧ (l_11_0 = vs.flatMap (compE a b)) ∧ Mem w I J18 (row EEdge (sv u_11_0) l_11_0 :: row EPair (sv u_28_0) l_28_0 :: mpr QPair Value.bool b24 m_24_0 :: box b8 117 [.int .i64 a.start, .int .i64 b.start] :: box b3 25 [.int .i64 b.states, .int .i64 b.start, sv fu2, sv au2] :: box b2 25 [.int .i64 a.states, .int .i64 a.start, sv fu1, sv au1] :: []) w')
   (fun ((vs, u_28_0, l_28_0, u_11_0, l_11_0, m_24_0) : (List Pair) × SV × (List Pair) × SV × (List Edge) × (List (Pair × Bool))) => m * n - vs.length) ([], u28, [(Pair.mk a.start b.start)], nilV, [], aput [] (Pair.mk a.start b.start) true) ⟨rfl, rfl, trivial⟩ ?_ ?_
 ·refine ⟨Bfs.init _ _, rfl, rfl, ?_⟩
  exact M
 rintro ⟨vs, u_28_0, l_28_0, u_11_0, l_11_0, m_24_0⟩ jj0 w10 ⟨hB, hm, hl, M⟩
 have hoJ18 := M.old
 refine wc_seq ?_
 refine wc_seq ?_
 refine wc_region ?_
 refine wl_mv M rfl rfl ?_
 refine wl_m M (q_lenr 1 M rfl Tryz.underlying118 rfl) rfl rfl ?_
 refine wl_m M (q_gtr rfl rfl) rfl rfl ?_
 refine wl_nil ?_
 refine wc_dec rfl (fun ht31 => ?_) (fun ht31 => ?_)
 ·obtain ⟨p, q, qs, hq⟩ : ∃ (p q : Nat) (qs : List Pair), l_28_0 = ⟨p, q⟩ :: qs := by
    cases l_28_0 with
    | nil => simp at ht31
    | cons x qs =>
      have := mem_rect.1 (compN_rect ha hb x (hB.reach x (by simp)))
      exact ⟨x.p.toNat, x.q.toNat, qs, by cases x; simp at *; omega⟩
  have hpq := mem_rect.1 (compN_rect ha hb ⟨p, q⟩ (hB.reach _ (by rw [hq]; simp)))
  have hp1 : p < m := by have := hpq.1.2; simp at this; omega
  have hq1 : q < n := by have := hpq.2.2; simp at this; omega
  refine wc_skip ?_
  refine wc_block ?_
  refine wc_seq ?_
  refine wc_region ?_
  refine wl_mv M rfl rfl ?_
  refine wl_ixr (j := 0) 1 M rfl Tryz.underlying118 rfl rfl (by rw [hq]; rfl) rfl (fun b33 o33 p33 => ?_)
  refine wl_m M (q_ldp p33 rfl rfl) rfl rfl ?_
  refine wl_e (e_alloc M z117) rfl rfl ?_
  rintro _ w11 ⟨b12, rfl, M⟩
  refine wl_e0 (e_stW 0 M rfl rfl rfl sz117 rfl rfl) rfl ?_
  intro _ w12 M
  simp only [sC0, sCS] at M
  refine wl_nil ?_
  refine wc_seq ?_
  refine wc_region ?_
  refine wl_mv M rfl rfl ?_
  refine wl_e (e_cut (k := 1) 2 M rfl Tryz.underlying118 rfl rfl (by omega)) rfl rfl ?_
  rintro _ w13 ⟨u36, rfl, M⟩
  simp only [sC0, sCS] at M
  refine wl_as M rfl rfl ?_
  refine wl_nil ?_
  refine wc_seq ?_
  refine wc_region ?_
  refine wl_mv M rfl rfl ?_
  refine wl_mv M rfl rfl ?_
  refine wl_m M (q_ldbA 0 Tryz.underlying117 rfl sz117 rfl rfl rfl rfl) rfl rfl ?_
  refine wl_e (e_callC M (edges_c (lv_at hp1) (lv_at hq1) (Nat.le_trans (a.outs_len p) ha.alen) (Nat.le_trans (b.outs_len q) hb.alen) M.imm (R16.mono hJ18) R18) Tryz.func89 rfl rfl) rfl rfl ?_
  rintro v40 w14 ⟨J40, hJ40, R40, M⟩
  obtain ⟨u40, rfl⟩ := rdSl_slice R40
  have hoJ40 := M.old
  replace R40 : rdSl EEdge J40 (sv u40) (compE a b ⟨p, q⟩) := R40
  refine wl_m M (q_lenR R40 Tryz.underlying111 rfl) rfl rfl ?_
  refine wl_mv M rfl rfl ?_
  refine wl_nil ?_
  refine wc_block ?_
  refine wc_loop (α := Nat × SV × (List Pair) × SV × (List Edge) × (List (Pair × Bool))) [10, 11, 14, 42, 43, 44, 45, 46, 47, 48, 49, 50, 51, 52, 53, 54, 55, 56, 57, 58, 59, 60, 61, 62, 63] (fun ((k2, u_28_2, l_28_2, u_11_2, l_11_2, m_24_2) : Nat × SV × (List Pair) × SV × (List Edge) × (List (Pair × Bool))) => [(42, .int .i64 (k2 : Int)), (10, sv u_28_2), (11, sv u_11_2)])
    (fun ((k2, u_28_2, l_28_2, u_11_2, l_11_2, m_24_2) : Nat × SV × (List Pair) × SV × (List Edge) × (List (Pair × Bool))) w' => (k2 ≤ (compE a b ⟨p, q⟩).length) ∧ (BfsIn (compN a b) (· = ⟨a.start, b.start⟩) vs ⟨p, q⟩ (((compE a b ⟨p, q⟩).take k2).map (·.dst)) l_28_2) ∧ (m_24_2 = tr (vs ++ ⟨p, q⟩ :: l_28_2)) ∧ (l_11_2 = vs.flatMap (compE a b) ++ (compE a b ⟨p, q⟩).take k2) ∧ Mem w I J40 (box b12 117 [.int .i64 ((Pair.mk p q).p), .int .i64 ((Pair.mk p q).q)] :: row EEdge (sv u_11_2) l_11_2 :: row EPair (sv u_28_2) l_28_2 :: mpr QPair Value.bool b24 m_24_2 :: box b8 117 [.int .i64 a.start, .int .i64 b.start] :: box b3 25 [.int .i64 b.states, .int .i64 b.start, sv fu2, sv au2] :: box b2 25 [.int .i64 a.states, .int .i64 a.start, sv fu1, sv au1] :: []) w')
    (fun ((k2, u_28_2, l_28_2, u_11_2, l_11_2, m_24_2) : Nat × SV × (List Pair) × SV × (List Edge) × (List (Pair × Bool))) => (compE a b ⟨p, q⟩).length - k2) (0, u36, l_28_0.drop 1, u_11_0, l_11_0, m_24_0) ⟨rfl, rfl, rfl, trivial⟩ ?_ ?_
  ·refine ⟨Nat.zero_le _, (by have := hB; rw [hq] at this; rw [hq]; exact this.opn), (by rw [hm, hq]; rfl), (by rw [hl]; simp), ?_⟩
   exact M
  rintro ⟨k2, u_28_2, l_28_2, u_11_2, l_11_2, m_24_2⟩ jj2 w15 ⟨hk2, hB2, hm2, hl2, M⟩
  have hoJ40 := M.old
  refine wc_seq ?_
  refine wc_region ?_
  refine wl_m M (q_lss rfl rfl) rfl rfl ?_
  refine wl_nil ?_
  refine wc_seq ?_
  refine wc_dec rfl (fun ht43 => ?_) (fun ht43 => ?_)
  ·obtain ⟨x2, hx2⟩ : ∃ x_, (compE a b ⟨p, q⟩)[k2]? = some x_ := ⟨_, List.getElem?_eq_getElem (by omega)⟩
   have hll2 := (R40).len_le
   refine wc_skip ?_
   refine wc_seq ?_
   refine wc_block ?_
   refine wc_seq ?_
   refine wc_region ?_
   refine wl_ix (j := k2) M R40 Tryz.underlying111 rfl rfl hx2 rfl (fun b44 o44 p44 => ?_)
   refine wl_m M (q_ldp p44 rfl rfl) rfl rfl ?_
   refine wl_e (e_alloc M z125) rfl rfl ?_
   rintro _ w16 ⟨b14, rfl, M⟩
   refine wl_e0 (e_stW 0 M rfl rfl rfl sz125 rfl rfl) rfl ?_
   intro _ w17 M
   simp only [sC0, sCS] at M
   refine wl_nil ?_
   refine wc_seq ?_
   refine wc_region ?_
   refine wl_mv M rfl rfl ?_
   refine wl_m M (q_ldbA 0 Tryz.underlying125 rfl sz125 rfl rfl rfl rfl) rfl rfl ?_
   refine wl_e (e_bsI (E := EEdge) (xs := [x2]) M (bs_111_1 _ _ _ _ _ _) ⟨⟨rfl, rfl⟩, trivial⟩ rfl rfl (by decide)) rfl rfl ?_
   rintro _ w18 ⟨u48, J48, rfl, hJ48, R48, M⟩
   have hoJ48 := M.old
   refine wl_e (e_app 2 M rfl R48 Tryz.underlying111 rfl rfl (by have := flat_bound (compE_len a b) (vs := vs) ⟨p, q⟩ k2 (U := m * n) (by have := hB2.len (compN_rect ha hb); rw [rect_len] at this; omega); rw [hl2]; show (_ + 1) * 40 ≤ _; omega)) rfl rfl ?_
   rintro _ w19 ⟨u49, rfl, M⟩
   replace M := M.less hJ48 hoJ40
   simp only [sC0, sCS] at M
   refine wl_as M rfl rfl ?_
   refine wl_nil ?_
   refine wc_seq ?_
   refine wc_region ?_
   refine wl_mv M rfl rfl ?_
   refine wl_m M (q_fa fo_125_1 rfl) rfl rfl ?_
   refine wl_m M (q_ldbA 0 Tryz.underlying117 rfl sz117 rfl rfl rfl rfl) rfl rfl ?_
   refine wl_m M (q_lk (k := x2.dst) (z := false) 4 rfl Tryz.underlying112 zv4 rfl rfl) rfl rfl ?_
   refine wl_m M (q_not rfl) rfl rfl ?_
   refine wl_nil ?_
   refine wc_cond rfl (fun ht54 => ?_) (fun ht54 => ?_)
   ·have hnk : x2.dst ∉ vs ++ ⟨p, q⟩ :: l_28_2 := by rw [hm2, aget_tr] at ht54; exact nd_t ht54
    refine wc_seq ?_
    refine wc_region ?_
    refine wl_mv M rfl rfl ?_
    refine wl_m M (q_fa fo_125_1 rfl) rfl rfl ?_
    refine wl_m M (q_ldbA 0 Tryz.underlying117 rfl sz117 rfl rfl rfl rfl) rfl rfl ?_
    refine wl_e0 (e_mpu (k := x2.dst) (v := true) 4 M rfl Tryz.underlying112 rfl rfl rfl) rfl ?_
    intro _ w20 M
    simp only [sC0, sCS] at M
    refine wl_nil ?_
    refine wc_region ?_
    refine wl_mv M rfl rfl ?_
    refine wl_m M (q_fa fo_125_1 rfl) rfl rfl ?_
    refine wl_m M (q_ldbA 0 Tryz.underlying117 rfl sz117 rfl rfl rfl rfl) rfl rfl ?_
    refine wl_e (e_bsI (E := EPair) (xs := [x2.dst]) M (bs_118_1 _ _) ⟨⟨rfl, rfl⟩, trivial⟩ rfl rfl (by decide)) rfl rfl ?_
    rintro _ w21 ⟨u61, J61, rfl, hJ61, R61, M⟩
    have hoJ61 := M.old
    refine wl_e (e_app 3 M rfl R61 Tryz.underlying118 rfl rfl (by have := hB2.len (compN_rect ha hb); rw [rect_len] at this; show (_ + 1) * 16 ≤ _; omega)) rfl rfl ?_
    rintro _ w22 ⟨u62, rfl, M⟩
    replace M := M.less hJ61 hoJ40
    simp only [sC0, sCS] at M
    refine wl_as M rfl rfl ?_
    refine wl_nil ?_
    refine wc_region ?_
    refine wl_m M (q_add rfl rfl (IntWalk.i64_in _ (by omega))) rfl rfl ?_
    refine wl_mv M rfl rfl ?_
    refine wl_nil ?_
    replace M := M.drop 0
    refine ⟨(k2 + 1, u62, l_28_2 ++ [x2.dst], u49, l_11_2 ++ [x2], aput m_24_2 x2.dst true), ?_, ⟨(by omega), (by rw [take_snoc hx2, List.map_append]; exact hB2.push hnk (List.mem_map.2 ⟨x2, List.mem_of_getElem? hx2, rfl⟩)), (by rw [hm2, aput_tr hnk]; congr 1; simp), (by rw [hl2, take_snoc hx2]; simp), M⟩, ⟨rfl, rfl, rfl, trivial⟩, unw_look rfl unw_base⟩
    show (compE a b ⟨p, q⟩).length - (k2 + 1) < (compE a b ⟨p, q⟩).length - k2
    omega
   have hnk : x2.dst ∈ vs ++ ⟨p, q⟩ :: l_28_2 := by rw [hm2, aget_tr] at ht54; exact nd_f ht54
   refine wc_skip ?_
   refine wc_region ?_
   refine wl_m M (q_add rfl rfl (IntWalk.i64_in _ (by omega))) rfl rfl ?_
   refine wl_mv M rfl rfl ?_
   refine wl_nil ?_
   replace M := M.drop 0
   refine ⟨(k2 + 1, u_28_2, l_28_2, u49, l_11_2 ++ [x2], m_24_2), ?_, ⟨(by omega), (by rw [take_snoc hx2, List.map_append]; exact hB2.known hnk), hm2, (by rw [hl2, take_snoc hx2]; simp), M⟩, ⟨rfl, rfl, rfl, trivial⟩, unw_look rfl unw_base⟩
   show (compE a b ⟨p, q⟩).length - (k2 + 1) < (compE a b ⟨p, q⟩).length - k2
   omega
  have hke2 : k2 = (compE a b ⟨p, q⟩).length := by omega
  rw [hke2, List.take_length] at hB2 hl2
  refine wc_exit rfl ?_
  replace M := M.less hJ40 hoJ18
  replace M := M.drop 0
  refine ⟨(vs ++ [Pair.mk p q], u_28_2, l_28_2, u_11_2, l_11_2, m_24_2), ?_, ⟨hB2.close (fun y hy => hy), (by rw [hm2]; congr 1; simp), (by rw [hl2]; simp), M⟩, ⟨rfl, rfl, trivial⟩, unw_look rfl (unw_hav rfl (unw_look rfl unw_base))⟩
  show m * n - (vs ++ [Pair.mk p q]).length < m * n - vs.length
  have := (hB2.close (fun y hy => hy)).len (compN_rect ha hb)
  rw [rect_len] at this
  simp only [List.length_append, List.length_cons, List.length_nil] at this ⊢
  omega
 obtain rfl : l_28_0 = [] := by cases l_28_0 with | nil => rfl | cons x l => simp at ht31
 rw [List.append_nil] at hm
 refine wc_exit rfl ?_
 refine wc_seq ?_
 refine wc_region ?_
 refine wl_mv M rfl rfl ?_
 refine wl_mv M rfl rfl ?_
 refine wl_as M rfl rfl ?_
 refine wl_as M rfl rfl ?_
 refine wl_nil ?_
 refine wc_ret ?_
 obtain ⟨I2, M, hI2, R2⟩ := M.frzRow 0 rfl
 obtain ⟨I3, M, hI3, R3⟩ := M.frzMp 1 rfl
 rw [hl] at R2
 rw [hm] at R3
 exact out2 rfl rfl rfl ⟨_, I3, rfl, (M.grow : Grow w I _ I3), _, _, vs, rfl, R2.mono hI3, R3, hB.fin⟩
theorem useful_c {a b : Tra} {ls : List Edge} {K : List Pair} (hKl : K.length ≤ 262144) (hsrc : ∀ e ∈ ls, e.src ∈ K) (hls : ls.length ≤ 1099511627776) (hfa : a.finals.Nodup) (hfb : b.finals.Nodup) (hal : a.finals.length ≤ 512) (hbl : b.finals.length ≤ 512) {v1 v2 v4 : Value} {u3 : SV} {I : Heap} {w : World} (hI : hle I (hp w)) (R1 : a.rd I v1) (R2 : b.rd I v2) (R3 : rdSl EEdge I (sv u3) ls) (R4 : rdMp QPair Value.bool I v4 (tr K)) :
    Calls A 53 #[v1, v2, sv u3, v4] w (Ret w I fun r I' => ∃ U : List Pair, rdMp QPair Value.bool I' r (tr U) ∧ Closure (bk ls) (fun x => x ∈ K ∧ x.p ∈ a.finals ∧ x.q ∈ b.finals) U) := by
 obtain ⟨fu1, au1, rfl, Rf1, Ra1⟩ := R1
 obtain ⟨fu2, au2, rfl, Rf2, Ra2⟩ := R2
 have hab : a.finals.length * b.finals.length ≤ 512 * 512 := Nat.mul_le_mul hal hbl
 have hFL := sel_nodup (K := K) hfa hfb
 have hRK : ∀ x, Reach (bk ls) (· ∈ a.finals.flatMap (fsel K b.finals)) x → x ∈ K := fun x hx => by
   cases hx with
   | base h => exact (mem_sel.1 h).1
   | tail _ h => obtain ⟨e, he, rfl⟩ := List.mem_map.1 h; exact hsrc e (List.mem_filter.1 he).1
 have M := Mem.start hI
 refine enter Tryz.func53 rfl 97 Tryz.ntmps53 [_, _, _, _] rfl ?_
 refine wc_seq ?_
 refine wc_region ?_
 refine wl_e (e_box M rfl) rfl rfl ?_
 rintro _ w1 ⟨b4, rfl, M⟩
 refine wl_e (e_box M rfl) rfl rfl ?_
 rintro _ w2 ⟨b5, rfl, M⟩
 refine wl_as M rfl rfl ?_
 refine wl_nil ?_
 refine wc_seq ?_
 refine wc_region ?_
 refine wl_e (e_mkm QPair sv M) rfl rfl ?_
 rintro _ w3 ⟨b22, rfl, M⟩
 replace M := M.toGm 0 EPair rfl
 simp only [sC0, sCS] at M
 refine wl_as M rfl rfl ?_
 refine wl_nil ?_
 refine wc_seq ?_
 refine wc_seq ?_
 refine wc_region ?_
 refine wl_mv M rfl rfl ?_
 refine wl_m M (q_lenR R3 Tryz.underlying111 rfl) rfl rfl ?_
 refine wl_mv M rfl rfl ?_
 refine wl_nil ?_
 refine wc_block ?_
 refine wc_loop (α := Nat × (List SV) × (List (Pair × List Pair))) [11, 25, 26, 27, 28, 29, 30, 31, 32, 33, 34, 35, 36, 37, 38, 39] (fun ((k0, us_22_0, g_22_0) : Nat × (List SV) × (List (Pair × List Pair))) => [(25, .int .i64 (k0 : Int))])
   (fun ((k0, us_22_0, g_22_0) : Nat × (List SV) × (List (Pair × List Pair))) w' => (k0 ≤ ls.length) ∧ (g_22_0 = grp (fun e : Edge => e.dst) (fun e : Edge => e.src) (ls.take k0)) ∧ Mem w I I (gmap QPair EPair b22 us_22_0 us_22_0 g_22_0 :: box b5 25 [.int .i64 b.states, .int .i64 b.start, sv fu2, sv au2] :: box b4 25 [.int .i64 a.states, .int .i64 a.start, sv fu1, sv au1] :: []) w')
   (fun ((k0, us_22_0, g_22_0) : Nat × (List SV) × (List (Pair × List Pair))) => ls.length - k0) (0, [], []) ⟨rfl, trivial⟩ ?_ ?_
 ·refine ⟨Nat.zero_le _, rfl, ?_⟩
  exact M
 rintro ⟨k0, us_22_0, g_22_0⟩ jj0 w4 ⟨hk0, hg, M⟩
 refine wc_seq ?_
 refine wc_region ?_
 refine wl_m M (q_lss rfl rfl) rfl rfl ?_
 refine wl_nil ?_
 refine wc_seq ?_
 refine wc_dec rfl (fun ht26 => ?_) (fun ht26 => ?_)
 ·obtain ⟨x0, hx0⟩ : ∃ x_, ls[k0]? = some x_ := ⟨_, List.getElem?_eq_getElem (by omega)⟩
  have hll0 := (R3).len_le
  refine wc_skip ?_
  refine wc_seq ?_
  refine wc_block ?_
  refine wc_seq ?_
  refine wc_region ?_
  refine wl_ix (j := k0) M R3 Tryz.underlying111 rfl rfl hx0 rfl (fun b27 o27 p27 => ?_)
  refine wl_m M (q_ldp p27 rfl rfl) rfl rfl ?_
  refine wl_e (e_alloc M z125) rfl rfl ?_
  rintro _ w5 ⟨b11, rfl, M⟩
  refine wl_e0 (e_stW 0 M rfl rfl rfl sz125 rfl rfl) rfl ?_
  intro _ w6 M
  simp only [sC0, sCS] at M
  refine wl_nil ?_
  refine wc_region ?_
  refine wl_mv M rfl rfl ?_
  refine wl_m M (q_fa fo_125_1 rfl) rfl rfl ?_
  refine wl_m M (q_ldbA 0 Tryz.underlying117 rfl sz117 rfl rfl rfl rfl) rfl rfl ?_
  refine wl_m M (q_fa fo_125_0 rfl) rfl rfl ?_
  refine wl_m M (q_ldbA 0 Tryz.underlying117 rfl sz117 rfl rfl rfl rfl) rfl rfl ?_
  refine wl_e (e_bsI (E := EPair) (xs := [x0.src]) M (bs_118_1 _ _) ⟨⟨rfl, rfl⟩, trivial⟩ rfl rfl (by decide)) rfl rfl ?_
  rintro _ w7 ⟨u35, J35, rfl, hJ35, R35, M⟩
  have hoJ35 := M.old
  refine wl_e (e_gent (k := x0.dst) 1 M rfl Tryz.underlying172 zv118 rfl rfl) rfl rfl ?_
  rintro _ w8 ⟨us36, j36, u36, rfl, hu36, hg36, hs36, M⟩
  simp only [sC0, sCS] at M
  refine wl_m M (q_ext rfl rfl) rfl rfl ?_
  refine wl_e (e_gapp 1 j36 M rfl Tryz.underlying118 hu36 hg36 rfl rfl R35 (by rw [hg]; have := grp_look_len (fun e : Edge => e.dst) (fun e : Edge => e.src) x0.dst (ls.take k0); rw [List.length_take] at this; show (_ + 1) * 16 ≤ _; omega)) rfl rfl ?_
  rintro _ w9 ⟨u37, rfl, M⟩
  replace M := M.less hJ35 (fun _ _ => rfl)
  simp only [sC0, sCS] at M
  refine wl_m M (q_ext rfl rfl) rfl rfl ?_
  refine wl_e0 (e_gst 1 j36 M rfl (by rw [List.length_set]; exact (List.getElem?_eq_some_iff.1 hg36).1) (List.getElem?_eq_some_iff.1 hu36).1 rfl rfl rfl) rfl ?_
  intro _ w10 M
  rw [hs36] at M
  simp only [sC0, sCS] at M
  refine wl_nil ?_
  refine wc_region ?_
  refine wl_m M (q_add rfl rfl (IntWalk.i64_in _ (by omega))) rfl rfl ?_
  refine wl_mv M rfl rfl ?_
  refine wl_nil ?_
  replace M := M.drop 0
  refine ⟨(k0 + 1, us36.set j36 u37, aput g_22_0 x0.dst ((aget g_22_0 x0.dst).getD [] ++ [x0.src])), ?_, ⟨(by omega), (by rw [take_snoc hx0, grp_snoc, hg]), M⟩, ⟨rfl, trivial⟩, unw_look rfl unw_base⟩
  show ls.length - (k0 + 1) < ls.length - k0
  omega
 have hke0 : k0 = ls.length := by omega
 refine wc_exit rfl ?_
 refine wc_seq ?_
 rw [hke0, List.take_length] at hg
 obtain ⟨I9, M, hI9, Rb⟩ := M.frzGm 0 rfl
 have hoI9 := M.old
 rw [hg] at Rb
 refine wc_region ?_
 refine wl_e (e_mkm QPair Value.bool M) rfl rfl ?_
 rintro _ w11 ⟨b40, rfl, M⟩
 refine wl_as M rfl rfl ?_
 refine wl_nil ?_
 refine wc_seq ?_
 refine wc_region ?_
 refine wl_as M rfl rfl ?_
 replace M := M.nilRow EPair
 refine wl_nil ?_
 refine wc_seq ?_
 refine wc_seq ?_
 refine wc_region ?_
 refine wl_m M (q_fa fo_25_2 rfl) rfl rfl ?_
 refine wl_m M (q_ldb 3 Tryz.underlying22 rfl rfl rfl rfl) rfl rfl ?_
 refine wl_m M (q_lenR (Rf1.mono hI9) Tryz.underlying22 rfl) rfl rfl ?_
 refine wl_mv M rfl rfl ?_
 refine wl_nil ?_
 refine wc_block ?_
 refine wc_loop (α := Nat × SV × (List Pair) × (List (Pair × Bool))) [13, 15, 17, 18, 44, 45, 46, 47, 48, 49, 50, 51, 52, 53, 54, 55, 56, 57, 58, 59, 60, 61, 62, 63, 64, 65, 66, 67, 68] (fun ((k2, u_13_2, l_13_2, m_40_2) : Nat × SV × (List Pair) × (List (Pair × Bool))) => [(44, .int .i64 (k2 : Int)), (13, sv u_13_2)])
   (fun ((k2, u_13_2, l_13_2, m_40_2) : Nat × SV × (List Pair) × (List (Pair × Bool))) w' => (k2 ≤ a.finals.length) ∧ (l_13_2 = (a.finals.take k2).flatMap (fsel K b.finals)) ∧ (m_40_2 = tr l_13_2) ∧ Mem w I I9 (row EPair (sv u_13_2) l_13_2 :: mpr QPair Value.bool b40 m_40_2 :: box b5 25 [.int .i64 b.states, .int .i64 b.start, sv fu2, sv au2] :: box b4 25 [.int .i64 a.states, .int .i64 a.start, sv fu1, sv au1] :: []) w')
   (fun ((k2, u_13_2, l_13_2, m_40_2) : Nat × SV × (List Pair) × (List (Pair × Bool))) => a.finals.length - k2) (0, nilV, [], []) ⟨rfl, rfl, trivial⟩ ?_ ?_
 ·refine ⟨Nat.zero_le _, rfl, rfl, ?_⟩
  exact M
 rintro ⟨k2, u_13_2, l_13_2, m_40_2⟩ jj2 w12 ⟨hk2, hr, hm, M⟩
 have hoI9 := M.old
 refine wc_seq ?_
 refine wc_region ?_
 refine wl_m M (q_lss rfl rfl) rfl rfl ?_
 refine wl_nil ?_
 refine wc_seq ?_
 refine wc_dec rfl (fun ht45 => ?_) (fun ht45 => ?_)
 ·obtain ⟨x2, hx2⟩ : ∃ x_, a.finals[k2]? = some x_ := ⟨_, List.getElem?_eq_getElem (by omega)⟩
  have hll2 := ((Rf1.mono hI9)).len_le
  refine wc_skip ?_
  refine wc_seq ?_
  refine wc_block ?_
  refine wc_seq ?_
  refine wc_region ?_
  refine wl_ix (j := k2) M (Rf1.mono hI9) Tryz.underlying22 rfl rfl hx2 rfl (fun b46 o46 p46 => ?_)
  refine wl_m M (q_ldp p46 rfl rfl) rfl rfl ?_
  refine wl_as M rfl rfl ?_
  refine wl_nil ?_
  refine wc_seq ?_
  refine wc_region ?_
  refine wl_m M (q_fa fo_25_2 rfl) rfl rfl ?_
  refine wl_m M (q_ldb 2 Tryz.underlying22 rfl rfl rfl rfl) rfl rfl ?_
  refine wl_m M (q_lenR (Rf2.mono hI9) Tryz.underlying22 rfl) rfl rfl ?_
  refine wl_mv M rfl rfl ?_
  refine wl_nil ?_
  refine wc_block ?_
  refine wc_loop (α := Nat × SV × (List Pair) × (List (Pair × Bool))) [13, 17, 18, 51, 52, 53, 54, 55, 56, 57, 58, 59, 60, 61, 62, 63, 64, 65, 66, 67] (fun ((k4, u_13_4, l_13_4, m_40_4) : Nat × SV × (List Pair) × (List (Pair × Bool))) => [(51, .int .i64 (k4 : Int)), (13, sv u_13_4)])
    (fun ((k4, u_13_4, l_13_4, m_40_4) : Nat × SV × (List Pair) × (List (Pair × Bool))) w' => (k4 ≤ b.finals.length) ∧ (l_13_4 = l_13_2 ++ (b.finals.take k4).flatMap (fq K x2)) ∧ (m_40_4 = tr l_13_4) ∧ Mem w I I9 (row EPair (sv u_13_4) l_13_4 :: mpr QPair Value.bool b40 m_40_4 :: box b5 25 [.int .i64 b.states, .int .i64 b.start, sv fu2, sv au2] :: box b4 25 [.int .i64 a.states, .int .i64 a.start, sv fu1, sv au1] :: []) w')
    (fun ((k4, u_13_4, l_13_4, m_40_4) : Nat × SV × (List Pair) × (List (Pair × Bool))) => b.finals.length - k4) (0, u_13_2, l_13_2, m_40_2) ⟨rfl, rfl, trivial⟩ ?_ ?_
  ·refine ⟨Nat.zero_le _, (by simp), hm, ?_⟩
   exact M
  rintro ⟨k4, u_13_4, l_13_4, m_40_4⟩ jj4 w13 ⟨hk4, hr4, hm4, M⟩
  have hoI9 := M.old
  refine wc_seq ?_
  refine wc_region ?_
  refine wl_m M (q_lss rfl rfl) rfl rfl ?_
  refine wl_nil ?_
  refine wc_seq ?_
  refine wc_dec rfl (fun ht52 => ?_) (fun ht52 => ?_)
  ·obtain ⟨x4, hx4⟩ : ∃ x_, b.finals[k4]? = some x_ := ⟨_, List.getElem?_eq_getElem (by omega)⟩
   have hll4 := ((Rf2.mono hI9)).len_le
   refine wc_skip ?_
   refine wc_seq ?_
   refine wc_block ?_
   refine wc_seq ?_
   refine wc_region ?_
   refine wl_ix (j := k4) M (Rf2.mono hI9) Tryz.underlying22 rfl rfl hx4 rfl (fun b53 o53 p53 => ?_)
   refine wl_m M (q_ldp p53 rfl rfl) rfl rfl ?_
   refine wl_as M rfl rfl ?_
   refine wl_nil ?_
   refine wc_seq ?_
   refine wc_region ?_
   refine wl_mv M rfl rfl ?_
   refine wl_mv M rfl rfl ?_
   refine wl_m M (q_build (bd_117_0_1 _ _) ⟨⟨rfl, rfl⟩, ⟨rfl, rfl⟩, trivial⟩) rfl rfl ?_
   refine wl_e (e_alloc M z117) rfl rfl ?_
   rintro _ w14 ⟨b18, rfl, M⟩
   refine wl_e0 (e_stW 0 M rfl rfl rfl sz117 rfl rfl) rfl ?_
   intro _ w15 M
   simp only [sC0, sCS] at M
   refine wl_nil ?_
   refine wc_seq ?_
   refine wc_region ?_
   refine wl_mv M rfl rfl ?_
   refine wl_m M (q_ldbA 0 Tryz.underlying117 rfl sz117 rfl rfl rfl rfl) rfl rfl ?_
   refine wl_m M (q_lkI (k := (Pair.mk x2 x4)) (z := false) (R4.mono hI9) Tryz.underlying112 zv4 rfl rfl) rfl rfl ?_
   refine wl_nil ?_
   refine wc_cond rfl (fun ht60 => ?_) (fun ht60 => ?_)
   ·have hin : (Pair.mk x2 x4) ∈ K := by rw [aget_tr] at ht60; simpa using ht60
    have hnew : (Pair.mk x2 x4) ∉ l_13_4 := by
      rw [hr4, hr]
      intro h
      rcases List.mem_append.1 h with h | h
      · obtain ⟨p, hp, h⟩ := List.mem_flatMap.1 h
        have e : x2 = p := (mem_fsel.1 h).1
        exact nodup_take_not hfa hx2 (by rw [e]; exact hp)
      · obtain ⟨q, hq, h⟩ := List.mem_flatMap.1 h
        have e : x4 = q := congrArg Pair.q (mem_fq.1 h).1
        exact nodup_take_not hfb hx4 (by rw [e]; exact hq)
    refine wc_seq ?_
    refine wc_region ?_
    refine wl_mv M rfl rfl ?_
    refine wl_m M (q_ldbA 0 Tryz.underlying117 rfl sz117 rfl rfl rfl rfl) rfl rfl ?_
    refine wl_e0 (e_mpu (k := (Pair.mk x2 x4)) (v := true) 2 M rfl Tryz.underlying112 rfl rfl rfl) rfl ?_
    intro _ w16 M
    simp only [sC0, sCS] at M
    refine wl_nil ?_
    refine wc_region ?_
    refine wl_mv M rfl rfl ?_
    refine wl_m M (q_ldbA 0 Tryz.underlying117 rfl sz117 rfl rfl rfl rfl) rfl rfl ?_
    refine wl_e (e_bsI (E := EPair) (xs := [(Pair.mk x2 x4)]) M (bs_118_1 _ _) ⟨⟨rfl, rfl⟩, trivial⟩ rfl rfl (by decide)) rfl rfl ?_
    rintro _ w17 ⟨u65, J65, rfl, hJ65, R65, M⟩
    have hoJ65 := M.old
    refine wl_e (e_app 1 M rfl R65 Tryz.underlying118 rfl rfl (by have := take_flat_len (fsel_len K b.finals) a.finals k2; have := take_flat_len (fq_len K x2) b.finals k4; rw [hr4, hr, List.length_append]; show (_ + 1) * 16 ≤ _; omega)) rfl rfl ?_
    rintro _ w18 ⟨u66, rfl, M⟩
    replace M := M.less hJ65 hoI9
    simp only [sC0, sCS] at M
    refine wl_as M rfl rfl ?_
    refine wl_nil ?_
    refine wc_region ?_
    refine wl_m M (q_add rfl rfl (IntWalk.i64_in _ (by omega))) rfl rfl ?_
    refine wl_mv M rfl rfl ?_
    refine wl_nil ?_
    replace M := M.drop 0
    refine ⟨(k4 + 1, u66, l_13_4 ++ [(Pair.mk x2 x4)], aput m_40_4 (Pair.mk x2 x4) true), ?_, ⟨(by omega), (by rw [take_flat hx4, hr4]; simp [fq, hin]), (by rw [hm4, aput_tr hnew]), M⟩, ⟨rfl, rfl, trivial⟩, unw_look rfl unw_base⟩
    show b.finals.length - (k4 + 1) < b.finals.length - k4
    omega
   have hin : (Pair.mk x2 x4) ∉ K := by rw [aget_tr] at ht60; simpa using ht60
   refine wc_skip ?_
   refine wc_region ?_
   refine wl_m M (q_add rfl rfl (IntWalk.i64_in _ (by omega))) rfl rfl ?_
   refine wl_mv M rfl rfl ?_
   refine wl_nil ?_
   replace M := M.drop 0
   refine ⟨(k4 + 1, u_13_4, l_13_4, m_40_4), ?_, ⟨(by omega), (by rw [take_flat hx4, hr4]; simp [fq, hin]), hm4, M⟩, ⟨rfl, rfl, trivial⟩, unw_look rfl unw_base⟩
   show b.finals.length - (k4 + 1) < b.finals.length - k4
   omega
  have hke4 : k4 = b.finals.length := by omega
  rw [hke4, List.take_length] at hr4
  refine wc_exit rfl ?_
  refine wc_region ?_
  refine wl_m M (q_add rfl rfl (IntWalk.i64_in _ (by omega))) rfl rfl ?_
  refine wl_mv M rfl rfl ?_
  refine wl_nil ?_
  refine ⟨(k2 + 1, u_13_4, l_13_4, m_40_4), ?_, ⟨(by omega), (by rw [take_flat hx2, hr4, hr]; rfl), hm4, M⟩, ⟨rfl, rfl, trivial⟩, unw_look rfl (unw_hav rfl (unw_look rfl unw_base))⟩
  show a.finals.length - (k2 + 1) < a.finals.length - k2
  omega
 have hke2 : k2 = a.finals.length := by omega
 rw [hke2, List.take_length] at hr
 refine wc_exit rfl ?_
 refine wc_seq ?_
 refine wc_block ?_
 refine wc_loop (α := (List Pair) × SV × (List Pair) × (List (Pair × Bool))) [13, 19, 21, 69, 70, 71, 72, 73, 74, 75, 76, 77, 78, 79, 80, 81, 82, 83, 84, 85, 86, 87, 88, 89, 90, 91, 92, 93, 94, 95] (fun ((vs, u_13_6, l_13_6, m_40_6) : (List Pair) × SV × (List Pair) × (List (Pair × Bool))) => [(13, sv u_13_6)])
   (fun ((vs, u_13_6, l_13_6, m_40_6) : (List Pair) × SV × (List Pair) × (List (Pair × Bool))) w' => (Bfs (bk ls) (· ∈ a.finals.flatMap (fsel K b.finals)) vs l_13_6) ∧ (m_40_6 = tr (vs ++ l_13_6)) ∧ Mem w I I9 (row EPair (sv u_13_6) l_13_6 :: mpr QPair Value.bool b40 m_40_6 :: box b5 25 [.int .i64 b.states, .int .i64 b.start, sv fu2, sv au2] :: box b4 25 [.int .i64 a.states, .int .i64 a.start, sv fu1, sv au1] :: []) w')
   (fun ((vs, u_13_6, l_13_6, m_40_6) : (List Pair) × SV × (List Pair) × (List (Pair × Bool))) => K.length - vs.length) ([], u_13_2, l_13_2, m_40_2) ⟨rfl, trivial⟩ ?_ ?_
 ·refine ⟨(by rw [hr]; exact Bfs.inits _ hFL), (by rw [hm]; rfl), ?_⟩
  exact M
 rintro ⟨vs, u_13_6, l_13_6, m_40_6⟩ jj6 w19 ⟨hB, hm6, M⟩
 have hoI9 := M.old
 refine wc_seq ?_
 refine wc_seq ?_
 refine wc_region ?_
 refine wl_mv M rfl rfl ?_
 refine wl_m M (q_lenr 0 M rfl Tryz.underlying118 rfl) rfl rfl ?_
 refine wl_m M (q_gtr rfl rfl) rfl rfl ?_
 refine wl_nil ?_
 refine wc_dec rfl (fun ht71 => ?_) (fun ht71 => ?_)
 ·obtain ⟨x, qs, hq⟩ : ∃ (x : Pair) (qs : List Pair), l_13_6 = x :: qs := by
    cases l_13_6 with
    | nil => simp at ht71
    | cons x qs => exact ⟨x, qs, rfl⟩
  refine wc_skip ?_
  refine wc_block ?_
  refine wc_seq ?_
  refine wc_region ?_
  refine wl_mv M rfl rfl ?_
  refine wl_ixr (j := 0) 0 M rfl Tryz.underlying118 rfl rfl (by rw [hq]; rfl) rfl (fun b73 o73 p73 => ?_)
  refine wl_m M (q_ldp p73 rfl rfl) rfl rfl ?_
  refine wl_e (e_alloc M z117) rfl rfl ?_
  rintro _ w20 ⟨b19, rfl, M⟩
  refine wl_e0 (e_stW 0 M rfl rfl rfl sz117 rfl rfl) rfl ?_
  intro _ w21 M
  simp only [sC0, sCS] at M
  refine wl_nil ?_
  refine wc_seq ?_
  refine wc_region ?_
  refine wl_mv M rfl rfl ?_
  refine wl_e (e_cut (k := 1) 1 M rfl Tryz.underlying118 rfl rfl (by omega)) rfl rfl ?_
  rintro _ w22 ⟨u76, rfl, M⟩
  simp only [sC0, sCS] at M
  refine wl_as M rfl rfl ?_
  refine wl_nil ?_
  refine wc_seq ?_
  refine wc_region ?_
  refine wl_mv M rfl rfl ?_
  refine wl_m M (q_ldbA 0 Tryz.underlying117 rfl sz117 rfl rfl rfl rfl) rfl rfl ?_
  refine wl_lkg (k := x) M Rb Tryz.underlying172 zv118 rfl rfl rfl (fun u79 R79 => ?_)
  rw [grp_look] at R79
  replace R79 : rdSl EPair I9 (sv u79) (bk ls x) := R79
  refine wl_m M (q_lenR R79 Tryz.underlying118 rfl) rfl rfl ?_
  refine wl_mv M rfl rfl ?_
  refine wl_nil ?_
  refine wc_block ?_
  refine wc_loop (α := Nat × SV × (List Pair) × (List (Pair × Bool))) [13, 21, 81, 82, 83, 84, 85, 86, 87, 88, 89, 90, 91, 92, 93, 94, 95] (fun ((k8, u_13_8, l_13_8, m_40_8) : Nat × SV × (List Pair) × (List (Pair × Bool))) => [(81, .int .i64 (k8 : Int)), (13, sv u_13_8)])
    (fun ((k8, u_13_8, l_13_8, m_40_8) : Nat × SV × (List Pair) × (List (Pair × Bool))) w' => (k8 ≤ (bk ls x).length) ∧ (BfsIn (bk ls) (· ∈ a.finals.flatMap (fsel K b.finals)) vs x ((bk ls x).take k8) l_13_8) ∧ (m_40_8 = tr (vs ++ x :: l_13_8)) ∧ Mem w I I9 (box b19 117 [.int .i64 x.p, .int .i64 x.q] :: row EPair (sv u_13_8) l_13_8 :: mpr QPair Value.bool b40 m_40_8 :: box b5 25 [.int .i64 b.states, .int .i64 b.start, sv fu2, sv au2] :: box b4 25 [.int .i64 a.states, .int .i64 a.start, sv fu1, sv au1] :: []) w')
    (fun ((k8, u_13_8, l_13_8, m_40_8) : Nat × SV × (List Pair) × (List (Pair × Bool))) => (bk ls x).length - k8) (0, u76, l_13_6.drop 1, m_40_6) ⟨rfl, rfl, trivial⟩ ?_ ?_
  ·refine ⟨Nat.zero_le _, (by have := hB; rw [hq] at this; rw [hq]; exact this.opn), (by rw [hm6, hq]; rfl), ?_⟩
   exact M
  rintro ⟨k8, u_13_8, l_13_8, m_40_8⟩ jj8 w23 ⟨hk8, hB2, hm8, M⟩
  have hoI9 := M.old
  refine wc_seq ?_
  refine wc_region ?_
  refine wl_m M (q_lss rfl rfl) rfl rfl ?_
  refine wl_nil ?_
  refine wc_seq ?_
  refine wc_dec rfl (fun ht82 => ?_) (fun ht82 => ?_)
  ·obtain ⟨x8, hx8⟩ : ∃ x_, (bk ls x)[k8]? = some x_ := ⟨_, List.getElem?_eq_getElem (by omega)⟩
   have hll8 := (R79).len_le
   refine wc_skip ?_
   refine wc_seq ?_
   refine wc_block ?_
   refine wc_seq ?_
   refine wc_region ?_
   refine wl_ix (j := k8) M R79 Tryz.underlying118 rfl rfl hx8 rfl (fun b83 o83 p83 => ?_)
   refine wl_m M (q_ldp p83 rfl rfl) rfl rfl ?_
   refine wl_e (e_alloc M z117) rfl rfl ?_
   rintro _ w24 ⟨b21, rfl, M⟩
   refine wl_e0 (e_stW 0 M rfl rfl rfl sz117 rfl rfl) rfl ?_
   intro _ w25 M
   simp only [sC0, sCS] at M
   refine wl_nil ?_
   refine wc_seq ?_
   refine wc_region ?_
   refine wl_mv M rfl rfl ?_
   refine wl_m M (q_ldbA 0 Tryz.underlying117 rfl sz117 rfl rfl rfl rfl) rfl rfl ?_
   refine wl_m M (q_lk (k := x8) (z := false) 3 rfl Tryz.underlying112 zv4 rfl rfl) rfl rfl ?_
   refine wl_m M (q_not rfl) rfl rfl ?_
   refine wl_nil ?_
   refine wc_cond rfl (fun ht88 => ?_) (fun ht88 => ?_)
   ·have hnk : x8 ∉ vs ++ x :: l_13_8 := by rw [hm8, aget_tr] at ht88; exact nd_t ht88
    refine wc_seq ?_
    refine wc_region ?_
    refine wl_mv M rfl rfl ?_
    refine wl_m M (q_ldbA 0 Tryz.underlying117 rfl sz117 rfl rfl rfl rfl) rfl rfl ?_
    refine wl_e0 (e_mpu (k := x8) (v := true) 3 M rfl Tryz.underlying112 rfl rfl rfl) rfl ?_
    intro _ w26 M
    simp only [sC0, sCS] at M
    refine wl_nil ?_
    refine wc_region ?_
    refine wl_mv M rfl rfl ?_
    refine wl_m M (q_ldbA 0 Tryz.underlying117 rfl sz117 rfl rfl rfl rfl) rfl rfl ?_
    refine wl_e (e_bsI (E := EPair) (xs := [x8]) M (bs_118_1 _ _) ⟨⟨rfl, rfl⟩, trivial⟩ rfl rfl (by decide)) rfl rfl ?_
    rintro _ w27 ⟨u93, J93, rfl, hJ93, R93, M⟩
    have hoJ93 := M.old
    refine wl_e (e_app 2 M rfl R93 Tryz.underlying118 rfl rfl (by have := hB2.len (U := K) hRK; show (_ + 1) * 16 ≤ _; omega)) rfl rfl ?_
    rintro _ w28 ⟨u94, rfl, M⟩
    replace M := M.less hJ93 hoI9
    simp only [sC0, sCS] at M
    refine wl_as M rfl rfl ?_
    refine wl_nil ?_
    refine wc_region ?_
    refine wl_m M (q_add rfl rfl (IntWalk.i64_in _ (by omega))) rfl rfl ?_
    refine wl_mv M rfl rfl ?_
    refine wl_nil ?_
    replace M := M.drop 0
    refine ⟨(k8 + 1, u94, l_13_8 ++ [x8], aput m_40_8 x8 true), ?_, ⟨(by omega), (by rw [take_snoc hx8]; exact hB2.push hnk (List.mem_of_getElem? hx8)), (by rw [hm8, aput_tr hnk]; congr 1; simp), M⟩, ⟨rfl, rfl, trivial⟩, unw_look rfl unw_base⟩
    show (bk ls x).length - (k8 + 1) < (bk ls x).length - k8
    omega
   have hnk : x8 ∈ vs ++ x :: l_13_8 := by rw [hm8, aget_tr] at ht88; exact nd_f ht88
   refine wc_skip ?_
   refine wc_region ?_
   refine wl_m M (q_add rfl rfl (IntWalk.i64_in _ (by omega))) rfl rfl ?_
   refine wl_mv M rfl rfl ?_
   refine wl_nil ?_
   replace M := M.drop 0
   refine ⟨(k8 + 1, u_13_8, l_13_8, m_40_8), ?_, ⟨(by omega), (by rw [take_snoc hx8]; exact hB2.known hnk), hm8, M⟩, ⟨rfl, rfl, trivial⟩, unw_look rfl unw_base⟩
   show (bk ls x).length - (k8 + 1) < (bk ls x).length - k8
   omega
  have hke8 : k8 = (bk ls x).length := by omega
  rw [hke8, List.take_length] at hB2
  refine wc_exit rfl ?_
  replace M := M.drop 0
  refine ⟨(vs ++ [x], u_13_8, l_13_8, m_40_8), ?_, ⟨hB2.close (fun y hy => hy), (by rw [hm8]; congr 1; simp), M⟩, ⟨rfl, trivial⟩, unw_look rfl (unw_hav rfl (unw_look rfl unw_base))⟩
  show K.length - (vs ++ [x]).length < K.length - vs.length
  have := (hB2.close (fun y hy => hy)).len (U := K) hRK
  simp only [List.length_append, List.length_cons, List.length_nil] at this ⊢
  omega
 obtain rfl : l_13_6 = [] := by cases l_13_6 with | nil => rfl | cons x l => simp at ht71
 rw [List.append_nil] at hm6
 refine wc_exit rfl ?_
 refine wc_seq ?_
 refine wc_region ?_
 refine wl_mv M rfl rfl ?_
 refine wl_as M rfl rfl ?_
 refine wl_nil ?_
 refine wc_ret ?_
 obtain ⟨I3, M, hI3, R5⟩ := M.frzMp 1 rfl
 rw [hm6] at R5
 exact out1 rfl rfl ⟨_, I3, rfl, (M.grow : Grow w I _ I3), vs, R5, hB.fin.congr fun x => mem_sel⟩
end Go.Proofs.YtmjieefhjmiagaaGreatDoor.G
