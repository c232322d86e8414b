/- Walks of the program's functions. -/
import Derived.Test.YtmjieefhjmiagaaGreatDoorWA
import Derived.Test.YtmjieefhjmiagaaGreatDoorGRls
set_option linter.all false
namespace Go.Proofs.YtmjieefhjmiagaaGreatDoor.G
open Go Go.RowKit
theorem index_i32_c {xs : List Int} {x : Int} {u : SV} {I : Heap} {w : World} (hI : hle I (hp w)) (R0 : rdSl ERune I (sv u) xs) : Calls A 102 #[sv u, .int .i32 x] w (Ret w I fun r _ => r = .int .i64 (idxI xs x)) := by
 have M := Mem.start hI
 refine enter Tryz.func102 rfl 19 Tryz.ntmps102 [_, _] rfl ?_
 refine wc_seq ?_
 refine wc_region ?_
 refine wl_as M rfl rfl ?_
 refine wl_nil ?_
 refine wc_seq ?_
 refine wc_seq ?_
 refine wc_region ?_
 refine wl_mv M rfl rfl ?_
 refine wl_m M (q_lenR R0 Tryz.underlying29 rfl) rfl rfl ?_
 refine wl_mv M rfl rfl ?_
 refine wl_nil ?_
 refine wc_block ?_
 refine wc_loop (α := Nat) [4, 5, 8, 9, 10, 11, 12, 13, 14, 15, 16, 17, 18] (fun (k0 : Nat) => [(8, .int .i64 (k0 : Int))])
   (fun (k0 : Nat) w' => (k0 ≤ xs.length) ∧ (x ∉ xs.take k0) ∧ Mem w I I ([]) w')
   (fun (k0 : Nat) => xs.length - k0) (0) ⟨rfl, trivial⟩ ?_ ?_
 ·refine ⟨Nat.zero_le _, by simp, ?_⟩
  exact M
 rintro k0 jj0 w1 ⟨hk0, hn, M⟩
 refine wc_seq ?_
 refine wc_region ?_
 refine wl_m M (q_lss rfl rfl) rfl rfl ?_
 refine wl_nil ?_
 refine wc_seq ?_
 refine wc_dec rfl (fun ht9 => ?_) (fun ht9 => ?_)
 ·obtain ⟨x0, hx0⟩ : ∃ x_, xs[k0]? = some x_ := ⟨_, List.getElem?_eq_getElem (by omega)⟩
  have hll0 := (R0).len_le
  refine wc_skip ?_
  refine wc_seq ?_
  refine wc_block ?_
  refine wc_seq ?_
  refine wc_region ?_
  refine wl_mv M rfl rfl ?_
  refine wl_as M rfl rfl ?_
  refine wl_nil ?_
  refine wc_seq ?_
  refine wc_region ?_
  refine wl_mv M rfl rfl ?_
  refine wl_mv M rfl rfl ?_
  refine wl_mv M rfl rfl ?_
  refine wl_ix (j := k0) M R0 Tryz.underlying29 rfl rfl hx0 rfl (fun b14 o14 p14 => ?_)
  refine wl_m M (q_ldp p14 rfl rfl) rfl rfl ?_
  refine wl_m M (q_eql rfl rfl) rfl rfl ?_
  refine wl_nil ?_
  refine wc_dec rfl (fun ht16 => ?_) (fun ht16 => ?_)
  ·refine wc_seq ?_
   refine wc_region ?_
   refine wl_mv M rfl rfl ?_
   refine wl_as M rfl rfl ?_
   refine wl_nil ?_
   refine wc_ret ?_
   exact out1 rfl rfl ⟨_, _, rfl, M.grow, by rw [idxI_at (ht16 ▸ hx0) hn]⟩
  refine wc_skip ?_
  refine wc_region ?_
  refine wl_m M (q_add rfl rfl (IntWalk.i64_in _ (by omega))) rfl rfl ?_
  refine wl_mv M rfl rfl ?_
  refine wl_nil ?_
  refine ⟨(k0 + 1), ?_, ⟨(by omega), (by rw [take_snoc hx0]; simp only [List.mem_append, List.mem_singleton, not_or]; exact ⟨hn, ht16⟩), M⟩, ⟨rfl, trivial⟩, unw_look rfl unw_base⟩
  show xs.length - (k0 + 1) < xs.length - k0
  omega
 have hke0 : k0 = xs.length := by omega
 rw [hke0, List.take_length] at hn
 refine wc_exit rfl ?_
 refine wc_seq ?_
 refine wc_region ?_
 refine wl_as M rfl rfl ?_
 refine wl_nil ?_
 refine wc_ret ?_
 exact out1 rfl rfl ⟨_, _, rfl, M.grow, by rw [idxI, if_neg hn]⟩
theorem contains_i32_c {xs : List Int} {x : Int} {u : SV} {I : Heap} {w : World} (hI : hle I (hp w)) (R0 : rdSl ERune I (sv u) xs) : Calls A 69 #[sv u, .int .i32 x] w (Ret w I fun r _ => r = .bool (decide (x ∈ xs))) := by
 have M := Mem.start hI
 refine enter Tryz.func69 rfl 9 Tryz.ntmps69 [_, _] rfl ?_
 refine wc_seq ?_
 refine wc_region ?_
 refine wl_as M rfl rfl ?_
 refine wl_nil ?_
 refine wc_seq ?_
 refine wc_region ?_
 refine wl_mv M rfl rfl ?_
 refine wl_mv M rfl rfl ?_
 refine wl_e (e_callC M (index_i32_c M.imm R0) Tryz.func102 rfl rfl) rfl rfl ?_
 rintro _ w1 ⟨J7, hJ7, rfl, M⟩
 replace M := M.less hJ7 (fun _ _ => rfl)
 refine wl_m M (q_geq rfl rfl) rfl rfl ?_
 refine wl_as M rfl rfl ?_
 refine wl_nil ?_
 refine wc_ret ?_
 exact out1 rfl rfl ⟨_, _, rfl, M.grow, by rw [idxI_nn]⟩
theorem leavingT_c (t : Tra) (m : Nat) (hm : t.states = m) (hmb : m ≤ 512) (ha : ∀ x ∈ t.arcs, 0 ≤ x.src ∧ x.src < m) (hal : t.arcs.length ≤ 4096) {v : Value} {I : Heap} {w : World} (hI : hle I (hp w)) (R : t.rd I v) :
    Calls A 35 #[v] w (Ret w I fun r I' => rdMat EArc VArc I' r (lv m t.arcs)) := by
 obtain ⟨fu, au, rfl, Rf, Ra⟩ := R
 have M := Mem.start hI
 refine enter Tryz.func35 rfl 30 Tryz.ntmps35 [_] rfl ?_
 refine wc_seq ?_
 refine wc_region ?_
 refine wl_e (e_box M rfl) rfl rfl ?_
 rintro _ w1 ⟨b1, rfl, M⟩
 refine wl_as M rfl rfl ?_
 refine wl_nil ?_
 refine wc_seq ?_
 refine wc_region ?_
 refine wl_m M (q_fa fo_25_0 rfl) rfl rfl ?_
 refine wl_m M (q_ldb 0 Tryz.underlying3 rfl rfl rfl rfl) rfl rfl ?_
 refine wl_e (e_make (E := VArc) (zv := nilV) (m := m) M Tryz.underlying75 z23 (by rw [hm]; rfl) (by rw [hm]; rfl) (by show _ * 24 ≤ _; omega)) rfl rfl ?_
 rintro _ w2 ⟨u8, rfl, M⟩
 replace M := M.toMat 0 EArc rfl
 simp only [sC0, sCS] at M
 refine wl_as M rfl rfl ?_
 refine wl_nil ?_
 refine wc_seq ?_
 refine wc_seq ?_
 refine wc_region ?_
 refine wl_m M (q_fa fo_25_3 rfl) rfl rfl ?_
 refine wl_m M (q_ldb 1 Tryz.underlying23 rfl rfl rfl rfl) rfl rfl ?_
 refine wl_m M (q_lenR Ra Tryz.underlying23 rfl) rfl rfl ?_
 refine wl_mv M rfl rfl ?_
 refine wl_nil ?_
 refine wc_block ?_
 refine wc_loop (α := Nat × (List SV) × (List (List Arc))) [5, 12, 13, 14, 15, 16, 17, 18, 19, 20, 21, 22, 23, 24, 25, 26, 27, 28] (fun ((k0, vs_8_0, xss_8_0) : Nat × (List SV) × (List (List Arc))) => [(12, .int .i64 (k0 : Int))])
   (fun ((k0, vs_8_0, xss_8_0) : Nat × (List SV) × (List (List Arc))) w' => (k0 ≤ t.arcs.length) ∧ (vs_8_0.length = m) ∧ (xss_8_0 = lv m (t.arcs.take k0)) ∧ Mem w I I (mat EArc VArc (sv u8) vs_8_0 vs_8_0 xss_8_0 :: box b1 25 [.int .i64 t.states, .int .i64 t.start, sv fu, sv au] :: []) w')
   (fun ((k0, vs_8_0, xss_8_0) : Nat × (List SV) × (List (List Arc))) => t.arcs.length - k0) (0, List.replicate m nilV, List.replicate m []) ⟨rfl, trivial⟩ ?_ ?_
 ·refine ⟨Nat.zero_le _, (by simp), (by simp [lv_nil]), ?_⟩
  exact M
 rintro ⟨k0, vs_8_0, xss_8_0⟩ jj0 w3 ⟨hk0, hl, hx, M⟩
 refine wc_seq ?_
 refine wc_region ?_
 refine wl_m M (q_lss rfl rfl) rfl rfl ?_
 refine wl_nil ?_
 refine wc_seq ?_
 refine wc_dec rfl (fun ht13 => ?_) (fun ht13 => ?_)
 ·obtain ⟨x0, hx0⟩ : ∃ x_, t.arcs[k0]? = some x_ := ⟨_, List.getElem?_eq_getElem (by omega)⟩
  have hll0 := (Ra).len_le
  have hxm : x0 ∈ t.arcs := List.mem_of_getElem? hx0
  obtain ⟨s, hs⟩ : ∃ s : Nat, x0.src = (s : Int) := ⟨x0.src.toNat, by have := ha x0 hxm; omega⟩
  have hsm : s < m := by have := ha x0 hxm; omega
  have hvl : vs_8_0[s]? = some vs_8_0[s] := List.getElem?_eq_getElem (by omega)
  refine wc_skip ?_
  refine wc_seq ?_
  refine wc_block ?_
  refine wc_seq ?_
  refine wc_region ?_
  refine wl_ix (j := k0) M Ra Tryz.underlying23 rfl rfl hx0 rfl (fun b14 o14 p14 => ?_)
  refine wl_m M (q_ldp p14 rfl rfl) rfl rfl ?_
  refine wl_e (e_alloc M z51) rfl rfl ?_
  rintro _ w4 ⟨b5, rfl, M⟩
  refine wl_e0 (e_stW 0 M rfl rfl rfl sz51 rfl rfl) rfl ?_
  intro _ w5 M
  simp only [sC0, sCS] at M
  refine wl_nil ?_
  refine wc_draws (fun w' => Mem w I I (box b5 51 [.int .i64 x0.src, .int .i64 x0.dst, .int .i32 x0.inp, .int .i32 x0.out] :: box b1 25 [.int .i64 t.states, .int .i64 t.start, sv fu, sv au] :: []) w' ∧ rdSl VArc (hp w') (sv u8) vs_8_0) [12] fol ?_
  replace M := M.drew
  have hS := (⟨(M.drop 1), M.matOut (i := 1) rfl⟩ : _ ∧ _)
  refine wa_q 0 rfl (by kernel_rfl) (q_move rfl) hS rfl rfl ?_
  refine wa_q 1 rfl (by kernel_rfl) (q_fa fo_51_0 rfl) hS rfl rfl ?_
  refine wa_q 2 rfl (by kernel_rfl) ((q_ldb 0 Tryz.underlying3 rfl rfl rfl rfl).mono fun _ h => h.1) hS rfl rfl ?_
  refine wa_q 3 rfl (by kernel_rfl) (q_move rfl) hS rfl rfl ?_
  refine wa_q 4 rfl (by kernel_rfl) (q_fa fo_51_0 rfl) hS rfl rfl ?_
  refine wa_q 5 rfl (by kernel_rfl) ((q_ldb 0 Tryz.underlying3 rfl rfl rfl rfl).mono fun _ h => h.1) hS rfl rfl ?_
  refine wa_ixS (j := s) 6 hS (fun _ h => h.2) rfl (by kernel_rfl) Tryz.underlying75 rfl (by rw [hs]; rfl) hvl rfl (fun b22 o22 p22 => ?_)
  refine wa_q 7 rfl (by kernel_rfl) (q_ldp p22 rfl rfl) hS rfl rfl ?_
  refine wa_q 8 rfl (by kernel_rfl) ((q_ldbA 0 Tryz.underlying51 rfl sz51 rfl rfl rfl rfl).mono fun _ h => h.1) hS rfl rfl ?_
  refine wa_e 9 rfl (by kernel_rfl) (e_bsI (E := EArc) (xs := [x0]) M (bs_23_1 _ _ _ _) ⟨⟨rfl, rfl⟩, trivial⟩ rfl rfl (by decide)) rfl rfl ?_
  rintro _ w6 ⟨u25, J25, rfl, hJ25, R25, M⟩
  have hoJ25 := M.old
  have hS := (⟨((M.less hJ25 (fun _ _ => rfl)).drop 1), M.matOut (i := 1) rfl⟩ : _ ∧ _)
  refine ⟨fun _ => hS, ?_⟩
  refine wa_e 10 rfl (by kernel_rfl) (e_appm 1 s M rfl Tryz.underlying23 hvl (by rw [hx]; exact lv_at hsm) rfl rfl R25 (by have := lv_le m (t.arcs.take k0) s; show (_ + 1) * 24 ≤ _; simp only [List.length_take] at this; omega)) rfl rfl ?_
  rintro _ w7 ⟨u26, rfl, M⟩
  simp only [sC0, sCS] at M
  have hS := (⟨((M.less hJ25 (fun _ _ => rfl)).drop 1), M.matOut (i := 1) rfl⟩ : _ ∧ _)
  refine ⟨fun _ => hS, ?_⟩
  replace M := M.less hJ25 (fun _ _ => rfl)
  refine wa_ixmw (j := s) 11 1 M hS rfl rfl (by kernel_rfl) Tryz.underlying75 rfl (by rw [hs]; rfl) (by omega) rfl (fun b27 o27 p27 => ?_)
  refine wa_e0 12 rfl (by kernel_rfl) (e_stm 1 M rfl rfl rfl p27 (by omega) rfl) rfl ?_
  intro _ w8 M
  simp only [sC0, sCS] at M
  refine ⟨nofun, ?_⟩
  refine wa_done (by kernel_rfl) ?_
  refine wc_region ?_
  refine wl_m M (q_add rfl rfl (IntWalk.i64_in _ (by omega))) rfl rfl ?_
  refine wl_mv M rfl rfl ?_
  refine wl_nil ?_
  replace M := M.drop 0
  have e1 : t.arcs.take (k0 + 1) = t.arcs.take k0 ++ [x0] := by rw [List.take_add_one, hx0]; rfl
  refine ⟨(k0 + 1, vs_8_0.set s u26, xss_8_0.set s (((t.arcs.take k0).filter fun y => y.src = (s : Int)) ++ [x0])), ?_, ⟨(by omega), (by simp [hl]), (by rw [hx, e1, lv_snoc hs hsm]), M⟩, ⟨rfl, trivial⟩, unw_look rfl unw_base⟩
  show t.arcs.length - (k0 + 1) < t.arcs.length - k0
  omega
 have hke0 : k0 = t.arcs.length := by omega
 rw [hke0, List.take_length] at hx; subst hx
 refine wc_exit rfl ?_
 refine wc_seq ?_
 refine wc_region ?_
 refine wl_mv M rfl rfl ?_
 refine wl_as M rfl rfl ?_
 refine wl_nil ?_
 refine wc_ret ?_
 obtain ⟨I2, M, hI2, Rm⟩ := M.frzMat 0 rfl
 exact out1 rfl rfl ⟨_, I2, rfl, M.grow, Rm⟩
theorem readableT_c (s : ByteArray) (hs : s.size ≤ 70368744177664) {I : Heap} {w : World} (hI : hle I (hp w)) : Calls A 33 #[.string s] w (Ret w I fun r I' => ∃ u : SV, r = .tuple #[sv u, .bool (okT s)] ∧ rdSl ERune I' (sv u) (runesL s)) := by
 have M := Mem.start hI
 refine enter Tryz.func33 rfl 17 Tryz.ntmps33 [_] rfl ?_
 refine wc_seq ?_
 refine wc_region ?_
 refine wl_as M rfl rfl ?_
 refine wl_as M rfl rfl ?_
 refine wl_nil ?_
 refine wc_seq ?_
 refine wc_region ?_
 refine wl_mv M rfl rfl ?_
 refine wl_e (e_cvRI (E := ERune) (s := s) M (fun _ => rfl) Tryz.underlying9 Tryz.underlying29 Tryz.underlying21 hs rfl) rfl rfl ?_
 rintro v6 w1 ⟨J6, hJ6, R6, M⟩
 obtain ⟨u6, rfl⟩ := rdSl_slice R6
 have hoJ6 := M.old
 replace R6 : rdSl ERune J6 (sv u6) (runesL s) := R6
 refine wl_as M rfl rfl ?_
 refine wl_nil ?_
 refine wc_seq ?_
 refine wc_join (α := Unit) [2, 3, 7, 8, 9, 10, 11, 12, 13, 14, 15, 16] (fun _ => [(2, sv u6), (3, .bool ((decide ((strL (runesL s)) = s)) && (!(decide ((0 : Int) ∈ runesL s)))))]) (fun _ w' => Mem w I J6 ([]) w') ?_ ?_
 ·refine wc_region ?_
  refine wl_mv M rfl rfl ?_
  refine wl_mv M rfl rfl ?_
  refine wl_m M (q_cvS (E := ERune) (fun _ => rfl) rfl (fun _ M => R6.mono M.imm) Tryz.underlying29 Tryz.underlying21 Tryz.underlying9 rfl) rfl rfl ?_
  refine wl_mv M rfl rfl ?_
  refine wl_m M (q_eqlS rfl rfl) rfl rfl ?_
  refine wl_mv M rfl rfl ?_
  rcases Bool.eq_false_or_eq_true (decide ((strL (runesL s)) = s)) with hg12 | hg12
  ·refine wl_m M (q_guard 5 rfl rfl rfl hg12 (q_move rfl)) rfl rfl ?_
   refine wl_e (e_guard 5 rfl rfl rfl hg12 (e_callC M (contains_i32_c M.imm R6) Tryz.func69 rfl rfl)) rfl rfl ?_
   rintro _ w2 ⟨J14, hJ14, rfl, M⟩
   replace M := M.less hJ14 hoJ6
   refine wl_m M (q_guard 5 rfl rfl rfl hg12 (q_not rfl)) rfl rfl ?_
   refine wl_m M (q_pickT rfl hg12 rfl) rfl rfl ?_
   refine wl_as M rfl rfl ?_
   refine wl_as M rfl rfl ?_
   refine wl_nil ?_
   exact ⟨(), M, ⟨rfl, (show some (Value.bool (!(decide ((0 : Int) ∈ runesL s)))) = some (Value.bool ((decide ((strL (runesL s)) = s)) && (!(decide ((0 : Int) ∈ runesL s))))) from by first | (simp only [hg12, Bool.true_or, Bool.false_or, Bool.true_and, Bool.false_and, Bool.or_true, Bool.or_false, Bool.and_true, Bool.and_false]; done) | (simp_all; done) | (simp_all; omega)), trivial⟩, unw_take 12 rfl rfl⟩
  refine wl_m M (q_off 5 rfl rfl rfl hg12) rfl rfl ?_
  refine wl_m M (q_off 5 rfl rfl rfl hg12) rfl rfl ?_
  refine wl_m M (q_off 5 rfl rfl rfl hg12) rfl rfl ?_
  refine wl_m M (q_pickF rfl hg12 rfl) rfl rfl ?_
  refine wl_as M rfl rfl ?_
  refine wl_as M rfl rfl ?_
  refine wl_nil ?_
  exact ⟨(), M, ⟨rfl, (show some (Value.bool false) = some (Value.bool ((decide ((strL (runesL s)) = s)) && (!(decide ((0 : Int) ∈ runesL s))))) from by first | (simp only [hg12, Bool.true_or, Bool.false_or, Bool.true_and, Bool.false_and, Bool.or_true, Bool.or_false, Bool.and_true, Bool.and_false]; done) | (simp_all; done) | (simp_all; omega)), trivial⟩, unw_take 12 rfl rfl⟩
 rintro _ jr2 w3 M
 refine wc_ret ?_
 exact out2 rfl rfl rfl ⟨_, _, rfl, M.grow, u6, rfl, R6⟩
end Go.Proofs.YtmjieefhjmiagaaGreatDoor.G
