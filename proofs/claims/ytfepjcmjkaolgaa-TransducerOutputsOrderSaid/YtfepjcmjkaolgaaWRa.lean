/- Walks of the program's functions. -/
import Derived.Test.YtfepjcmjkaolgaaWA
import Derived.Test.YtfepjcmjkaolgaaGRls
set_option linter.all false
namespace Go.Proofs.Ytfepjcmjkaolgaa.G
open Go Go.RowKit
theorem index_i32_c {xs : List Int} {x : Int} {u : SV} {I : Heap} {w : World} (hI : hle I (hp w)) (R0 : rdSl ERune I (sv u) xs) : Calls A 79 #[sv u, .int .i32 x] w (Ret w I fun r _ => r = .int .i64 (idxI xs x)) := by
 have M := Mem.start hI
 refine enter Try.func79 rfl 19 Try.ntmps79 [_, _] rfl ?_
 refine wc_seq <| wc_region <| wl_as M rfl rfl <| wl_nil ?_
 refine wc_seq ?_
 refine wc_seq <| wc_region <| wl_mv M rfl rfl <| wl_m M (q_lenR R0 Try.underlying40 rfl) rfl rfl <| wl_mv M rfl rfl <| wl_nil <| wc_block ?_
 refine wc_loop (α := Nat) [4, 5, 8, 9, 10, 11, 12, 13, 14, 15, 16, 17, 18] (fun (k0 : Nat) => [(8, .int .i64 (k0 : Int))])
   (fun (k0 : Nat) w' => (k0 ≤ xs.length) ∧ (x ∉ xs.take k0) ∧ Mem w I I ([]) w')
   (fun (k0 : Nat) => xs.length - k0) (0) ⟨rfl, trivial⟩ ?_ ?_
 ·refine ⟨Nat.zero_le _, by simp, ?_⟩
  exact M
 rintro k0 jj0 w1 ⟨hk0, hn, M⟩
 refine wc_seq <| wc_region <| wl_m M (q_lss rfl rfl) rfl rfl <| wl_nil ?_
 refine wc_seq ?_
 refine wc_dec rfl (fun ht9 => ?_) (fun ht9 => ?_)
 ·obtain ⟨x0, hx0⟩ : ∃ x_, xs[k0]? = some x_ := ⟨_, List.getElem?_eq_getElem (by omega)⟩
  have hll0 := (R0).len_le
  refine wc_skip ?_
  refine wc_seq <| wc_block ?_
  refine wc_seq <| wc_region <| wl_mv M rfl rfl <| wl_as M rfl rfl <| wl_nil ?_
  refine wc_seq <| wc_region <| wl_mv M rfl rfl <| wl_mv M rfl rfl <| wl_mv M rfl rfl ?_
  refine wl_ix (j := k0) M R0 Try.underlying40 rfl rfl hx0 rfl (fun b14 o14 p14 => ?_)
  refine wl_m M (q_ldp p14 rfl rfl) rfl rfl <| wl_m M (q_eql rfl rfl) rfl rfl <| wl_nil ?_
  refine wc_dec rfl (fun ht16 => ?_) (fun ht16 => ?_)
  ·refine wc_seq <| wc_region <| wl_mv M rfl rfl <| wl_as M rfl rfl <| wl_nil <| wc_ret ?_
   exact out1 rfl rfl ⟨_, _, rfl, M.grow, by rw [idxI_at (ht16 ▸ hx0) hn]⟩
  refine wc_skip <| wc_region <| wl_m M (q_add rfl rfl (IntWalk.i64_in _ (by omega))) rfl rfl ?_
  refine wl_mv M rfl rfl <| wl_nil ?_
  refine ⟨(k0 + 1), ?_, ⟨(by omega), (by rw [take_snoc hx0]; simp only [List.mem_append, List.mem_singleton, not_or]; exact ⟨hn, ht16⟩), M⟩, ⟨rfl, trivial⟩, unw_look rfl unw_base⟩
  show xs.length - (k0 + 1) < xs.length - k0
  omega
 have hke0 : k0 = xs.length := by omega
 rw [hke0, List.take_length] at hn
 refine wc_exit rfl ?_
 refine wc_seq <| wc_region <| wl_as M rfl rfl <| wl_nil <| wc_ret ?_
 exact out1 rfl rfl ⟨_, _, rfl, M.grow, by rw [idxI, if_neg hn]⟩
theorem contains_i32_c {xs : List Int} {x : Int} {u : SV} {I : Heap} {w : World} (hI : hle I (hp w)) (R0 : rdSl ERune I (sv u) xs) : Calls A 69 #[sv u, .int .i32 x] w (Ret w I fun r _ => r = .bool (decide (x ∈ xs))) := by
 have M := Mem.start hI
 refine enter Try.func69 rfl 9 Try.ntmps69 [_, _] rfl ?_
 refine wc_seq <| wc_region <| wl_as M rfl rfl <| wl_nil ?_
 refine wc_seq <| wc_region <| wl_mv M rfl rfl <| wl_mv M rfl rfl <| wl_e (e_callC M (index_i32_c M.imm R0) Try.func79 rfl rfl) rfl rfl ?_
 rintro _ w1 ⟨J7, hJ7, rfl, M⟩
 replace M := M.less hJ7 (fun _ _ => rfl)
 refine wl_m M (q_geq rfl rfl) rfl rfl <| wl_as M rfl rfl <| wl_nil <| wc_ret ?_
 exact out1 rfl rfl ⟨_, _, rfl, M.grow, by rw [idxI_nn]⟩
theorem leavingT_c (t : Tra) (m : Nat) (hm : t.states = m) (hmb : m ≤ 512) (ha : ∀ x ∈ t.arcs, 0 ≤ x.src ∧ x.src < m) (hal : t.arcs.length ≤ 4096) {v : Value} {I : Heap} {w : World} (hI : hle I (hp w)) (R : t.rd I v) :
    Calls A 46 #[v] w (Ret w I fun r I' => rdMat EArc VArc I' r (lv m t.arcs)) := by
 obtain ⟨fu, au, rfl, Rf, Ra⟩ := R
 have M := Mem.start hI
 refine enter Try.func46 rfl 30 Try.ntmps46 [_] rfl ?_
 refine wc_seq <| wc_region <| wl_e (e_box M rfl) rfl rfl ?_
 rintro _ w1 ⟨b1, rfl, M⟩
 refine wl_as M rfl rfl <| wl_nil ?_
 refine wc_seq <| wc_region <| wl_m M (q_fa fo_25_0 rfl) rfl rfl <| wl_m M (q_ldb 0 Try.underlying3 rfl rfl rfl rfl) rfl rfl <| wl_e (e_make (E := VArc) (zv := nilV) (m := m) M Try.underlying79 z23 (by rw [hm]; rfl) (by rw [hm]; rfl) (by show _ * 24 ≤ _; omega)) rfl rfl ?_
 rintro _ w2 ⟨u8, rfl, M⟩
 replace M := M.toMat 0 EArc rfl
 simp only [sC0, sCS] at M
 refine wl_as M rfl rfl <| wl_nil ?_
 refine wc_seq ?_
 refine wc_seq <| wc_region <| wl_m M (q_fa fo_25_3 rfl) rfl rfl <| wl_m M (q_ldb 1 Try.underlying23 rfl rfl rfl rfl) rfl rfl <| wl_m M (q_lenR Ra Try.underlying23 rfl) rfl rfl <| wl_mv M rfl rfl <| wl_nil <| wc_block ?_
 refine wc_loop (α := Nat × (List SV) × (List (List Arc))) [5, 12, 13, 14, 15, 16, 17, 18, 19, 20, 21, 22, 23, 24, 25, 26, 27, 28] (fun ((k0, vs_8_0, xss_8_0) : Nat × (List SV) × (List (List Arc))) => [(12, .int .i64 (k0 : Int))])
   (fun ((k0, vs_8_0, xss_8_0) : Nat × (List SV) × (List (List Arc))) w' => (k0 ≤ t.arcs.length) ∧ (vs_8_0.length = m) ∧ (xss_8_0 = lv m (t.arcs.take k0)) ∧ Mem w I I (mat EArc VArc (sv u8) vs_8_0 vs_8_0 xss_8_0 :: box b1 25 [.int .i64 t.states, .int .i64 t.start, sv fu, sv au] :: []) w')
   (fun ((k0, vs_8_0, xss_8_0) : Nat × (List SV) × (List (List Arc))) => t.arcs.length - k0) (0, List.replicate m nilV, List.replicate m []) ⟨rfl, trivial⟩ ?_ ?_
 ·refine ⟨Nat.zero_le _, (by simp), (by simp [lv_nil]), ?_⟩
  exact M
 rintro ⟨k0, vs_8_0, xss_8_0⟩ jj0 w3 ⟨hk0, hl, hx, M⟩
 refine wc_seq <| wc_region <| wl_m M (q_lss rfl rfl) rfl rfl <| wl_nil ?_
 refine wc_seq ?_
 refine wc_dec rfl (fun ht13 => ?_) (fun ht13 => ?_)
 ·obtain ⟨x0, hx0⟩ : ∃ x_, t.arcs[k0]? = some x_ := ⟨_, List.getElem?_eq_getElem (by omega)⟩
  have hll0 := (Ra).len_le
  have hxm : x0 ∈ t.arcs := List.mem_of_getElem? hx0
  obtain ⟨s, hs⟩ : ∃ s : Nat, x0.src = (s : Int) := ⟨x0.src.toNat, by have := ha x0 hxm; omega⟩
  have hsm : s < m := by have := ha x0 hxm; omega
  have hvl : vs_8_0[s]? = some vs_8_0[s] := List.getElem?_eq_getElem (by omega)
  refine wc_skip ?_
  refine wc_seq <| wc_block ?_
  refine wc_seq <| wc_region ?_
  refine wl_ix (j := k0) M Ra Try.underlying23 rfl rfl hx0 rfl (fun b14 o14 p14 => ?_)
  refine wl_m M (q_ldp p14 rfl rfl) rfl rfl <| wl_e (e_alloc M z50) rfl rfl ?_
  rintro _ w4 ⟨b5, rfl, M⟩
  refine wl_e0 (e_stW 0 M rfl rfl rfl sz50 rfl rfl) rfl ?_
  intro _ w5 M
  simp only [sC0, sCS] at M
  refine wl_nil ?_
  refine wc_draws (fun w' => Mem w I I (box b5 50 [.int .i64 x0.src, .int .i64 x0.dst, .int .i32 x0.inp, .int .i32 x0.out] :: box b1 25 [.int .i64 t.states, .int .i64 t.start, sv fu, sv au] :: []) w' ∧ rdSl VArc (hp w') (sv u8) vs_8_0) [12] fol ?_
  replace M := M.drew
  have hS := (⟨(M.drop 1), M.matOut (i := 1) rfl⟩ : _ ∧ _)
  refine wa_q 0 rfl (by kernel_rfl) (q_move rfl) hS rfl rfl ?_
  refine wa_q 1 rfl (by kernel_rfl) (q_fa fo_50_0 rfl) hS rfl rfl ?_
  refine wa_q 2 rfl (by kernel_rfl) ((q_ldb 0 Try.underlying3 rfl rfl rfl rfl).mono fun _ h => h.1) hS rfl rfl ?_
  refine wa_q 3 rfl (by kernel_rfl) (q_move rfl) hS rfl rfl ?_
  refine wa_q 4 rfl (by kernel_rfl) (q_fa fo_50_0 rfl) hS rfl rfl ?_
  refine wa_q 5 rfl (by kernel_rfl) ((q_ldb 0 Try.underlying3 rfl rfl rfl rfl).mono fun _ h => h.1) hS rfl rfl ?_
  refine wa_ixS (j := s) 6 hS (fun _ h => h.2) rfl (by kernel_rfl) Try.underlying79 rfl (by rw [hs]; rfl) hvl rfl (fun b22 o22 p22 => ?_)
  refine wa_q 7 rfl (by kernel_rfl) (q_ldp p22 rfl rfl) hS rfl rfl ?_
  refine wa_q 8 rfl (by kernel_rfl) ((q_ldbA 0 Try.underlying50 rfl sz50 rfl rfl rfl rfl).mono fun _ h => h.1) hS rfl rfl ?_
  refine wa_e 9 rfl (by kernel_rfl) (e_bsI (E := EArc) (xs := [x0]) M (bs_23_1 _ _ _ _) ⟨⟨rfl, rfl⟩, trivial⟩ rfl rfl (by decide)) rfl rfl ?_
  rintro _ w6 ⟨u25, J25, rfl, hJ25, R25, M⟩
  have hoJ25 := M.old
  have hS := (⟨((M.less hJ25 (fun _ _ => rfl)).drop 1), M.matOut (i := 1) rfl⟩ : _ ∧ _)
  refine ⟨fun _ => hS, ?_⟩
  refine wa_e 10 rfl (by kernel_rfl) (e_appm 1 s M rfl Try.underlying23 hvl (by rw [hx]; exact lv_at hsm) rfl rfl R25 (by have := lv_le m (t.arcs.take k0) s; show (_ + 1) * 24 ≤ _; simp only [List.length_take] at this; omega)) rfl rfl ?_
  rintro _ w7 ⟨u26, rfl, M⟩
  simp only [sC0, sCS] at M
  have hS := (⟨((M.less hJ25 (fun _ _ => rfl)).drop 1), M.matOut (i := 1) rfl⟩ : _ ∧ _)
  refine ⟨fun _ => hS, ?_⟩
  replace M := M.less hJ25 (fun _ _ => rfl)
  refine wa_ixmw (j := s) 11 1 M hS rfl rfl (by kernel_rfl) Try.underlying79 rfl (by rw [hs]; rfl) (by omega) rfl (fun b27 o27 p27 => ?_)
  refine wa_e0 12 rfl (by kernel_rfl) (e_stm 1 M rfl rfl rfl p27 (by omega) rfl) rfl ?_
  intro _ w8 M
  simp only [sC0, sCS] at M
  refine ⟨nofun, ?_⟩
  refine wa_done (by kernel_rfl) ?_
  refine wc_region <| wl_m M (q_add rfl rfl (IntWalk.i64_in _ (by omega))) rfl rfl ?_
  refine wl_mv M rfl rfl <| wl_nil ?_
  replace M := M.drop 0
  have e1 : t.arcs.take (k0 + 1) = t.arcs.take k0 ++ [x0] := by rw [List.take_add_one, hx0]; rfl
  refine ⟨(k0 + 1, vs_8_0.set s u26, xss_8_0.set s (((t.arcs.take k0).filter fun y => y.src = (s : Int)) ++ [x0])), ?_, ⟨(by omega), (by simp [hl]), (by rw [hx, e1, lv_snoc hs hsm]), M⟩, ⟨rfl, trivial⟩, unw_look rfl unw_base⟩
  show t.arcs.length - (k0 + 1) < t.arcs.length - k0
  omega
 have hke0 : k0 = t.arcs.length := by omega
 rw [hke0, List.take_length] at hx; subst hx
 refine wc_exit rfl ?_
 refine wc_seq <| wc_region <| wl_mv M rfl rfl <| wl_as M rfl rfl <| wl_nil <| wc_ret ?_
 obtain ⟨I2, M, hI2, Rm⟩ := M.frzMat 0 rfl
 exact out1 rfl rfl ⟨_, I2, rfl, M.grow, Rm⟩
theorem readableT_c (s : ByteArray) (hs : s.size ≤ 70368744177664) {I : Heap} {w : World} (hI : hle I (hp w)) : Calls A 44 #[.string s] w (Ret w I fun r I' => ∃ u : SV, r = .tuple #[sv u, .bool (okT s)] ∧ rdSl ERune I' (sv u) (runesL s)) := by
 have M := Mem.start hI
 refine enter Try.func44 rfl 17 Try.ntmps44 [_] rfl ?_
 refine wc_seq <| wc_region <| wl_as M rfl rfl <| wl_as M rfl rfl <| wl_nil ?_
 refine wc_seq <| wc_region <| wl_mv M rfl rfl <| wl_e (e_cvRI (E := ERune) (s := s) M (fun _ => rfl) Try.underlying9 Try.underlying40 Try.underlying21 hs rfl) rfl rfl ?_
 rintro v6 w1 ⟨J6, hJ6, R6, M⟩
 obtain ⟨u6, rfl⟩ := rdSl_slice R6
 have hoJ6 := M.old
 replace R6 : rdSl ERune J6 (sv u6) (runesL s) := R6
 refine wl_as M rfl rfl <| wl_nil ?_
 refine wc_seq ?_
 refine wc_join (α := Unit) [2, 3, 7, 8, 9, 10, 11, 12, 13, 14, 15, 16] (fun _ => [(2, sv u6), (3, .bool ((decide ((strL (runesL s)) = s)) && (!(decide ((0 : Int) ∈ runesL s)))))]) (fun _ w' => Mem w I J6 ([]) w') ?_ ?_
 ·refine wc_region <| wl_mv M rfl rfl <| wl_mv M rfl rfl <| wl_m M (q_cvS (E := ERune) (fun _ => rfl) rfl (fun _ M => R6.mono M.imm) Try.underlying40 Try.underlying21 Try.underlying9 rfl) rfl rfl ?_
  refine wl_mv M rfl rfl <| wl_m M (q_eqlS rfl rfl) rfl rfl <| wl_mv M rfl rfl ?_
  rcases Bool.eq_false_or_eq_true (decide ((strL (runesL s)) = s)) with hg12 | hg12
  ·refine wl_m M (q_guard 5 rfl rfl rfl hg12 (q_move rfl)) rfl rfl <| wl_e (e_guard 5 rfl rfl rfl hg12 (e_callC M (contains_i32_c M.imm R6) Try.func69 rfl rfl)) rfl rfl ?_
   rintro _ w2 ⟨J14, hJ14, rfl, M⟩
   replace M := M.less hJ14 hoJ6
   refine wl_m M (q_guard 5 rfl rfl rfl hg12 (q_not rfl)) rfl rfl <| wl_m M (q_pickT rfl hg12 rfl) rfl rfl <| wl_as M rfl rfl <| wl_as M rfl rfl <| wl_nil ?_
   exact ⟨(), M, ⟨rfl, (show some (Value.bool (!(decide ((0 : Int) ∈ runesL s)))) = some (Value.bool ((decide ((strL (runesL s)) = s)) && (!(decide ((0 : Int) ∈ runesL s))))) from by first | (simp only [hg12, bL8]; done) | (simp_all; done) | (simp_all; omega)), trivial⟩, unw_take 12 rfl rfl⟩
  refine wl_m M (q_off 5 rfl rfl rfl hg12) rfl rfl <| wl_m M (q_off 5 rfl rfl rfl hg12) rfl rfl <| wl_m M (q_off 5 rfl rfl rfl hg12) rfl rfl <| wl_m M (q_pickF rfl hg12 rfl) rfl rfl <| wl_as M rfl rfl <| wl_as M rfl rfl <| wl_nil ?_
  exact ⟨(), M, ⟨rfl, (show some (Value.bool false) = some (Value.bool ((decide ((strL (runesL s)) = s)) && (!(decide ((0 : Int) ∈ runesL s))))) from by first | (simp only [hg12, bL8]; done) | (simp_all; done) | (simp_all; omega)), trivial⟩, unw_take 12 rfl rfl⟩
 rintro _ jr2 w3 M
 refine wc_ret ?_
 exact out2 rfl rfl rfl ⟨_, _, rfl, M.grow, u6, rfl, R6⟩
set_option maxRecDepth 4000 in
set_option maxHeartbeats 1000000 in
theorem relates_c (t : Tra) (x y : ByteArray) (hx : x.size ≤ 70368744177664) (hy : y.size ≤ 70368744177664) (hxy : (x.size + 1) * (y.size + 1) ≤ 1073741824) {v1 : Value} {I : Heap} {w : World} (hI : hle I (hp w)) (R1 : t.rd I v1) :
    Calls A 15 #[v1, .string x, .string y] w (Ret w I fun r _ => r = .bool (relS t x y)) := by
 obtain ⟨fu1, au1, rfl, Rf1, Ra1⟩ := R1
 have M := Mem.start hI
 refine enter Try.func15 rfl 165 Try.ntmps15 [_, _, _] rfl ?_
 refine wc_seq <| wc_region <| wl_e (e_box M rfl) rfl rfl ?_
 rintro _ w1 ⟨b3, rfl, M⟩
 refine wl_as M rfl rfl <| wl_nil ?_
 refine wc_seq <| wc_region <| wl_mv M rfl rfl <| wl_e (e_callC M (readableT_c x hx M.imm) Try.func44 rfl rfl) rfl rfl ?_
 rintro _ w2 ⟨J21, hJ21, ⟨u21, rfl, R21⟩, M⟩
 have hoJ21 := M.old
 refine wl_mv M rfl rfl <| wl_m M (q_ext rfl rfl) rfl rfl <| wl_m M (q_ext rfl rfl) rfl rfl <| wl_as M rfl rfl <| wl_as M rfl rfl <| wl_nil ?_
 refine wc_seq <| wc_region <| wl_mv M rfl rfl <| wl_e (e_callC M (readableT_c y hy M.imm) Try.func44 rfl rfl) rfl rfl ?_
 rintro _ w3 ⟨J26, hJ26, ⟨u26, rfl, R26⟩, M⟩
 have hoJ26 := M.old
 refine wl_mv M rfl rfl <| wl_m M (q_ext rfl rfl) rfl rfl <| wl_m M (q_ext rfl rfl) rfl rfl <| wl_as M rfl rfl <| wl_as M rfl rfl <| wl_nil ?_
 refine wc_seq ?_
 refine wc_seq ?_
 refine wc_join (α := Unit) [29, 30, 31, 32, 33, 34, 35, 36, 37, 38, 39] (fun _ => [(39, .bool (((!(validT t)) || (!(okT x))) || (!(okT y))))]) (fun _ w' => Mem w I J26 (box b3 25 [.int .i64 t.states, .int .i64 t.start, sv fu1, sv au1] :: []) w') ?_ ?_
 ·refine wc_region <| wl_m M (q_ldbA 0 Try.underlying25 rfl sz25 rfl rfl rfl rfl) rfl rfl <| wl_e (e_callC M (valid_c t M.imm ⟨_, _, rfl, ((Rf1.mono hJ21).mono hJ26), ((Ra1.mono hJ21).mono hJ26)⟩) Try.func11 rfl rfl) rfl rfl ?_
  rintro _ w4 ⟨J30, hJ30, rfl, M⟩
  replace M := M.less hJ30 hoJ26
  refine wl_m M (q_not rfl) rfl rfl <| wl_mv M rfl rfl ?_
  rcases Bool.eq_false_or_eq_true (!(validT t)) with hg32 | hg32
  ·refine wl_m M (q_off 3 rfl rfl rfl hg32) rfl rfl <| wl_m M (q_off 3 rfl rfl rfl hg32) rfl rfl <| wl_m M (q_pickT rfl hg32 rfl) rfl rfl <| wl_mv M rfl rfl <| wl_m M (q_off 7 rfl rfl rfl rfl) rfl rfl <| wl_m M (q_off 7 rfl rfl rfl rfl) rfl rfl <| wl_m M (q_pickT rfl rfl rfl) rfl rfl <| wl_nil ?_
   exact ⟨(), M, ⟨(show some (Value.bool true) = some (Value.bool (((!(validT t)) || (!(okT x))) || (!(okT y)))) from by first | (simp only [hg32, bL8]; done) | (simp_all; done) | (simp_all; omega)), trivial⟩, unw_take 11 rfl rfl⟩
  refine wl_m M (q_guard 3 rfl rfl rfl hg32 (q_move rfl)) rfl rfl <| wl_m M (q_guard 3 rfl rfl rfl hg32 (q_not rfl)) rfl rfl <| wl_m M (q_pickF rfl hg32 rfl) rfl rfl <| wl_mv M rfl rfl ?_
  rcases Bool.eq_false_or_eq_true (!(okT x)) with hg36 | hg36
  ·refine wl_m M (q_off 7 rfl rfl rfl hg36) rfl rfl <| wl_m M (q_off 7 rfl rfl rfl hg36) rfl rfl <| wl_m M (q_pickT rfl hg36 rfl) rfl rfl <| wl_nil ?_
   exact ⟨(), M, ⟨(show some (Value.bool true) = some (Value.bool (((!(validT t)) || (!(okT x))) || (!(okT y)))) from by first | (simp only [hg32, hg36, bL8]; done) | (simp_all; done) | (simp_all; omega)), trivial⟩, unw_take 11 rfl rfl⟩
  refine wl_m M (q_guard 7 rfl rfl rfl hg36 (q_move rfl)) rfl rfl <| wl_m M (q_guard 7 rfl rfl rfl hg36 (q_not rfl)) rfl rfl <| wl_m M (q_pickF rfl hg36 rfl) rfl rfl <| wl_nil ?_
  exact ⟨(), M, ⟨(show some (Value.bool (!(okT y))) = some (Value.bool (((!(validT t)) || (!(okT x))) || (!(okT y)))) from by first | (simp only [hg32, hg36, bL8]; done) | (simp_all; done) | (simp_all; omega)), trivial⟩, unw_take 11 rfl rfl⟩
 rintro _ jr3 w5 M
 refine wc_cond rfl (fun ht39 => ?_) (fun ht39 => ?_)
 ·refine wc_seq <| wc_region <| wl_as M rfl rfl <| wl_nil <| wc_ret ?_
  exact out1 rfl rfl ⟨_, _, rfl, M.grow, by rw [relS_err ht39]⟩
 obtain ⟨hvt, hrs⟩ := relS_ok ht39
 obtain ⟨m, ha, hrf⟩ := valid_rng hvt
 have hrng := ha.rng hrf
 have hlx := runesL_le x
 have hly := runesL_le y
 have hmx : ((runesL x).length + 1) * ((runesL y).length + 1) ≤ 1073741824 := Nat.le_trans (Nat.mul_le_mul (by omega) (by omega)) hxy
 have hmm := ha.le
 have hmr : m * (((runesL x).length + 1) * ((runesL y).length + 1)) ≤ 512 * 1073741824 := Nat.mul_le_mul hmm hmx
 refine wc_skip ?_
 refine wc_seq <| wc_region <| wl_m M (q_ldbA 0 Try.underlying25 rfl sz25 rfl rfl rfl rfl) rfl rfl <| wl_e (e_callC M (leavingT_c t m ha.st ha.le (fun x hx => (ha.arcs x hx).1) ha.alen M.imm ⟨_, _, rfl, ((Rf1.mono hJ21).mono hJ26), ((Ra1.mono hJ21).mono hJ26)⟩) Try.func46 rfl rfl) rfl rfl ?_
 rintro v41 w6 ⟨J41, hJ41, R41, M⟩
 obtain ⟨u41, rfl⟩ := rdMat_slice R41
 have hoJ41 := M.old
 refine wl_as M rfl rfl <| wl_nil ?_
 refine wc_seq <| wc_region <| wl_e (e_mkm QPlace Value.bool M) rfl rfl ?_
 rintro _ w7 ⟨b42, rfl, M⟩
 refine wl_m M (q_fa fo_25_1 rfl) rfl rfl <| wl_m M (q_ldb 1 Try.underlying3 rfl rfl rfl rfl) rfl rfl <| wl_m M (q_build (bd_82_0 _) ⟨⟨rfl, rfl⟩, trivial⟩) rfl rfl ?_
 refine wl_e0 (e_mpi (k := (Place.mk t.start 0 0)) (v := true) 0 M rfl Try.underlying83 rfl rfl rfl) rfl ?_
 intro _ w8 M
 simp only [sC0, sCS] at M
 refine wl_mv M rfl rfl <| wl_as M rfl rfl <| wl_nil ?_
 refine wc_seq ?_
 refine wc_seq <| wc_region <| wl_m M (q_fa fo_25_1 rfl) rfl rfl <| wl_m M (q_ldb 1 Try.underlying3 rfl rfl rfl rfl) rfl rfl <| wl_m M (q_build (bd_82_0 _) ⟨⟨rfl, rfl⟩, trivial⟩) rfl rfl <| wl_e (e_bsR (E := EPlace) (xs := [(Place.mk t.start 0 0)]) M (bs_84_1 _ _ _) ⟨⟨rfl, rfl⟩, trivial⟩ rfl rfl (by decide)) rfl rfl ?_
 rintro _ w9 ⟨u50, rfl, M⟩
 refine wl_as M rfl rfl <| wl_nil <| wc_block ?_
 refine wc_loop (α := (List Place) × SV × (List Place) × (List (Place × Bool))) [6, 13, 14, 16, 17, 18, 51, 52, 53, 54, 55, 56, 57, 58, 59, 60, 61, 62, 63, 64, 65, 66, 67, 68, 69, 70, 71, 72, 73, 74, 75, 76, 77, 78, 79, 80, 81, 82, 83, 84, 85, 86, 87, 88, 89, 90, 91, 92, 93, 94, 95, 96, 97, 98, 99, 100, 101, 102, 103, 104, 105, 106, 107, 108, 109, 110, 111, 112, 113, 114, 115, 116, 117, 118, 119, 120, 121, 122, 123, 124, 125, 126, 127, 128, 129, 130, 131, 132, 133, 134, 135, 136, 137, 138, 139, 140, 141, 142, 143, 144, 145, 146, 147, 148, 149, 150, 151, 152, 153, 154, 155, 156, 157, 158, 159, 160, 161, 162, 163, 164] (fun ((vs, u_50_0, l_50_0, m_42_0) : (List Place) × SV × (List Place) × (List (Place × Bool))) => [(13, sv u_50_0)])
   (fun ((vs, u_50_0, l_50_0, m_42_0) : (List Place) × SV × (List Place) × (List (Place × Bool))) w' => (Bfs (plN t (runesL x) (runesL y)) (· = ⟨t.start, 0, 0⟩) vs l_50_0) ∧ (m_42_0 = tr (vs ++ l_50_0)) ∧ (∀ c ∈ vs, accB t (runesL x) (runesL y) c = false) ∧ Mem w I J41 (row EPlace (sv u_50_0) l_50_0 :: mpr QPlace Value.bool b42 m_42_0 :: box b3 25 [.int .i64 t.states, .int .i64 t.start, sv fu1, sv au1] :: []) w')
   (fun ((vs, u_50_0, l_50_0, m_42_0) : (List Place) × SV × (List Place) × (List (Place × Bool))) => (rect3 m (runesL x).length (runesL y).length).length - vs.length) ([], u50, [(Place.mk t.start 0 0)], aput [] (Place.mk t.start 0 0) true) ⟨rfl, trivial⟩ ?_ ?_
 ·refine ⟨Bfs.init _ _, rfl, by simp, ?_⟩
  exact M
 rintro ⟨vs, u_50_0, l_50_0, m_42_0⟩ jj0 w10 ⟨hB, hm, hnd, M⟩
 have hoJ41 := M.old
 refine wc_seq ?_
 refine wc_seq <| wc_region <| wl_mv M rfl rfl <| wl_m M (q_lenr 0 M rfl Try.underlying84 rfl) rfl rfl <| wl_m M (q_gtr rfl rfl) rfl rfl <| wl_nil ?_
 refine wc_dec rfl (fun ht53 => ?_) (fun ht53 => ?_)
 ·obtain ⟨p, i, j, qs, hq⟩ : ∃ (p i j : Nat) (qs : List Place), l_50_0 = Place.mk p i j :: qs := by
    cases l_50_0 with
    | nil => simp at ht53
    | cons x qs =>
      obtain ⟨p, i, j, e, _⟩ := mem_rect3.1 (pl_rect hrng x (hB.reach x (by simp)))
      exact ⟨p, i, j, qs, by rw [e]⟩
  obtain ⟨hp1, hi1, hj1⟩ : p < m ∧ i ≤ (runesL x).length ∧ j ≤ (runesL y).length := by
    obtain ⟨p', i', j', e, h1, h2, h3⟩ := mem_rect3.1 (pl_rect hrng _ (hB.reach (Place.mk p i j) (by rw [hq]; simp)))
    simp only [Place.mk.injEq] at e
    omega
  refine wc_skip ?_
  refine wc_seq <| wc_block ?_
  refine wc_seq <| wc_region <| wl_mv M rfl rfl ?_
  refine wl_ixr (j := 0) 0 M rfl Try.underlying84 rfl rfl (by rw [hq]; rfl) rfl (fun b57 o57 p57 => ?_)
  refine wl_m M (q_ldp p57 rfl rfl) rfl rfl <| wl_e (e_alloc M z82) rfl rfl ?_
  rintro _ w11 ⟨b14, rfl, M⟩
  refine wl_e0 (e_stW 0 M rfl rfl rfl sz82 rfl rfl) rfl ?_
  intro _ w12 M
  simp only [sC0, sCS] at M
  refine wl_nil ?_
  refine wc_seq ?_
  refine wc_seq ?_
  refine wc_join (α := Unit) [59, 60, 61, 62, 63, 64, 65, 66, 67, 68, 69, 70, 71, 72, 73, 74, 75, 76, 77] (fun _ => [(77, .bool (((decide ((i : Int) = ((runesL x).length : Int))) && (decide ((j : Int) = ((runesL y).length : Int)))) && (decide ((p : Int) ∈ t.finals))))]) (fun _ w' => Mem w I J41 (box b14 82 [.int .i64 (p : Int), .int .i64 (i : Int), .int .i64 (j : Int)] :: row EPlace (sv u_50_0) l_50_0 :: mpr QPlace Value.bool b42 m_42_0 :: box b3 25 [.int .i64 t.states, .int .i64 t.start, sv fu1, sv au1] :: []) w') ?_ ?_
  ·refine wc_region <| wl_m M (q_fa fo_82_1 rfl) rfl rfl <| wl_m M (q_ldb 0 Try.underlying3 rfl rfl rfl rfl) rfl rfl <| wl_mv M rfl rfl <| wl_m M (q_lenR ((R21.mono hJ26).mono hJ41) Try.underlying40 rfl) rfl rfl <| wl_m M (q_eql rfl rfl) rfl rfl <| wl_mv M rfl rfl ?_
   rcases Bool.eq_false_or_eq_true (decide ((i : Int) = ((runesL x).length : Int))) with hg64 | hg64
   ·refine wl_m M (q_guard 5 rfl rfl rfl hg64 (q_fa fo_82_2 rfl)) rfl rfl <| wl_m M (q_guard 5 rfl rfl rfl hg64 (q_ldb 0 Try.underlying3 rfl rfl rfl rfl)) rfl rfl <| wl_m M (q_guard 5 rfl rfl rfl hg64 (q_move rfl)) rfl rfl <| wl_m M (q_guard 5 rfl rfl rfl hg64 (q_lenR (R26.mono hJ41) Try.underlying40 rfl)) rfl rfl <| wl_m M (q_guard 5 rfl rfl rfl hg64 (q_eql rfl rfl)) rfl rfl <| wl_m M (q_pickT rfl hg64 rfl) rfl rfl <| wl_mv M rfl rfl ?_
    rcases Bool.eq_false_or_eq_true (decide ((j : Int) = ((runesL y).length : Int))) with hg71 | hg71
    ·refine wl_m M (q_guard 12 rfl rfl rfl hg71 (q_fa fo_25_2 rfl)) rfl rfl <| wl_m M (q_guard 12 rfl rfl rfl hg71 (q_ldb 3 Try.underlying22 rfl rfl rfl rfl)) rfl rfl <| wl_m M (q_guard 12 rfl rfl rfl hg71 (q_fa fo_82_0 rfl)) rfl rfl <| wl_m M (q_guard 12 rfl rfl rfl hg71 (q_ldb 0 Try.underlying3 rfl rfl rfl rfl)) rfl rfl <| wl_e (e_guard 12 rfl rfl rfl hg71 (e_callC M (contains_c M.imm (((Rf1.mono hJ21).mono hJ26).mono hJ41)) Try.func47 rfl rfl)) rfl rfl ?_
     rintro _ w13 ⟨J76, hJ76, rfl, M⟩
     replace M := M.less hJ76 hoJ41
     refine wl_m M (q_pickT rfl hg71 rfl) rfl rfl <| wl_nil ?_
     exact ⟨(), M, ⟨(show some (Value.bool (decide ((p : Int) ∈ t.finals))) = some (Value.bool (((decide ((i : Int) = ((runesL x).length : Int))) && (decide ((j : Int) = ((runesL y).length : Int)))) && (decide ((p : Int) ∈ t.finals)))) from by first | (simp only [hg64, hg71, bL8]; done) | (simp_all; done) | (simp_all; omega)), trivial⟩, unw_take 19 rfl rfl⟩
    refine wl_m M (q_off 12 rfl rfl rfl hg71) rfl rfl <| wl_m M (q_off 12 rfl rfl rfl hg71) rfl rfl <| wl_m M (q_off 12 rfl rfl rfl hg71) rfl rfl <| wl_m M (q_off 12 rfl rfl rfl hg71) rfl rfl <| wl_m M (q_off 12 rfl rfl rfl hg71) rfl rfl <| wl_m M (q_pickF rfl hg71 rfl) rfl rfl <| wl_nil ?_
    exact ⟨(), M, ⟨(show some (Value.bool false) = some (Value.bool (((decide ((i : Int) = ((runesL x).length : Int))) && (decide ((j : Int) = ((runesL y).length : Int)))) && (decide ((p : Int) ∈ t.finals)))) from by first | (simp only [hg64, hg71, bL8]; done) | (simp_all; done) | (simp_all; omega)), trivial⟩, unw_take 19 rfl rfl⟩
   refine wl_m M (q_off 5 rfl rfl rfl hg64) rfl rfl <| wl_m M (q_off 5 rfl rfl rfl hg64) rfl rfl <| wl_m M (q_off 5 rfl rfl rfl hg64) rfl rfl <| wl_m M (q_off 5 rfl rfl rfl hg64) rfl rfl <| wl_m M (q_off 5 rfl rfl rfl hg64) rfl rfl <| wl_m M (q_pickF rfl hg64 rfl) rfl rfl <| wl_mv M rfl rfl <| wl_m M (q_off 12 rfl rfl rfl rfl) rfl rfl <| wl_m M (q_off 12 rfl rfl rfl rfl) rfl rfl <| wl_m M (q_off 12 rfl rfl rfl rfl) rfl rfl <| wl_m M (q_off 12 rfl rfl rfl rfl) rfl rfl <| wl_m M (q_off 12 rfl rfl rfl rfl) rfl rfl <| wl_m M (q_pickF rfl rfl rfl) rfl rfl ?_
   refine wl_nil ?_
   exact ⟨(), M, ⟨(show some (Value.bool false) = some (Value.bool (((decide ((i : Int) = ((runesL x).length : Int))) && (decide ((j : Int) = ((runesL y).length : Int)))) && (decide ((p : Int) ∈ t.finals)))) from by first | (simp only [hg64, bL8]; done) | (simp_all; done) | (simp_all; omega)), trivial⟩, unw_take 19 rfl rfl⟩
  rintro _ jr11 w14 M
  refine wc_cond rfl (fun ht77 => ?_) (fun ht77 => ?_)
  ·refine wc_seq <| wc_region <| wl_as M rfl rfl <| wl_nil <| wc_ret ?_
   exact out1 rfl rfl ⟨_, _, rfl, M.grow, by rw [hrs, rel_yes (c := Place.mk p i j) (hB.reach _ (by rw [hq]; simp)) ht77]⟩
  refine wc_skip ?_
  refine wc_seq <| wc_region <| wl_mv M rfl rfl <| wl_m M (q_fa fo_82_0 rfl) rfl rfl <| wl_m M (q_ldb 0 Try.underlying3 rfl rfl rfl rfl) rfl rfl ?_
  obtain ⟨os81, u81, Ro81, ho81, R81⟩ := (R41).at_ (lv_at hp1)
  replace R81 : rdSl EArc J41 (sv u81) ((t.outs p)) := R81
  refine wl_ix (j := p) M Ro81 Try.underlying79 rfl rfl ho81 rfl (fun b81 o81 p81 => ?_)
  refine wl_m M (q_ldp p81 rfl rfl) rfl rfl <| wl_m M (q_lenR R81 Try.underlying23 rfl) rfl rfl <| wl_mv M rfl rfl <| wl_nil <| wc_block ?_
  refine wc_loop (α := Nat × SV × (List Place) × (List (Place × Bool))) [13, 16, 17, 18, 84, 85, 86, 87, 88, 89, 90, 91, 92, 93, 94, 95, 96, 97, 98, 99, 100, 101, 102, 103, 104, 105, 106, 107, 108, 109, 110, 111, 112, 113, 114, 115, 116, 117, 118, 119, 120, 121, 122, 123, 124, 125, 126, 127, 128, 129, 130, 131, 132, 133, 134, 135, 136, 137, 138, 139, 140, 141, 142, 143, 144, 145, 146, 147, 148, 149, 150, 151, 152, 153, 154, 155, 156, 157, 158, 159, 160, 161, 162, 163, 164] (fun ((k2, u_50_2, l_50_2, m_42_2) : Nat × SV × (List Place) × (List (Place × Bool))) => [(84, .int .i64 (k2 : Int)), (13, sv u_50_2)])
    (fun ((k2, u_50_2, l_50_2, m_42_2) : Nat × SV × (List Place) × (List (Place × Bool))) w' => (k2 ≤ (t.outs p).length) ∧ (BfsIn (plN t (runesL x) (runesL y)) (· = ⟨t.start, 0, 0⟩) vs (Place.mk p i j) (plK (runesL x) (runesL y) i j ((t.outs (p : Int)).take k2)) l_50_2.tail) ∧ (l_50_2 = (Place.mk p i j) :: l_50_2.tail) ∧ (m_42_2 = tr (vs ++ l_50_2)) ∧ Mem w I J41 (box b14 82 [.int .i64 (p : Int), .int .i64 (i : Int), .int .i64 (j : Int)] :: row EPlace (sv u_50_2) l_50_2 :: mpr QPlace Value.bool b42 m_42_2 :: box b3 25 [.int .i64 t.states, .int .i64 t.start, sv fu1, sv au1] :: []) w')
    (fun ((k2, u_50_2, l_50_2, m_42_2) : Nat × SV × (List Place) × (List (Place × Bool))) => (t.outs p).length - k2) (0, u_50_0, l_50_0, m_42_0) ⟨rfl, rfl, trivial⟩ ?_ ?_
  ·refine ⟨Nat.zero_le _, (by have := hB; rw [hq] at this; rw [hq]; exact this.opn), (by rw [hq]; rfl), hm, ?_⟩
   exact M
  rintro ⟨k2, u_50_2, l_50_2, m_42_2⟩ jj2 w15 ⟨hk2, hB2, hc2, hm2, M⟩
  have hoJ41 := M.old
  refine wc_seq <| wc_region <| wl_m M (q_lss rfl rfl) rfl rfl <| wl_nil ?_
  refine wc_seq ?_
  refine wc_dec rfl (fun ht85 => ?_) (fun ht85 => ?_)
  ·obtain ⟨x2, hx2⟩ : ∃ x_, (t.outs p)[k2]? = some x_ := ⟨_, List.getElem?_eq_getElem (by omega)⟩
   have hll2 := (R81).len_le
   refine wc_skip ?_
   refine wc_seq <| wc_block ?_
   refine wc_seq <| wc_region ?_
   refine wl_ix (j := k2) M R81 Try.underlying23 rfl rfl hx2 rfl (fun b86 o86 p86 => ?_)
   refine wl_m M (q_ldp p86 rfl rfl) rfl rfl <| wl_e (e_alloc M z50) rfl rfl ?_
   rintro _ w16 ⟨b16, rfl, M⟩
   refine wl_e0 (e_stW 0 M rfl rfl rfl sz50 rfl rfl) rfl ?_
   intro _ w17 M
   simp only [sC0, sCS] at M
   refine wl_nil ?_
   refine wc_seq <| wc_region <| wl_m M (q_fa fo_50_1 rfl) rfl rfl <| wl_m M (q_ldb 0 Try.underlying3 rfl rfl rfl rfl) rfl rfl <| wl_m M (q_fa fo_82_1 rfl) rfl rfl <| wl_m M (q_ldb 1 Try.underlying3 rfl rfl rfl rfl) rfl rfl <| wl_m M (q_fa fo_82_2 rfl) rfl rfl <| wl_m M (q_ldb 1 Try.underlying3 rfl rfl rfl rfl) rfl rfl <| wl_m M (q_build (bd_82_0_1_2 _ _ _) ⟨⟨rfl, rfl⟩, ⟨rfl, rfl⟩, ⟨rfl, rfl⟩, trivial⟩) rfl rfl <| wl_e (e_alloc M z82) rfl rfl ?_
   rintro _ w18 ⟨b17, rfl, M⟩
   refine wl_e0 (e_stW 0 M rfl rfl rfl sz82 rfl rfl) rfl ?_
   intro _ w19 M
   simp only [sC0, sCS] at M
   refine wl_nil ?_
   refine wc_seq ?_
   refine wc_seq <| wc_region <| wl_m M (q_fa fo_50_2 rfl) rfl rfl <| wl_m M (q_ldb 1 Try.underlying21 rfl rfl rfl rfl) rfl rfl <| wl_m M (q_neq rfl rfl) rfl rfl <| wl_nil ?_
   refine wc_cond rfl (fun ht97 => ?_) (fun ht97 => ?_)
   ·have he1 : eatK i x2.inp = (i : Int) + 1 := eatK_ne (by simpa using ht97)
    refine wc_region <| wl_m M (q_fa fo_82_1 rfl) rfl rfl <| wl_m M (q_ldb 0 Try.underlying3 rfl rfl rfl rfl) rfl rfl <| wl_m M (q_add rfl rfl (IntWalk.i64_in _ (by omega))) rfl rfl ?_
    refine wl_m M (q_fa fo_82_1 rfl) rfl rfl ?_
    refine wl_e0 (e_stb 0 M rfl rfl rfl sz3 rfl rfl) rfl ?_
    intro _ w20 M
    simp only [sC0, sCS] at M
    refine wl_nil ?_
    refine wc_seq ?_
    refine wc_seq <| wc_region <| wl_m M (q_fa fo_50_3 rfl) rfl rfl <| wl_m M (q_ldb 1 Try.underlying21 rfl rfl rfl rfl) rfl rfl <| wl_m M (q_neq rfl rfl) rfl rfl <| wl_nil ?_
    refine wc_cond rfl (fun ht104 => ?_) (fun ht104 => ?_)
    ·have he2 : eatK j x2.out = (j : Int) + 1 := eatK_ne (by simpa using ht104)
     refine wc_region <| wl_m M (q_fa fo_82_2 rfl) rfl rfl <| wl_m M (q_ldb 0 Try.underlying3 rfl rfl rfl rfl) rfl rfl <| wl_m M (q_add rfl rfl (IntWalk.i64_in _ (by omega))) rfl rfl ?_
     refine wl_m M (q_fa fo_82_2 rfl) rfl rfl ?_
     refine wl_e0 (e_stb 0 M rfl rfl rfl sz3 rfl rfl) rfl ?_
     intro _ w21 M
     simp only [sC0, sCS] at M
     refine wl_nil ?_
     refine wc_seq ?_
     refine wc_join (α := Unit) [18, 109, 110, 111, 112, 113, 114, 115, 116, 117, 118, 119, 120, 121, 122, 123, 124, 125, 126, 127, 128, 129, 130, 131, 132, 133, 134, 135, 136, 137, 138, 139, 140, 141, 142, 143, 144, 145, 146, 147, 148, 149, 150] (fun _ => [(18, .bool (((decide (x2.inp = 0)) || ((decide ((i : Int) < ((runesL x).length : Int))) && (decide (((runesL x).getD i 0) = x2.inp)))) && ((decide (x2.out = 0)) || ((decide ((j : Int) < ((runesL y).length : Int))) && (decide (((runesL y).getD j 0) = x2.out))))))]) (fun _ w' => Mem w I J41 (box b17 82 [.int .i64 x2.dst, .int .i64 ((i : Int) + 1), .int .i64 ((j : Int) + 1)] :: box b16 50 [.int .i64 x2.src, .int .i64 x2.dst, .int .i32 x2.inp, .int .i32 x2.out] :: box b14 82 [.int .i64 (p : Int), .int .i64 (i : Int), .int .i64 (j : Int)] :: row EPlace (sv u_50_2) l_50_2 :: mpr QPlace Value.bool b42 m_42_2 :: box b3 25 [.int .i64 t.states, .int .i64 t.start, sv fu1, sv au1] :: []) w') ?_ ?_
     ·refine wc_draws (fun w' => Mem w I J41 (box b17 82 [.int .i64 x2.dst, .int .i64 ((i : Int) + 1), .int .i64 ((j : Int) + 1)] :: box b16 50 [.int .i64 x2.src, .int .i64 x2.dst, .int .i32 x2.inp, .int .i32 x2.out] :: box b14 82 [.int .i64 (p : Int), .int .i64 (i : Int), .int .i64 (j : Int)] :: row EPlace (sv u_50_2) l_50_2 :: mpr QPlace Value.bool b42 m_42_2 :: box b3 25 [.int .i64 t.states, .int .i64 t.start, sv fu1, sv au1] :: []) w' ∧ True) [] fol ?_
      replace M := M.drew
      have hS := (⟨M, trivial⟩ : _ ∧ _)
      refine wa_q 0 rfl (by kernel_rfl) (q_fa fo_50_2 rfl) hS rfl rfl ?_
      refine wa_q 1 rfl (by kernel_rfl) ((q_ldb 1 Try.underlying21 rfl rfl rfl rfl).mono fun _ h => h.1) hS rfl rfl ?_
      refine wa_q 2 rfl (by kernel_rfl) (q_eql rfl rfl) hS rfl rfl ?_
      refine wa_q 3 rfl (by kernel_rfl) (q_move rfl) hS rfl rfl ?_
      rcases Bool.eq_false_or_eq_true (decide (x2.inp = 0)) with hg112 | hg112
      ·refine wa_q 4 rfl (by kernel_rfl) (q_off 3 rfl rfl rfl hg112) hS rfl rfl ?_
       refine wa_q 5 rfl (by kernel_rfl) (q_off 3 rfl rfl rfl hg112) hS rfl rfl ?_
       refine wa_q 6 rfl (by kernel_rfl) (q_off 3 rfl rfl rfl hg112) hS rfl rfl ?_
       refine wa_q 7 rfl (by kernel_rfl) (q_off 3 rfl rfl rfl hg112) hS rfl rfl ?_
       refine wa_q 8 rfl (by kernel_rfl) (q_off 3 rfl rfl rfl hg112) hS rfl rfl ?_
       refine wa_q 9 rfl (by kernel_rfl) (q_off 3 rfl rfl rfl hg112) hS rfl rfl ?_
       refine wa_q 10 rfl (by kernel_rfl) (q_offu 9 rfl rfl rfl) hS rfl rfl ?_
       refine wa_q 11 rfl (by kernel_rfl) (q_offu 9 rfl rfl rfl) hS rfl rfl ?_
       refine wa_q 12 rfl (by kernel_rfl) (q_offu 9 rfl rfl rfl) hS rfl rfl ?_
       refine wa_q 13 rfl (by kernel_rfl) (q_offu 9 rfl rfl rfl) hS rfl rfl ?_
       refine wa_q 14 rfl (by kernel_rfl) (q_offu 9 rfl rfl rfl) hS rfl rfl ?_
       refine wa_q 15 rfl (by kernel_rfl) (q_offu 9 rfl rfl rfl) hS rfl rfl ?_
       refine wa_q 16 rfl (by kernel_rfl) (q_offu 9 rfl rfl rfl) hS rfl rfl ?_
       refine wa_q 17 rfl (by kernel_rfl) (q_offu 9 rfl rfl rfl) hS rfl rfl ?_
       refine wa_q 18 rfl (by kernel_rfl) (q_off 3 rfl rfl rfl hg112) hS rfl rfl ?_
       refine wa_q 19 rfl (by kernel_rfl) (q_pickT rfl hg112 rfl) hS rfl rfl ?_
       refine wa_q 20 rfl (by kernel_rfl) (q_move rfl) hS rfl rfl ?_
       refine wa_q 21 rfl (by kernel_rfl) (q_guard 20 rfl rfl rfl rfl (q_fa fo_50_3 rfl)) hS rfl rfl ?_
       refine wa_q 22 rfl (by kernel_rfl) ((q_guard 20 rfl rfl rfl rfl (q_ldb 1 Try.underlying21 rfl rfl rfl rfl)).mono fun _ h => h.1) hS rfl rfl ?_
       refine wa_q 23 rfl (by kernel_rfl) (q_guard 20 rfl rfl rfl rfl (q_eql rfl rfl)) hS rfl rfl ?_
       refine wa_q 24 rfl (by kernel_rfl) (q_guard 20 rfl rfl rfl rfl (q_move rfl)) hS rfl rfl ?_
       rcases Bool.eq_false_or_eq_true (decide (x2.out = 0)) with hg133 | hg133
       ·refine wa_q 25 rfl (by kernel_rfl) (q_off 24 rfl rfl rfl hg133) hS rfl rfl ?_
        refine wa_q 26 rfl (by kernel_rfl) (q_off 24 rfl rfl rfl hg133) hS rfl rfl ?_
        refine wa_q 27 rfl (by kernel_rfl) (q_off 24 rfl rfl rfl hg133) hS rfl rfl ?_
        refine wa_q 28 rfl (by kernel_rfl) (q_off 24 rfl rfl rfl hg133) hS rfl rfl ?_
        refine wa_q 29 rfl (by kernel_rfl) (q_off 24 rfl rfl rfl hg133) hS rfl rfl ?_
        refine wa_q 30 rfl (by kernel_rfl) (q_off 24 rfl rfl rfl hg133) hS rfl rfl ?_
        refine wa_q 31 rfl (by kernel_rfl) (q_offu 30 rfl rfl rfl) hS rfl rfl ?_
        refine wa_q 32 rfl (by kernel_rfl) (q_offu 30 rfl rfl rfl) hS rfl rfl ?_
        refine wa_q 33 rfl (by kernel_rfl) (q_offu 30 rfl rfl rfl) hS rfl rfl ?_
        refine wa_q 34 rfl (by kernel_rfl) (q_offu 30 rfl rfl rfl) hS rfl rfl ?_
        refine wa_q 35 rfl (by kernel_rfl) (q_offu 30 rfl rfl rfl) hS rfl rfl ?_
        refine wa_q 36 rfl (by kernel_rfl) (q_offu 30 rfl rfl rfl) hS rfl rfl ?_
        refine wa_q 37 rfl (by kernel_rfl) (q_offu 30 rfl rfl rfl) hS rfl rfl ?_
        refine wa_q 38 rfl (by kernel_rfl) (q_offu 30 rfl rfl rfl) hS rfl rfl ?_
        refine wa_q 39 rfl (by kernel_rfl) (q_off 24 rfl rfl rfl hg133) hS rfl rfl ?_
        refine wa_q 40 rfl (by kernel_rfl) (q_guard 20 rfl rfl rfl rfl (q_pickT rfl hg133 rfl)) hS rfl rfl ?_
        refine wa_q 41 rfl (by kernel_rfl) (q_pickT rfl rfl rfl) hS rfl rfl ?_
        refine wa_q 42 rfl (by kernel_rfl) (q_assign rfl) hS rfl rfl ?_
        refine wa_done (by kernel_rfl) ?_
        exact ⟨(), M, ⟨(show some (Value.bool true) = some (Value.bool (((decide (x2.inp = 0)) || ((decide ((i : Int) < ((runesL x).length : Int))) && (decide (((runesL x).getD i 0) = x2.inp)))) && ((decide (x2.out = 0)) || ((decide ((j : Int) < ((runesL y).length : Int))) && (decide (((runesL y).getD j 0) = x2.out)))))) from by first | (simp only [hg112, hg133, bL8]; done) | (simp_all; done) | (simp_all; omega)), trivial⟩, unw_take 43 rfl rfl⟩
       refine wa_q 25 rfl (by kernel_rfl) (q_guard 24 rfl rfl rfl hg133 (q_fa fo_82_2 rfl)) hS rfl rfl ?_
       refine wa_q 26 rfl (by kernel_rfl) ((q_guard 24 rfl rfl rfl hg133 (q_ldb 2 Try.underlying3 rfl rfl rfl rfl)).mono fun _ h => h.1) hS rfl rfl ?_
       refine wa_q 27 rfl (by kernel_rfl) (q_guard 24 rfl rfl rfl hg133 (q_move rfl)) hS rfl rfl ?_
       refine wa_q 28 rfl (by kernel_rfl) (q_guard 24 rfl rfl rfl hg133 (q_lenR (R26.mono hJ41) Try.underlying40 rfl)) hS rfl rfl ?_
       refine wa_q 29 rfl (by kernel_rfl) (q_guard 24 rfl rfl rfl hg133 (q_lss rfl rfl)) hS rfl rfl ?_
       refine wa_q 30 rfl (by kernel_rfl) (q_guard 24 rfl rfl rfl hg133 (q_move rfl)) hS rfl rfl ?_
       rcases Bool.eq_false_or_eq_true (decide ((j : Int) < ((runesL y).length : Int))) with hg139 | hg139
       ·refine wa_q 31 rfl (by kernel_rfl) (q_guard 30 rfl rfl rfl hg139 (q_move rfl)) hS rfl rfl ?_
        refine wa_q 32 rfl (by kernel_rfl) (q_guard 30 rfl rfl rfl hg139 (q_fa fo_82_2 rfl)) hS rfl rfl ?_
        refine wa_q 33 rfl (by kernel_rfl) ((q_guard 30 rfl rfl rfl hg139 (q_ldb 2 Try.underlying3 rfl rfl rfl rfl)).mono fun _ h => h.1) hS rfl rfl ?_
        refine wa_ixSG (j := j) 30 rfl rfl rfl hg139 34 hS (fun _ h => (R26.mono hJ41).mono h.1.imm) rfl (by kernel_rfl) Try.underlying40 rfl rfl (getD_at (d := 0) (by have := of_decide_eq_true hg139; omega)) rfl (fun b143 o143 p143 => ?_)
        refine wa_q 35 rfl (by kernel_rfl) (q_guard 30 rfl rfl rfl hg139 (q_ldp p143 rfl rfl)) hS rfl rfl ?_
        refine wa_q 36 rfl (by kernel_rfl) (q_guard 30 rfl rfl rfl hg139 (q_fa fo_50_3 rfl)) hS rfl rfl ?_
        refine wa_q 37 rfl (by kernel_rfl) ((q_guard 30 rfl rfl rfl hg139 (q_ldb 1 Try.underlying21 rfl rfl rfl rfl)).mono fun _ h => h.1) hS rfl rfl ?_
        refine wa_q 38 rfl (by kernel_rfl) (q_guard 30 rfl rfl rfl hg139 (q_eql rfl rfl)) hS rfl rfl ?_
        refine wa_q 39 rfl (by kernel_rfl) (q_guard 24 rfl rfl rfl hg133 (q_pickT rfl hg139 rfl)) hS rfl rfl ?_
        refine wa_q 40 rfl (by kernel_rfl) (q_guard 20 rfl rfl rfl rfl (q_pickF rfl hg133 rfl)) hS rfl rfl ?_
        refine wa_q 41 rfl (by kernel_rfl) (q_pickT rfl rfl rfl) hS rfl rfl ?_
        refine wa_q 42 rfl (by kernel_rfl) (q_assign rfl) hS rfl rfl ?_
        refine wa_done (by kernel_rfl) ?_
        exact ⟨(), M, ⟨(show some (Value.bool (decide (((runesL y).getD j 0) = x2.out))) = some (Value.bool (((decide (x2.inp = 0)) || ((decide ((i : Int) < ((runesL x).length : Int))) && (decide (((runesL x).getD i 0) = x2.inp)))) && ((decide (x2.out = 0)) || ((decide ((j : Int) < ((runesL y).length : Int))) && (decide (((runesL y).getD j 0) = x2.out)))))) from by first | (simp only [hg112, hg133, hg139, bL8]; done) | (simp_all; done) | (simp_all; omega)), trivial⟩, unw_take 43 rfl rfl⟩
       refine wa_q 31 rfl (by kernel_rfl) (q_off 30 rfl rfl rfl hg139) hS rfl rfl ?_
       refine wa_q 32 rfl (by kernel_rfl) (q_off 30 rfl rfl rfl hg139) hS rfl rfl ?_
       refine wa_q 33 rfl (by kernel_rfl) (q_off 30 rfl rfl rfl hg139) hS rfl rfl ?_
       refine wa_q 34 rfl (by kernel_rfl) (q_off 30 rfl rfl rfl hg139) hS rfl rfl ?_
       refine wa_q 35 rfl (by kernel_rfl) (q_off 30 rfl rfl rfl hg139) hS rfl rfl ?_
       refine wa_q 36 rfl (by kernel_rfl) (q_off 30 rfl rfl rfl hg139) hS rfl rfl ?_
       refine wa_q 37 rfl (by kernel_rfl) (q_off 30 rfl rfl rfl hg139) hS rfl rfl ?_
       refine wa_q 38 rfl (by kernel_rfl) (q_off 30 rfl rfl rfl hg139) hS rfl rfl ?_
       refine wa_q 39 rfl (by kernel_rfl) (q_guard 24 rfl rfl rfl hg133 (q_pickF rfl hg139 rfl)) hS rfl rfl ?_
       refine wa_q 40 rfl (by kernel_rfl) (q_guard 20 rfl rfl rfl rfl (q_pickF rfl hg133 rfl)) hS rfl rfl ?_
       refine wa_q 41 rfl (by kernel_rfl) (q_pickT rfl rfl rfl) hS rfl rfl ?_
       refine wa_q 42 rfl (by kernel_rfl) (q_assign rfl) hS rfl rfl ?_
       refine wa_done (by kernel_rfl) ?_
       exact ⟨(), M, ⟨(show some (Value.bool false) = some (Value.bool (((decide (x2.inp = 0)) || ((decide ((i : Int) < ((runesL x).length : Int))) && (decide (((runesL x).getD i 0) = x2.inp)))) && ((decide (x2.out = 0)) || ((decide ((j : Int) < ((runesL y).length : Int))) && (decide (((runesL y).getD j 0) = x2.out)))))) from by first | (simp only [hg112, hg133, hg139, bL8]; done) | (simp_all; done) | (simp_all; omega)), trivial⟩, unw_take 43 rfl rfl⟩
      refine wa_q 4 rfl (by kernel_rfl) (q_guard 3 rfl rfl rfl hg112 (q_fa fo_82_1 rfl)) hS rfl rfl ?_
      refine wa_q 5 rfl (by kernel_rfl) ((q_guard 3 rfl rfl rfl hg112 (q_ldb 2 Try.underlying3 rfl rfl rfl rfl)).mono fun _ h => h.1) hS rfl rfl ?_
      refine wa_q 6 rfl (by kernel_rfl) (q_guard 3 rfl rfl rfl hg112 (q_move rfl)) hS rfl rfl ?_
      refine wa_q 7 rfl (by kernel_rfl) (q_guard 3 rfl rfl rfl hg112 (q_lenR ((R21.mono hJ26).mono hJ41) Try.underlying40 rfl)) hS rfl rfl ?_
      refine wa_q 8 rfl (by kernel_rfl) (q_guard 3 rfl rfl rfl hg112 (q_lss rfl rfl)) hS rfl rfl ?_
      refine wa_q 9 rfl (by kernel_rfl) (q_guard 3 rfl rfl rfl hg112 (q_move rfl)) hS rfl rfl ?_
      rcases Bool.eq_false_or_eq_true (decide ((i : Int) < ((runesL x).length : Int))) with hg118 | hg118
      ·refine wa_q 10 rfl (by kernel_rfl) (q_guard 9 rfl rfl rfl hg118 (q_move rfl)) hS rfl rfl ?_
       refine wa_q 11 rfl (by kernel_rfl) (q_guard 9 rfl rfl rfl hg118 (q_fa fo_82_1 rfl)) hS rfl rfl ?_
       refine wa_q 12 rfl (by kernel_rfl) ((q_guard 9 rfl rfl rfl hg118 (q_ldb 2 Try.underlying3 rfl rfl rfl rfl)).mono fun _ h => h.1) hS rfl rfl ?_
       refine wa_ixSG (j := i) 9 rfl rfl rfl hg118 13 hS (fun _ h => ((R21.mono hJ26).mono hJ41).mono h.1.imm) rfl (by kernel_rfl) Try.underlying40 rfl rfl (getD_at (d := 0) (by have := of_decide_eq_true hg118; omega)) rfl (fun b122 o122 p122 => ?_)
       refine wa_q 14 rfl (by kernel_rfl) (q_guard 9 rfl rfl rfl hg118 (q_ldp p122 rfl rfl)) hS rfl rfl ?_
       refine wa_q 15 rfl (by kernel_rfl) (q_guard 9 rfl rfl rfl hg118 (q_fa fo_50_2 rfl)) hS rfl rfl ?_
       refine wa_q 16 rfl (by kernel_rfl) ((q_guard 9 rfl rfl rfl hg118 (q_ldb 1 Try.underlying21 rfl rfl rfl rfl)).mono fun _ h => h.1) hS rfl rfl ?_
       refine wa_q 17 rfl (by kernel_rfl) (q_guard 9 rfl rfl rfl hg118 (q_eql rfl rfl)) hS rfl rfl ?_
       refine wa_q 18 rfl (by kernel_rfl) (q_guard 3 rfl rfl rfl hg112 (q_pickT rfl hg118 rfl)) hS rfl rfl ?_
       refine wa_q 19 rfl (by kernel_rfl) (q_pickF rfl hg112 rfl) hS rfl rfl ?_
       refine wa_q 20 rfl (by kernel_rfl) (q_move rfl) hS rfl rfl ?_
       rcases Bool.eq_false_or_eq_true (decide (((runesL x).getD i 0) = x2.inp)) with hg129 | hg129
       ·refine wa_q 21 rfl (by kernel_rfl) (q_guard 20 rfl rfl rfl hg129 (q_fa fo_50_3 rfl)) hS rfl rfl ?_
        refine wa_q 22 rfl (by kernel_rfl) ((q_guard 20 rfl rfl rfl hg129 (q_ldb 1 Try.underlying21 rfl rfl rfl rfl)).mono fun _ h => h.1) hS rfl rfl ?_
        refine wa_q 23 rfl (by kernel_rfl) (q_guard 20 rfl rfl rfl hg129 (q_eql rfl rfl)) hS rfl rfl ?_
        refine wa_q 24 rfl (by kernel_rfl) (q_guard 20 rfl rfl rfl hg129 (q_move rfl)) hS rfl rfl ?_
        rcases Bool.eq_false_or_eq_true (decide (x2.out = 0)) with hg133 | hg133
        ·refine wa_q 25 rfl (by kernel_rfl) (q_off 24 rfl rfl rfl hg133) hS rfl rfl ?_
         refine wa_q 26 rfl (by kernel_rfl) (q_off 24 rfl rfl rfl hg133) hS rfl rfl ?_
         refine wa_q 27 rfl (by kernel_rfl) (q_off 24 rfl rfl rfl hg133) hS rfl rfl ?_
         refine wa_q 28 rfl (by kernel_rfl) (q_off 24 rfl rfl rfl hg133) hS rfl rfl ?_
         refine wa_q 29 rfl (by kernel_rfl) (q_off 24 rfl rfl rfl hg133) hS rfl rfl ?_
         refine wa_q 30 rfl (by kernel_rfl) (q_off 24 rfl rfl rfl hg133) hS rfl rfl ?_
         refine wa_q 31 rfl (by kernel_rfl) (q_offu 30 rfl rfl rfl) hS rfl rfl ?_
         refine wa_q 32 rfl (by kernel_rfl) (q_offu 30 rfl rfl rfl) hS rfl rfl ?_
         refine wa_q 33 rfl (by kernel_rfl) (q_offu 30 rfl rfl rfl) hS rfl rfl ?_
         refine wa_q 34 rfl (by kernel_rfl) (q_offu 30 rfl rfl rfl) hS rfl rfl ?_
         refine wa_q 35 rfl (by kernel_rfl) (q_offu 30 rfl rfl rfl) hS rfl rfl ?_
         refine wa_q 36 rfl (by kernel_rfl) (q_offu 30 rfl rfl rfl) hS rfl rfl ?_
         refine wa_q 37 rfl (by kernel_rfl) (q_offu 30 rfl rfl rfl) hS rfl rfl ?_
         refine wa_q 38 rfl (by kernel_rfl) (q_offu 30 rfl rfl rfl) hS rfl rfl ?_
         refine wa_q 39 rfl (by kernel_rfl) (q_off 24 rfl rfl rfl hg133) hS rfl rfl ?_
         refine wa_q 40 rfl (by kernel_rfl) (q_guard 20 rfl rfl rfl hg129 (q_pickT rfl hg133 rfl)) hS rfl rfl ?_
         refine wa_q 41 rfl (by kernel_rfl) (q_pickT rfl hg129 rfl) hS rfl rfl ?_
         refine wa_q 42 rfl (by kernel_rfl) (q_assign rfl) hS rfl rfl ?_
         refine wa_done (by kernel_rfl) ?_
         exact ⟨(), M, ⟨(show some (Value.bool true) = some (Value.bool (((decide (x2.inp = 0)) || ((decide ((i : Int) < ((runesL x).length : Int))) && (decide (((runesL x).getD i 0) = x2.inp)))) && ((decide (x2.out = 0)) || ((decide ((j : Int) < ((runesL y).length : Int))) && (decide (((runesL y).getD j 0) = x2.out)))))) from by first | (simp only [hg112, hg118, hg129, hg133, bL8]; done) | (simp_all; done) | (simp_all; omega)), trivial⟩, unw_take 43 rfl rfl⟩
        refine wa_q 25 rfl (by kernel_rfl) (q_guard 24 rfl rfl rfl hg133 (q_fa fo_82_2 rfl)) hS rfl rfl ?_
        refine wa_q 26 rfl (by kernel_rfl) ((q_guard 24 rfl rfl rfl hg133 (q_ldb 2 Try.underlying3 rfl rfl rfl rfl)).mono fun _ h => h.1) hS rfl rfl ?_
        refine wa_q 27 rfl (by kernel_rfl) (q_guard 24 rfl rfl rfl hg133 (q_move rfl)) hS rfl rfl ?_
        refine wa_q 28 rfl (by kernel_rfl) (q_guard 24 rfl rfl rfl hg133 (q_lenR (R26.mono hJ41) Try.underlying40 rfl)) hS rfl rfl ?_
        refine wa_q 29 rfl (by kernel_rfl) (q_guard 24 rfl rfl rfl hg133 (q_lss rfl rfl)) hS rfl rfl ?_
        refine wa_q 30 rfl (by kernel_rfl) (q_guard 24 rfl rfl rfl hg133 (q_move rfl)) hS rfl rfl ?_
        rcases Bool.eq_false_or_eq_true (decide ((j : Int) < ((runesL y).length : Int))) with hg139 | hg139
        ·refine wa_q 31 rfl (by kernel_rfl) (q_guard 30 rfl rfl rfl hg139 (q_move rfl)) hS rfl rfl ?_
         refine wa_q 32 rfl (by kernel_rfl) (q_guard 30 rfl rfl rfl hg139 (q_fa fo_82_2 rfl)) hS rfl rfl ?_
         refine wa_q 33 rfl (by kernel_rfl) ((q_guard 30 rfl rfl rfl hg139 (q_ldb 2 Try.underlying3 rfl rfl rfl rfl)).mono fun _ h => h.1) hS rfl rfl ?_
         refine wa_ixSG (j := j) 30 rfl rfl rfl hg139 34 hS (fun _ h => (R26.mono hJ41).mono h.1.imm) rfl (by kernel_rfl) Try.underlying40 rfl rfl (getD_at (d := 0) (by have := of_decide_eq_true hg139; omega)) rfl (fun b143 o143 p143 => ?_)
         refine wa_q 35 rfl (by kernel_rfl) (q_guard 30 rfl rfl rfl hg139 (q_ldp p143 rfl rfl)) hS rfl rfl ?_
         refine wa_q 36 rfl (by kernel_rfl) (q_guard 30 rfl rfl rfl hg139 (q_fa fo_50_3 rfl)) hS rfl rfl ?_
         refine wa_q 37 rfl (by kernel_rfl) ((q_guard 30 rfl rfl rfl hg139 (q_ldb 1 Try.underlying21 rfl rfl rfl rfl)).mono fun _ h => h.1) hS rfl rfl ?_
         refine wa_q 38 rfl (by kernel_rfl) (q_guard 30 rfl rfl rfl hg139 (q_eql rfl rfl)) hS rfl rfl ?_
         refine wa_q 39 rfl (by kernel_rfl) (q_guard 24 rfl rfl rfl hg133 (q_pickT rfl hg139 rfl)) hS rfl rfl ?_
         refine wa_q 40 rfl (by kernel_rfl) (q_guard 20 rfl rfl rfl hg129 (q_pickF rfl hg133 rfl)) hS rfl rfl ?_
         refine wa_q 41 rfl (by kernel_rfl) (q_pickT rfl hg129 rfl) hS rfl rfl ?_
         refine wa_q 42 rfl (by kernel_rfl) (q_assign rfl) hS rfl rfl ?_
         refine wa_done (by kernel_rfl) ?_
         exact ⟨(), M, ⟨(show some (Value.bool (decide (((runesL y).getD j 0) = x2.out))) = some (Value.bool (((decide (x2.inp = 0)) || ((decide ((i : Int) < ((runesL x).length : Int))) && (decide (((runesL x).getD i 0) = x2.inp)))) && ((decide (x2.out = 0)) || ((decide ((j : Int) < ((runesL y).length : Int))) && (decide (((runesL y).getD j 0) = x2.out)))))) from by first | (simp only [hg112, hg118, hg129, hg133, hg139, bL8]; done) | (simp_all; done) | (simp_all; omega)), trivial⟩, unw_take 43 rfl rfl⟩
        refine wa_q 31 rfl (by kernel_rfl) (q_off 30 rfl rfl rfl hg139) hS rfl rfl ?_
        refine wa_q 32 rfl (by kernel_rfl) (q_off 30 rfl rfl rfl hg139) hS rfl rfl ?_
        refine wa_q 33 rfl (by kernel_rfl) (q_off 30 rfl rfl rfl hg139) hS rfl rfl ?_
        refine wa_q 34 rfl (by kernel_rfl) (q_off 30 rfl rfl rfl hg139) hS rfl rfl ?_
        refine wa_q 35 rfl (by kernel_rfl) (q_off 30 rfl rfl rfl hg139) hS rfl rfl ?_
        refine wa_q 36 rfl (by kernel_rfl) (q_off 30 rfl rfl rfl hg139) hS rfl rfl ?_
        refine wa_q 37 rfl (by kernel_rfl) (q_off 30 rfl rfl rfl hg139) hS rfl rfl ?_
        refine wa_q 38 rfl (by kernel_rfl) (q_off 30 rfl rfl rfl hg139) hS rfl rfl ?_
        refine wa_q 39 rfl (by kernel_rfl) (q_guard 24 rfl rfl rfl hg133 (q_pickF rfl hg139 rfl)) hS rfl rfl ?_
        refine wa_q 40 rfl (by kernel_rfl) (q_guard 20 rfl rfl rfl hg129 (q_pickF rfl hg133 rfl)) hS rfl rfl ?_
        refine wa_q 41 rfl (by kernel_rfl) (q_pickT rfl hg129 rfl) hS rfl rfl ?_
        refine wa_q 42 rfl (by kernel_rfl) (q_assign rfl) hS rfl rfl ?_
        refine wa_done (by kernel_rfl) ?_
        exact ⟨(), M, ⟨(show some (Value.bool false) = some (Value.bool (((decide (x2.inp = 0)) || ((decide ((i : Int) < ((runesL x).length : Int))) && (decide (((runesL x).getD i 0) = x2.inp)))) && ((decide (x2.out = 0)) || ((decide ((j : Int) < ((runesL y).length : Int))) && (decide (((runesL y).getD j 0) = x2.out)))))) from by first | (simp only [hg112, hg118, hg129, hg133, hg139, bL8]; done) | (simp_all; done) | (simp_all; omega)), trivial⟩, unw_take 43 rfl rfl⟩
       refine wa_q 21 rfl (by kernel_rfl) (q_off 20 rfl rfl rfl hg129) hS rfl rfl ?_
       refine wa_q 22 rfl (by kernel_rfl) (q_off 20 rfl rfl rfl hg129) hS rfl rfl ?_
       refine wa_q 23 rfl (by kernel_rfl) (q_off 20 rfl rfl rfl hg129) hS rfl rfl ?_
       refine wa_q 24 rfl (by kernel_rfl) (q_off 20 rfl rfl rfl hg129) hS rfl rfl ?_
       refine wa_q 25 rfl (by kernel_rfl) (q_offu 24 rfl rfl rfl) hS rfl rfl ?_
       refine wa_q 26 rfl (by kernel_rfl) (q_offu 24 rfl rfl rfl) hS rfl rfl ?_
       refine wa_q 27 rfl (by kernel_rfl) (q_offu 24 rfl rfl rfl) hS rfl rfl ?_
       refine wa_q 28 rfl (by kernel_rfl) (q_offu 24 rfl rfl rfl) hS rfl rfl ?_
       refine wa_q 29 rfl (by kernel_rfl) (q_offu 24 rfl rfl rfl) hS rfl rfl ?_
       refine wa_q 30 rfl (by kernel_rfl) (q_offu 24 rfl rfl rfl) hS rfl rfl ?_
       refine wa_q 31 rfl (by kernel_rfl) (q_offu 30 rfl rfl rfl) hS rfl rfl ?_
       refine wa_q 32 rfl (by kernel_rfl) (q_offu 30 rfl rfl rfl) hS rfl rfl ?_
       refine wa_q 33 rfl (by kernel_rfl) (q_offu 30 rfl rfl rfl) hS rfl rfl ?_
       refine wa_q 34 rfl (by kernel_rfl) (q_offu 30 rfl rfl rfl) hS rfl rfl ?_
       refine wa_q 35 rfl (by kernel_rfl) (q_offu 30 rfl rfl rfl) hS rfl rfl ?_
       refine wa_q 36 rfl (by kernel_rfl) (q_offu 30 rfl rfl rfl) hS rfl rfl ?_
       refine wa_q 37 rfl (by kernel_rfl) (q_offu 30 rfl rfl rfl) hS rfl rfl ?_
       refine wa_q 38 rfl (by kernel_rfl) (q_offu 30 rfl rfl rfl) hS rfl rfl ?_
       refine wa_q 39 rfl (by kernel_rfl) (q_offu 24 rfl rfl rfl) hS rfl rfl ?_
       refine wa_q 40 rfl (by kernel_rfl) (q_off 20 rfl rfl rfl hg129) hS rfl rfl ?_
       refine wa_q 41 rfl (by kernel_rfl) (q_pickF rfl hg129 rfl) hS rfl rfl ?_
       refine wa_q 42 rfl (by kernel_rfl) (q_assign rfl) hS rfl rfl ?_
       refine wa_done (by kernel_rfl) ?_
       exact ⟨(), M, ⟨(show some (Value.bool false) = some (Value.bool (((decide (x2.inp = 0)) || ((decide ((i : Int) < ((runesL x).length : Int))) && (decide (((runesL x).getD i 0) = x2.inp)))) && ((decide (x2.out = 0)) || ((decide ((j : Int) < ((runesL y).length : Int))) && (decide (((runesL y).getD j 0) = x2.out)))))) from by first | (simp only [hg112, hg118, hg129, bL8]; done) | (simp_all; done) | (simp_all; omega)), trivial⟩, unw_take 43 rfl rfl⟩
      refine wa_q 10 rfl (by kernel_rfl) (q_off 9 rfl rfl rfl hg118) hS rfl rfl ?_
      refine wa_q 11 rfl (by kernel_rfl) (q_off 9 rfl rfl rfl hg118) hS rfl rfl ?_
      refine wa_q 12 rfl (by kernel_rfl) (q_off 9 rfl rfl rfl hg118) hS rfl rfl ?_
      refine wa_q 13 rfl (by kernel_rfl) (q_off 9 rfl rfl rfl hg118) hS rfl rfl ?_
      refine wa_q 14 rfl (by kernel_rfl) (q_off 9 rfl rfl rfl hg118) hS rfl rfl ?_
      refine wa_q 15 rfl (by kernel_rfl) (q_off 9 rfl rfl rfl hg118) hS rfl rfl ?_
      refine wa_q 16 rfl (by kernel_rfl) (q_off 9 rfl rfl rfl hg118) hS rfl rfl ?_
      refine wa_q 17 rfl (by kernel_rfl) (q_off 9 rfl rfl rfl hg118) hS rfl rfl ?_
      refine wa_q 18 rfl (by kernel_rfl) (q_guard 3 rfl rfl rfl hg112 (q_pickF rfl hg118 rfl)) hS rfl rfl ?_
      refine wa_q 19 rfl (by kernel_rfl) (q_pickF rfl hg112 rfl) hS rfl rfl ?_
      refine wa_q 20 rfl (by kernel_rfl) (q_move rfl) hS rfl rfl ?_
      refine wa_q 21 rfl (by kernel_rfl) (q_off 20 rfl rfl rfl rfl) hS rfl rfl ?_
      refine wa_q 22 rfl (by kernel_rfl) (q_off 20 rfl rfl rfl rfl) hS rfl rfl ?_
      refine wa_q 23 rfl (by kernel_rfl) (q_off 20 rfl rfl rfl rfl) hS rfl rfl ?_
      refine wa_q 24 rfl (by kernel_rfl) (q_off 20 rfl rfl rfl rfl) hS rfl rfl ?_
      refine wa_q 25 rfl (by kernel_rfl) (q_offu 24 rfl rfl rfl) hS rfl rfl ?_
      refine wa_q 26 rfl (by kernel_rfl) (q_offu 24 rfl rfl rfl) hS rfl rfl ?_
      refine wa_q 27 rfl (by kernel_rfl) (q_offu 24 rfl rfl rfl) hS rfl rfl ?_
      refine wa_q 28 rfl (by kernel_rfl) (q_offu 24 rfl rfl rfl) hS rfl rfl ?_
      refine wa_q 29 rfl (by kernel_rfl) (q_offu 24 rfl rfl rfl) hS rfl rfl ?_
      refine wa_q 30 rfl (by kernel_rfl) (q_offu 24 rfl rfl rfl) hS rfl rfl ?_
      refine wa_q 31 rfl (by kernel_rfl) (q_offu 30 rfl rfl rfl) hS rfl rfl ?_
      refine wa_q 32 rfl (by kernel_rfl) (q_offu 30 rfl rfl rfl) hS rfl rfl ?_
      refine wa_q 33 rfl (by kernel_rfl) (q_offu 30 rfl rfl rfl) hS rfl rfl ?_
      refine wa_q 34 rfl (by kernel_rfl) (q_offu 30 rfl rfl rfl) hS rfl rfl ?_
      refine wa_q 35 rfl (by kernel_rfl) (q_offu 30 rfl rfl rfl) hS rfl rfl ?_
      refine wa_q 36 rfl (by kernel_rfl) (q_offu 30 rfl rfl rfl) hS rfl rfl ?_
      refine wa_q 37 rfl (by kernel_rfl) (q_offu 30 rfl rfl rfl) hS rfl rfl ?_
      refine wa_q 38 rfl (by kernel_rfl) (q_offu 30 rfl rfl rfl) hS rfl rfl ?_
      refine wa_q 39 rfl (by kernel_rfl) (q_offu 24 rfl rfl rfl) hS rfl rfl ?_
      refine wa_q 40 rfl (by kernel_rfl) (q_off 20 rfl rfl rfl rfl) hS rfl rfl ?_
      refine wa_q 41 rfl (by kernel_rfl) (q_pickF rfl rfl rfl) hS rfl rfl ?_
      refine wa_q 42 rfl (by kernel_rfl) (q_assign rfl) hS rfl rfl ?_
      refine wa_done (by kernel_rfl) ?_
      exact ⟨(), M, ⟨(show some (Value.bool false) = some (Value.bool (((decide (x2.inp = 0)) || ((decide ((i : Int) < ((runesL x).length : Int))) && (decide (((runesL x).getD i 0) = x2.inp)))) && ((decide (x2.out = 0)) || ((decide ((j : Int) < ((runesL y).length : Int))) && (decide (((runesL y).getD j 0) = x2.out)))))) from by first | (simp only [hg112, hg118, bL8]; done) | (simp_all; done) | (simp_all; omega)), trivial⟩, unw_take 43 rfl rfl⟩
     rintro _ jr21 w22 M
     refine wc_seq ?_
     refine wc_join (α := Unit) [151, 152, 153, 154, 155, 156, 157] (fun _ => [(157, .bool ((((decide (x2.inp = 0)) || ((decide ((i : Int) < ((runesL x).length : Int))) && (decide (((runesL x).getD i 0) = x2.inp)))) && ((decide (x2.out = 0)) || ((decide ((j : Int) < ((runesL y).length : Int))) && (decide (((runesL y).getD j 0) = x2.out))))) && (!((aget m_42_2 (Place.mk x2.dst ((i : Int) + 1) ((j : Int) + 1))).getD false))))]) (fun _ w' => Mem w I J41 (box b17 82 [.int .i64 x2.dst, .int .i64 ((i : Int) + 1), .int .i64 ((j : Int) + 1)] :: box b16 50 [.int .i64 x2.src, .int .i64 x2.dst, .int .i32 x2.inp, .int .i32 x2.out] :: box b14 82 [.int .i64 (p : Int), .int .i64 (i : Int), .int .i64 (j : Int)] :: row EPlace (sv u_50_2) l_50_2 :: mpr QPlace Value.bool b42 m_42_2 :: box b3 25 [.int .i64 t.states, .int .i64 t.start, sv fu1, sv au1] :: []) w') ?_ ?_
     ·refine wc_region <| wl_mv M rfl rfl <| wl_mv M rfl rfl ?_
      rcases Bool.eq_false_or_eq_true (((decide (x2.inp = 0)) || ((decide ((i : Int) < ((runesL x).length : Int))) && (decide (((runesL x).getD i 0) = x2.inp)))) && ((decide (x2.out = 0)) || ((decide ((j : Int) < ((runesL y).length : Int))) && (decide (((runesL y).getD j 0) = x2.out))))) with hg152 | hg152
      ·refine wl_m M (q_guard 1 rfl rfl rfl hg152 (q_move rfl)) rfl rfl <| wl_m M (q_guard 1 rfl rfl rfl hg152 (q_ldbA 0 Try.underlying82 rfl sz82 rfl rfl rfl rfl)) rfl rfl <| wl_m M (q_guard 1 rfl rfl rfl hg152 (q_lk (k := (Place.mk x2.dst ((i : Int) + 1) ((j : Int) + 1))) (z := false) 4 rfl Try.underlying83 zv4 rfl rfl)) rfl rfl <| wl_m M (q_guard 1 rfl rfl rfl hg152 (q_not rfl)) rfl rfl <| wl_m M (q_pickT rfl hg152 rfl) rfl rfl <| wl_nil ?_
       exact ⟨(), M, ⟨(show some (Value.bool (!((aget m_42_2 (Place.mk x2.dst ((i : Int) + 1) ((j : Int) + 1))).getD false))) = some (Value.bool ((((decide (x2.inp = 0)) || ((decide ((i : Int) < ((runesL x).length : Int))) && (decide (((runesL x).getD i 0) = x2.inp)))) && ((decide (x2.out = 0)) || ((decide ((j : Int) < ((runesL y).length : Int))) && (decide (((runesL y).getD j 0) = x2.out))))) && (!((aget m_42_2 (Place.mk x2.dst ((i : Int) + 1) ((j : Int) + 1))).getD false)))) from by first | (simp only [hg152, bL8]; done) | (simp_all; done) | (simp_all; omega)), trivial⟩, unw_take 7 rfl rfl⟩
      refine wl_m M (q_off 1 rfl rfl rfl hg152) rfl rfl <| wl_m M (q_off 1 rfl rfl rfl hg152) rfl rfl <| wl_m M (q_off 1 rfl rfl rfl hg152) rfl rfl <| wl_m M (q_off 1 rfl rfl rfl hg152) rfl rfl <| wl_m M (q_pickF rfl hg152 rfl) rfl rfl <| wl_nil ?_
      exact ⟨(), M, ⟨(show some (Value.bool false) = some (Value.bool ((((decide (x2.inp = 0)) || ((decide ((i : Int) < ((runesL x).length : Int))) && (decide (((runesL x).getD i 0) = x2.inp)))) && ((decide (x2.out = 0)) || ((decide ((j : Int) < ((runesL y).length : Int))) && (decide (((runesL y).getD j 0) = x2.out))))) && (!((aget m_42_2 (Place.mk x2.dst ((i : Int) + 1) ((j : Int) + 1))).getD false)))) from by first | (simp only [hg152, bL8]; done) | (simp_all; done) | (simp_all; omega)), trivial⟩, unw_take 7 rfl rfl⟩
     rintro _ jr22 w23 M
     refine wc_cond rfl (fun ht157 => ?_) (fun ht157 => ?_)
     ·obtain ⟨h1, h2⟩ := Bool.and_eq_true_iff.1 ht157
      rw [fit_get, fit_get] at h1
      have hfit : (fitB (runesL x) (i : Int) x2.inp && fitB (runesL y) (j : Int) x2.out) = true := h1
      rw [hm2, aget_tr] at h2
      have hnk := nd_t h2
      refine wc_seq <| wc_region <| wl_mv M rfl rfl <| wl_m M (q_ldbA 0 Try.underlying82 rfl sz82 rfl rfl rfl rfl) rfl rfl ?_
      refine wl_e0 (e_mpu (k := (Place.mk x2.dst ((i : Int) + 1) ((j : Int) + 1))) (v := true) 4 M rfl Try.underlying83 rfl rfl rfl) rfl ?_
      intro _ w24 M
      simp only [sC0, sCS] at M
      refine wl_nil <| wc_region <| wl_mv M rfl rfl <| wl_m M (q_ldbA 0 Try.underlying82 rfl sz82 rfl rfl rfl rfl) rfl rfl <| wl_e (e_bsI (E := EPlace) (xs := [(Place.mk x2.dst ((i : Int) + 1) ((j : Int) + 1))]) M (bs_84_1 _ _ _) ⟨⟨rfl, rfl⟩, trivial⟩ rfl rfl (by decide)) rfl rfl ?_
      rintro _ w25 ⟨u162, J162, rfl, hJ162, R162, M⟩
      have hoJ162 := M.old
      refine wl_e (e_app 3 M rfl R162 Try.underlying84 rfl rfl (by have := hB2.len (pl_rect hrng); rw [rect3_len] at this; have := congrArg List.length hc2; rw [List.length_cons] at this; show (_ + 1) * 24 ≤ _; omega)) rfl rfl ?_
      rintro _ w26 ⟨u163, rfl, M⟩
      replace M := M.less hJ162 hoJ41
      simp only [sC0, sCS] at M
      refine wl_as M rfl rfl <| wl_nil <| wc_region <| wl_m M (q_add rfl rfl (IntWalk.i64_in _ (by omega))) rfl rfl ?_
      refine wl_mv M rfl rfl <| wl_nil ?_
      replace M := M.drop 0
      replace M := M.drop 0
      refine ⟨(k2 + 1, u163, l_50_2 ++ [(Place.mk x2.dst ((i : Int) + 1) ((j : Int) + 1))], aput m_42_2 (Place.mk x2.dst ((i : Int) + 1) ((j : Int) + 1)) true), ?_, ⟨(by omega), (by rw [plK_yes hx2 hfit (d := _) (by rw [he1, he2])]; exact hB2.pushT hc2 hnk (by rw [← plK_all]; exact mem_plK hx2 hfit (by rw [he1, he2]))), (snocT hc2), (by rw [hm2, aput_tr hnk]; congr 1; simp), M⟩, ⟨rfl, rfl, trivial⟩, unw_look rfl (unw_hav rfl (unw_look rfl (unw_hav rfl (unw_look rfl unw_base))))⟩
      show (t.outs p).length - (k2 + 1) < (t.outs p).length - k2
      omega
     have hkn := and_fm ht157
     rw [fit_get, fit_get, hm2, aget_tr] at hkn
     refine wc_skip <| wc_region <| wl_m M (q_add rfl rfl (IntWalk.i64_in _ (by omega))) rfl rfl ?_
     refine wl_mv M rfl rfl <| wl_nil ?_
     replace M := M.drop 0
     replace M := M.drop 0
     refine ⟨(k2 + 1, u_50_2, l_50_2, m_42_2), ?_, ⟨(by omega), (by rcases hkn with hkn | hkn; rw [plK_no hx2 hkn]; exact hB2; rw [plK_yes hx2 hkn.1 (d := _) (by rw [he1, he2])]; exact hB2.knownT hc2 (nd_f hkn.2)), hc2, hm2, M⟩, ⟨rfl, rfl, trivial⟩, unw_look rfl (unw_hav rfl (unw_look rfl (unw_hav rfl (unw_look rfl unw_base))))⟩
     show (t.outs p).length - (k2 + 1) < (t.outs p).length - k2
     omega
    have he2 : eatK j x2.out = (j : Int) := eatK_eq (by simpa using ht104)
    refine wc_skip ?_
    refine wc_seq ?_
    refine wc_join (α := Unit) [18, 109, 110, 111, 112, 113, 114, 115, 116, 117, 118, 119, 120, 121, 122, 123, 124, 125, 126, 127, 128, 129, 130, 131, 132, 133, 134, 135, 136, 137, 138, 139, 140, 141, 142, 143, 144, 145, 146, 147, 148, 149, 150] (fun _ => [(18, .bool (((decide (x2.inp = 0)) || ((decide ((i : Int) < ((runesL x).length : Int))) && (decide (((runesL x).getD i 0) = x2.inp)))) && ((decide (x2.out = 0)) || ((decide ((j : Int) < ((runesL y).length : Int))) && (decide (((runesL y).getD j 0) = x2.out))))))]) (fun _ w' => Mem w I J41 (box b17 82 [.int .i64 x2.dst, .int .i64 ((i : Int) + 1), .int .i64 (j : Int)] :: box b16 50 [.int .i64 x2.src, .int .i64 x2.dst, .int .i32 x2.inp, .int .i32 x2.out] :: box b14 82 [.int .i64 (p : Int), .int .i64 (i : Int), .int .i64 (j : Int)] :: row EPlace (sv u_50_2) l_50_2 :: mpr QPlace Value.bool b42 m_42_2 :: box b3 25 [.int .i64 t.states, .int .i64 t.start, sv fu1, sv au1] :: []) w') ?_ ?_
    ·refine wc_draws (fun w' => Mem w I J41 (box b17 82 [.int .i64 x2.dst, .int .i64 ((i : Int) + 1), .int .i64 (j : Int)] :: box b16 50 [.int .i64 x2.src, .int .i64 x2.dst, .int .i32 x2.inp, .int .i32 x2.out] :: box b14 82 [.int .i64 (p : Int), .int .i64 (i : Int), .int .i64 (j : Int)] :: row EPlace (sv u_50_2) l_50_2 :: mpr QPlace Value.bool b42 m_42_2 :: box b3 25 [.int .i64 t.states, .int .i64 t.start, sv fu1, sv au1] :: []) w' ∧ True) [] fol ?_
     replace M := M.drew
     have hS := (⟨M, trivial⟩ : _ ∧ _)
     refine wa_q 0 rfl (by kernel_rfl) (q_fa fo_50_2 rfl) hS rfl rfl ?_
     refine wa_q 1 rfl (by kernel_rfl) ((q_ldb 1 Try.underlying21 rfl rfl rfl rfl).mono fun _ h => h.1) hS rfl rfl ?_
     refine wa_q 2 rfl (by kernel_rfl) (q_eql rfl rfl) hS rfl rfl ?_
     refine wa_q 3 rfl (by kernel_rfl) (q_move rfl) hS rfl rfl ?_
     rcases Bool.eq_false_or_eq_true (decide (x2.inp = 0)) with hg112 | hg112
     ·refine wa_q 4 rfl (by kernel_rfl) (q_off 3 rfl rfl rfl hg112) hS rfl rfl ?_
      refine wa_q 5 rfl (by kernel_rfl) (q_off 3 rfl rfl rfl hg112) hS rfl rfl ?_
      refine wa_q 6 rfl (by kernel_rfl) (q_off 3 rfl rfl rfl hg112) hS rfl rfl ?_
      refine wa_q 7 rfl (by kernel_rfl) (q_off 3 rfl rfl rfl hg112) hS rfl rfl ?_
      refine wa_q 8 rfl (by kernel_rfl) (q_off 3 rfl rfl rfl hg112) hS rfl rfl ?_
      refine wa_q 9 rfl (by kernel_rfl) (q_off 3 rfl rfl rfl hg112) hS rfl rfl ?_
      refine wa_q 10 rfl (by kernel_rfl) (q_offu 9 rfl rfl rfl) hS rfl rfl ?_
      refine wa_q 11 rfl (by kernel_rfl) (q_offu 9 rfl rfl rfl) hS rfl rfl ?_
      refine wa_q 12 rfl (by kernel_rfl) (q_offu 9 rfl rfl rfl) hS rfl rfl ?_
      refine wa_q 13 rfl (by kernel_rfl) (q_offu 9 rfl rfl rfl) hS rfl rfl ?_
      refine wa_q 14 rfl (by kernel_rfl) (q_offu 9 rfl rfl rfl) hS rfl rfl ?_
      refine wa_q 15 rfl (by kernel_rfl) (q_offu 9 rfl rfl rfl) hS rfl rfl ?_
      refine wa_q 16 rfl (by kernel_rfl) (q_offu 9 rfl rfl rfl) hS rfl rfl ?_
      refine wa_q 17 rfl (by kernel_rfl) (q_offu 9 rfl rfl rfl) hS rfl rfl ?_
      refine wa_q 18 rfl (by kernel_rfl) (q_off 3 rfl rfl rfl hg112) hS rfl rfl ?_
      refine wa_q 19 rfl (by kernel_rfl) (q_pickT rfl hg112 rfl) hS rfl rfl ?_
      refine wa_q 20 rfl (by kernel_rfl) (q_move rfl) hS rfl rfl ?_
      refine wa_q 21 rfl (by kernel_rfl) (q_guard 20 rfl rfl rfl rfl (q_fa fo_50_3 rfl)) hS rfl rfl ?_
      refine wa_q 22 rfl (by kernel_rfl) ((q_guard 20 rfl rfl rfl rfl (q_ldb 1 Try.underlying21 rfl rfl rfl rfl)).mono fun _ h => h.1) hS rfl rfl ?_
      refine wa_q 23 rfl (by kernel_rfl) (q_guard 20 rfl rfl rfl rfl (q_eql rfl rfl)) hS rfl rfl ?_
      refine wa_q 24 rfl (by kernel_rfl) (q_guard 20 rfl rfl rfl rfl (q_move rfl)) hS rfl rfl ?_
      rcases Bool.eq_false_or_eq_true (decide (x2.out = 0)) with hg133 | hg133
      ·refine wa_q 25 rfl (by kernel_rfl) (q_off 24 rfl rfl rfl hg133) hS rfl rfl ?_
       refine wa_q 26 rfl (by kernel_rfl) (q_off 24 rfl rfl rfl hg133) hS rfl rfl ?_
       refine wa_q 27 rfl (by kernel_rfl) (q_off 24 rfl rfl rfl hg133) hS rfl rfl ?_
       refine wa_q 28 rfl (by kernel_rfl) (q_off 24 rfl rfl rfl hg133) hS rfl rfl ?_
       refine wa_q 29 rfl (by kernel_rfl) (q_off 24 rfl rfl rfl hg133) hS rfl rfl ?_
       refine wa_q 30 rfl (by kernel_rfl) (q_off 24 rfl rfl rfl hg133) hS rfl rfl ?_
       refine wa_q 31 rfl (by kernel_rfl) (q_offu 30 rfl rfl rfl) hS rfl rfl ?_
       refine wa_q 32 rfl (by kernel_rfl) (q_offu 30 rfl rfl rfl) hS rfl rfl ?_
       refine wa_q 33 rfl (by kernel_rfl) (q_offu 30 rfl rfl rfl) hS rfl rfl ?_
       refine wa_q 34 rfl (by kernel_rfl) (q_offu 30 rfl rfl rfl) hS rfl rfl ?_
       refine wa_q 35 rfl (by kernel_rfl) (q_offu 30 rfl rfl rfl) hS rfl rfl ?_
       refine wa_q 36 rfl (by kernel_rfl) (q_offu 30 rfl rfl rfl) hS rfl rfl ?_
       refine wa_q 37 rfl (by kernel_rfl) (q_offu 30 rfl rfl rfl) hS rfl rfl ?_
       refine wa_q 38 rfl (by kernel_rfl) (q_offu 30 rfl rfl rfl) hS rfl rfl ?_
       refine wa_q 39 rfl (by kernel_rfl) (q_off 24 rfl rfl rfl hg133) hS rfl rfl ?_
       refine wa_q 40 rfl (by kernel_rfl) (q_guard 20 rfl rfl rfl rfl (q_pickT rfl hg133 rfl)) hS rfl rfl ?_
       refine wa_q 41 rfl (by kernel_rfl) (q_pickT rfl rfl rfl) hS rfl rfl ?_
       refine wa_q 42 rfl (by kernel_rfl) (q_assign rfl) hS rfl rfl ?_
       refine wa_done (by kernel_rfl) ?_
       exact ⟨(), M, ⟨(show some (Value.bool true) = some (Value.bool (((decide (x2.inp = 0)) || ((decide ((i : Int) < ((runesL x).length : Int))) && (decide (((runesL x).getD i 0) = x2.inp)))) && ((decide (x2.out = 0)) || ((decide ((j : Int) < ((runesL y).length : Int))) && (decide (((runesL y).getD j 0) = x2.out)))))) from by first | (simp only [hg112, hg133, bL8]; done) | (simp_all; done) | (simp_all; omega)), trivial⟩, unw_take 43 rfl rfl⟩
      refine wa_q 25 rfl (by kernel_rfl) (q_guard 24 rfl rfl rfl hg133 (q_fa fo_82_2 rfl)) hS rfl rfl ?_
      refine wa_q 26 rfl (by kernel_rfl) ((q_guard 24 rfl rfl rfl hg133 (q_ldb 2 Try.underlying3 rfl rfl rfl rfl)).mono fun _ h => h.1) hS rfl rfl ?_
      refine wa_q 27 rfl (by kernel_rfl) (q_guard 24 rfl rfl rfl hg133 (q_move rfl)) hS rfl rfl ?_
      refine wa_q 28 rfl (by kernel_rfl) (q_guard 24 rfl rfl rfl hg133 (q_lenR (R26.mono hJ41) Try.underlying40 rfl)) hS rfl rfl ?_
      refine wa_q 29 rfl (by kernel_rfl) (q_guard 24 rfl rfl rfl hg133 (q_lss rfl rfl)) hS rfl rfl ?_
      refine wa_q 30 rfl (by kernel_rfl) (q_guard 24 rfl rfl rfl hg133 (q_move rfl)) hS rfl rfl ?_
      rcases Bool.eq_false_or_eq_true (decide ((j : Int) < ((runesL y).length : Int))) with hg139 | hg139
      ·refine wa_q 31 rfl (by kernel_rfl) (q_guard 30 rfl rfl rfl hg139 (q_move rfl)) hS rfl rfl ?_
       refine wa_q 32 rfl (by kernel_rfl) (q_guard 30 rfl rfl rfl hg139 (q_fa fo_82_2 rfl)) hS rfl rfl ?_
       refine wa_q 33 rfl (by kernel_rfl) ((q_guard 30 rfl rfl rfl hg139 (q_ldb 2 Try.underlying3 rfl rfl rfl rfl)).mono fun _ h => h.1) hS rfl rfl ?_
       refine wa_ixSG (j := j) 30 rfl rfl rfl hg139 34 hS (fun _ h => (R26.mono hJ41).mono h.1.imm) rfl (by kernel_rfl) Try.underlying40 rfl rfl (getD_at (d := 0) (by have := of_decide_eq_true hg139; omega)) rfl (fun b143 o143 p143 => ?_)
       refine wa_q 35 rfl (by kernel_rfl) (q_guard 30 rfl rfl rfl hg139 (q_ldp p143 rfl rfl)) hS rfl rfl ?_
       refine wa_q 36 rfl (by kernel_rfl) (q_guard 30 rfl rfl rfl hg139 (q_fa fo_50_3 rfl)) hS rfl rfl ?_
       refine wa_q 37 rfl (by kernel_rfl) ((q_guard 30 rfl rfl rfl hg139 (q_ldb 1 Try.underlying21 rfl rfl rfl rfl)).mono fun _ h => h.1) hS rfl rfl ?_
       refine wa_q 38 rfl (by kernel_rfl) (q_guard 30 rfl rfl rfl hg139 (q_eql rfl rfl)) hS rfl rfl ?_
       refine wa_q 39 rfl (by kernel_rfl) (q_guard 24 rfl rfl rfl hg133 (q_pickT rfl hg139 rfl)) hS rfl rfl ?_
       refine wa_q 40 rfl (by kernel_rfl) (q_guard 20 rfl rfl rfl rfl (q_pickF rfl hg133 rfl)) hS rfl rfl ?_
       refine wa_q 41 rfl (by kernel_rfl) (q_pickT rfl rfl rfl) hS rfl rfl ?_
       refine wa_q 42 rfl (by kernel_rfl) (q_assign rfl) hS rfl rfl ?_
       refine wa_done (by kernel_rfl) ?_
       exact ⟨(), M, ⟨(show some (Value.bool (decide (((runesL y).getD j 0) = x2.out))) = some (Value.bool (((decide (x2.inp = 0)) || ((decide ((i : Int) < ((runesL x).length : Int))) && (decide (((runesL x).getD i 0) = x2.inp)))) && ((decide (x2.out = 0)) || ((decide ((j : Int) < ((runesL y).length : Int))) && (decide (((runesL y).getD j 0) = x2.out)))))) from by first | (simp only [hg112, hg133, hg139, bL8]; done) | (simp_all; done) | (simp_all; omega)), trivial⟩, unw_take 43 rfl rfl⟩
      refine wa_q 31 rfl (by kernel_rfl) (q_off 30 rfl rfl rfl hg139) hS rfl rfl ?_
      refine wa_q 32 rfl (by kernel_rfl) (q_off 30 rfl rfl rfl hg139) hS rfl rfl ?_
      refine wa_q 33 rfl (by kernel_rfl) (q_off 30 rfl rfl rfl hg139) hS rfl rfl ?_
      refine wa_q 34 rfl (by kernel_rfl) (q_off 30 rfl rfl rfl hg139) hS rfl rfl ?_
      refine wa_q 35 rfl (by kernel_rfl) (q_off 30 rfl rfl rfl hg139) hS rfl rfl ?_
      refine wa_q 36 rfl (by kernel_rfl) (q_off 30 rfl rfl rfl hg139) hS rfl rfl ?_
      refine wa_q 37 rfl (by kernel_rfl) (q_off 30 rfl rfl rfl hg139) hS rfl rfl ?_
      refine wa_q 38 rfl (by kernel_rfl) (q_off 30 rfl rfl rfl hg139) hS rfl rfl ?_
      refine wa_q 39 rfl (by kernel_rfl) (q_guard 24 rfl rfl rfl hg133 (q_pickF rfl hg139 rfl)) hS rfl rfl ?_
      refine wa_q 40 rfl (by kernel_rfl) (q_guard 20 rfl rfl rfl rfl (q_pickF rfl hg133 rfl)) hS rfl rfl ?_
      refine wa_q 41 rfl (by kernel_rfl) (q_pickT rfl rfl rfl) hS rfl rfl ?_
      refine wa_q 42 rfl (by kernel_rfl) (q_assign rfl) hS rfl rfl ?_
      refine wa_done (by kernel_rfl) ?_
      exact ⟨(), M, ⟨(show some (Value.bool false) = some (Value.bool (((decide (x2.inp = 0)) || ((decide ((i : Int) < ((runesL x).length : Int))) && (decide (((runesL x).getD i 0) = x2.inp)))) && ((decide (x2.out = 0)) || ((decide ((j : Int) < ((runesL y).length : Int))) && (decide (((runesL y).getD j 0) = x2.out)))))) from by first | (simp only [hg112, hg133, hg139, bL8]; done) | (simp_all; done) | (simp_all; omega)), trivial⟩, unw_take 43 rfl rfl⟩
     refine wa_q 4 rfl (by kernel_rfl) (q_guard 3 rfl rfl rfl hg112 (q_fa fo_82_1 rfl)) hS rfl rfl ?_
     refine wa_q 5 rfl (by kernel_rfl) ((q_guard 3 rfl rfl rfl hg112 (q_ldb 2 Try.underlying3 rfl rfl rfl rfl)).mono fun _ h => h.1) hS rfl rfl ?_
     refine wa_q 6 rfl (by kernel_rfl) (q_guard 3 rfl rfl rfl hg112 (q_move rfl)) hS rfl rfl ?_
     refine wa_q 7 rfl (by kernel_rfl) (q_guard 3 rfl rfl rfl hg112 (q_lenR ((R21.mono hJ26).mono hJ41) Try.underlying40 rfl)) hS rfl rfl ?_
     refine wa_q 8 rfl (by kernel_rfl) (q_guard 3 rfl rfl rfl hg112 (q_lss rfl rfl)) hS rfl rfl ?_
     refine wa_q 9 rfl (by kernel_rfl) (q_guard 3 rfl rfl rfl hg112 (q_move rfl)) hS rfl rfl ?_
     rcases Bool.eq_false_or_eq_true (decide ((i : Int) < ((runesL x).length : Int))) with hg118 | hg118
     ·refine wa_q 10 rfl (by kernel_rfl) (q_guard 9 rfl rfl rfl hg118 (q_move rfl)) hS rfl rfl ?_
      refine wa_q 11 rfl (by kernel_rfl) (q_guard 9 rfl rfl rfl hg118 (q_fa fo_82_1 rfl)) hS rfl rfl ?_
      refine wa_q 12 rfl (by kernel_rfl) ((q_guard 9 rfl rfl rfl hg118 (q_ldb 2 Try.underlying3 rfl rfl rfl rfl)).mono fun _ h => h.1) hS rfl rfl ?_
      refine wa_ixSG (j := i) 9 rfl rfl rfl hg118 13 hS (fun _ h => ((R21.mono hJ26).mono hJ41).mono h.1.imm) rfl (by kernel_rfl) Try.underlying40 rfl rfl (getD_at (d := 0) (by have := of_decide_eq_true hg118; omega)) rfl (fun b122 o122 p122 => ?_)
      refine wa_q 14 rfl (by kernel_rfl) (q_guard 9 rfl rfl rfl hg118 (q_ldp p122 rfl rfl)) hS rfl rfl ?_
      refine wa_q 15 rfl (by kernel_rfl) (q_guard 9 rfl rfl rfl hg118 (q_fa fo_50_2 rfl)) hS rfl rfl ?_
      refine wa_q 16 rfl (by kernel_rfl) ((q_guard 9 rfl rfl rfl hg118 (q_ldb 1 Try.underlying21 rfl rfl rfl rfl)).mono fun _ h => h.1) hS rfl rfl ?_
      refine wa_q 17 rfl (by kernel_rfl) (q_guard 9 rfl rfl rfl hg118 (q_eql rfl rfl)) hS rfl rfl ?_
      refine wa_q 18 rfl (by kernel_rfl) (q_guard 3 rfl rfl rfl hg112 (q_pickT rfl hg118 rfl)) hS rfl rfl ?_
      refine wa_q 19 rfl (by kernel_rfl) (q_pickF rfl hg112 rfl) hS rfl rfl ?_
      refine wa_q 20 rfl (by kernel_rfl) (q_move rfl) hS rfl rfl ?_
      rcases Bool.eq_false_or_eq_true (decide (((runesL x).getD i 0) = x2.inp)) with hg129 | hg129
      ·refine wa_q 21 rfl (by kernel_rfl) (q_guard 20 rfl rfl rfl hg129 (q_fa fo_50_3 rfl)) hS rfl rfl ?_
       refine wa_q 22 rfl (by kernel_rfl) ((q_guard 20 rfl rfl rfl hg129 (q_ldb 1 Try.underlying21 rfl rfl rfl rfl)).mono fun _ h => h.1) hS rfl rfl ?_
       refine wa_q 23 rfl (by kernel_rfl) (q_guard 20 rfl rfl rfl hg129 (q_eql rfl rfl)) hS rfl rfl ?_
       refine wa_q 24 rfl (by kernel_rfl) (q_guard 20 rfl rfl rfl hg129 (q_move rfl)) hS rfl rfl ?_
       rcases Bool.eq_false_or_eq_true (decide (x2.out = 0)) with hg133 | hg133
       ·refine wa_q 25 rfl (by kernel_rfl) (q_off 24 rfl rfl rfl hg133) hS rfl rfl ?_
        refine wa_q 26 rfl (by kernel_rfl) (q_off 24 rfl rfl rfl hg133) hS rfl rfl ?_
        refine wa_q 27 rfl (by kernel_rfl) (q_off 24 rfl rfl rfl hg133) hS rfl rfl ?_
        refine wa_q 28 rfl (by kernel_rfl) (q_off 24 rfl rfl rfl hg133) hS rfl rfl ?_
        refine wa_q 29 rfl (by kernel_rfl) (q_off 24 rfl rfl rfl hg133) hS rfl rfl ?_
        refine wa_q 30 rfl (by kernel_rfl) (q_off 24 rfl rfl rfl hg133) hS rfl rfl ?_
        refine wa_q 31 rfl (by kernel_rfl) (q_offu 30 rfl rfl rfl) hS rfl rfl ?_
        refine wa_q 32 rfl (by kernel_rfl) (q_offu 30 rfl rfl rfl) hS rfl rfl ?_
        refine wa_q 33 rfl (by kernel_rfl) (q_offu 30 rfl rfl rfl) hS rfl rfl ?_
        refine wa_q 34 rfl (by kernel_rfl) (q_offu 30 rfl rfl rfl) hS rfl rfl ?_
        refine wa_q 35 rfl (by kernel_rfl) (q_offu 30 rfl rfl rfl) hS rfl rfl ?_
        refine wa_q 36 rfl (by kernel_rfl) (q_offu 30 rfl rfl rfl) hS rfl rfl ?_
        refine wa_q 37 rfl (by kernel_rfl) (q_offu 30 rfl rfl rfl) hS rfl rfl ?_
        refine wa_q 38 rfl (by kernel_rfl) (q_offu 30 rfl rfl rfl) hS rfl rfl ?_
        refine wa_q 39 rfl (by kernel_rfl) (q_off 24 rfl rfl rfl hg133) hS rfl rfl ?_
        refine wa_q 40 rfl (by kernel_rfl) (q_guard 20 rfl rfl rfl hg129 (q_pickT rfl hg133 rfl)) hS rfl rfl ?_
        refine wa_q 41 rfl (by kernel_rfl) (q_pickT rfl hg129 rfl) hS rfl rfl ?_
        refine wa_q 42 rfl (by kernel_rfl) (q_assign rfl) hS rfl rfl ?_
        refine wa_done (by kernel_rfl) ?_
        exact ⟨(), M, ⟨(show some (Value.bool true) = some (Value.bool (((decide (x2.inp = 0)) || ((decide ((i : Int) < ((runesL x).length : Int))) && (decide (((runesL x).getD i 0) = x2.inp)))) && ((decide (x2.out = 0)) || ((decide ((j : Int) < ((runesL y).length : Int))) && (decide (((runesL y).getD j 0) = x2.out)))))) from by first | (simp only [hg112, hg118, hg129, hg133, bL8]; done) | (simp_all; done) | (simp_all; omega)), trivial⟩, unw_take 43 rfl rfl⟩
       refine wa_q 25 rfl (by kernel_rfl) (q_guard 24 rfl rfl rfl hg133 (q_fa fo_82_2 rfl)) hS rfl rfl ?_
       refine wa_q 26 rfl (by kernel_rfl) ((q_guard 24 rfl rfl rfl hg133 (q_ldb 2 Try.underlying3 rfl rfl rfl rfl)).mono fun _ h => h.1) hS rfl rfl ?_
       refine wa_q 27 rfl (by kernel_rfl) (q_guard 24 rfl rfl rfl hg133 (q_move rfl)) hS rfl rfl ?_
       refine wa_q 28 rfl (by kernel_rfl) (q_guard 24 rfl rfl rfl hg133 (q_lenR (R26.mono hJ41) Try.underlying40 rfl)) hS rfl rfl ?_
       refine wa_q 29 rfl (by kernel_rfl) (q_guard 24 rfl rfl rfl hg133 (q_lss rfl rfl)) hS rfl rfl ?_
       refine wa_q 30 rfl (by kernel_rfl) (q_guard 24 rfl rfl rfl hg133 (q_move rfl)) hS rfl rfl ?_
       rcases Bool.eq_false_or_eq_true (decide ((j : Int) < ((runesL y).length : Int))) with hg139 | hg139
       ·refine wa_q 31 rfl (by kernel_rfl) (q_guard 30 rfl rfl rfl hg139 (q_move rfl)) hS rfl rfl ?_
        refine wa_q 32 rfl (by kernel_rfl) (q_guard 30 rfl rfl rfl hg139 (q_fa fo_82_2 rfl)) hS rfl rfl ?_
        refine wa_q 33 rfl (by kernel_rfl) ((q_guard 30 rfl rfl rfl hg139 (q_ldb 2 Try.underlying3 rfl rfl rfl rfl)).mono fun _ h => h.1) hS rfl rfl ?_
        refine wa_ixSG (j := j) 30 rfl rfl rfl hg139 34 hS (fun _ h => (R26.mono hJ41).mono h.1.imm) rfl (by kernel_rfl) Try.underlying40 rfl rfl (getD_at (d := 0) (by have := of_decide_eq_true hg139; omega)) rfl (fun b143 o143 p143 => ?_)
        refine wa_q 35 rfl (by kernel_rfl) (q_guard 30 rfl rfl rfl hg139 (q_ldp p143 rfl rfl)) hS rfl rfl ?_
        refine wa_q 36 rfl (by kernel_rfl) (q_guard 30 rfl rfl rfl hg139 (q_fa fo_50_3 rfl)) hS rfl rfl ?_
        refine wa_q 37 rfl (by kernel_rfl) ((q_guard 30 rfl rfl rfl hg139 (q_ldb 1 Try.underlying21 rfl rfl rfl rfl)).mono fun _ h => h.1) hS rfl rfl ?_
        refine wa_q 38 rfl (by kernel_rfl) (q_guard 30 rfl rfl rfl hg139 (q_eql rfl rfl)) hS rfl rfl ?_
        refine wa_q 39 rfl (by kernel_rfl) (q_guard 24 rfl rfl rfl hg133 (q_pickT rfl hg139 rfl)) hS rfl rfl ?_
        refine wa_q 40 rfl (by kernel_rfl) (q_guard 20 rfl rfl rfl hg129 (q_pickF rfl hg133 rfl)) hS rfl rfl ?_
        refine wa_q 41 rfl (by kernel_rfl) (q_pickT rfl hg129 rfl) hS rfl rfl ?_
        refine wa_q 42 rfl (by kernel_rfl) (q_assign rfl) hS rfl rfl ?_
        refine wa_done (by kernel_rfl) ?_
        exact ⟨(), M, ⟨(show some (Value.bool (decide (((runesL y).getD j 0) = x2.out))) = some (Value.bool (((decide (x2.inp = 0)) || ((decide ((i : Int) < ((runesL x).length : Int))) && (decide (((runesL x).getD i 0) = x2.inp)))) && ((decide (x2.out = 0)) || ((decide ((j : Int) < ((runesL y).length : Int))) && (decide (((runesL y).getD j 0) = x2.out)))))) from by first | (simp only [hg112, hg118, hg129, hg133, hg139, bL8]; done) | (simp_all; done) | (simp_all; omega)), trivial⟩, unw_take 43 rfl rfl⟩
       refine wa_q 31 rfl (by kernel_rfl) (q_off 30 rfl rfl rfl hg139) hS rfl rfl ?_
       refine wa_q 32 rfl (by kernel_rfl) (q_off 30 rfl rfl rfl hg139) hS rfl rfl ?_
       refine wa_q 33 rfl (by kernel_rfl) (q_off 30 rfl rfl rfl hg139) hS rfl rfl ?_
       refine wa_q 34 rfl (by kernel_rfl) (q_off 30 rfl rfl rfl hg139) hS rfl rfl ?_
       refine wa_q 35 rfl (by kernel_rfl) (q_off 30 rfl rfl rfl hg139) hS rfl rfl ?_
       refine wa_q 36 rfl (by kernel_rfl) (q_off 30 rfl rfl rfl hg139) hS rfl rfl ?_
       refine wa_q 37 rfl (by kernel_rfl) (q_off 30 rfl rfl rfl hg139) hS rfl rfl ?_
       refine wa_q 38 rfl (by kernel_rfl) (q_off 30 rfl rfl rfl hg139) hS rfl rfl ?_
       refine wa_q 39 rfl (by kernel_rfl) (q_guard 24 rfl rfl rfl hg133 (q_pickF rfl hg139 rfl)) hS rfl rfl ?_
       refine wa_q 40 rfl (by kernel_rfl) (q_guard 20 rfl rfl rfl hg129 (q_pickF rfl hg133 rfl)) hS rfl rfl ?_
       refine wa_q 41 rfl (by kernel_rfl) (q_pickT rfl hg129 rfl) hS rfl rfl ?_
       refine wa_q 42 rfl (by kernel_rfl) (q_assign rfl) hS rfl rfl ?_
       refine wa_done (by kernel_rfl) ?_
       exact ⟨(), M, ⟨(show some (Value.bool false) = some (Value.bool (((decide (x2.inp = 0)) || ((decide ((i : Int) < ((runesL x).length : Int))) && (decide (((runesL x).getD i 0) = x2.inp)))) && ((decide (x2.out = 0)) || ((decide ((j : Int) < ((runesL y).length : Int))) && (decide (((runesL y).getD j 0) = x2.out)))))) from by first | (simp only [hg112, hg118, hg129, hg133, hg139, bL8]; done) | (simp_all; done) | (simp_all; omega)), trivial⟩, unw_take 43 rfl rfl⟩
      refine wa_q 21 rfl (by kernel_rfl) (q_off 20 rfl rfl rfl hg129) hS rfl rfl ?_
      refine wa_q 22 rfl (by kernel_rfl) (q_off 20 rfl rfl rfl hg129) hS rfl rfl ?_
      refine wa_q 23 rfl (by kernel_rfl) (q_off 20 rfl rfl rfl hg129) hS rfl rfl ?_
      refine wa_q 24 rfl (by kernel_rfl) (q_off 20 rfl rfl rfl hg129) hS rfl rfl ?_
      refine wa_q 25 rfl (by kernel_rfl) (q_offu 24 rfl rfl rfl) hS rfl rfl ?_
      refine wa_q 26 rfl (by kernel_rfl) (q_offu 24 rfl rfl rfl) hS rfl rfl ?_
      refine wa_q 27 rfl (by kernel_rfl) (q_offu 24 rfl rfl rfl) hS rfl rfl ?_
      refine wa_q 28 rfl (by kernel_rfl) (q_offu 24 rfl rfl rfl) hS rfl rfl ?_
      refine wa_q 29 rfl (by kernel_rfl) (q_offu 24 rfl rfl rfl) hS rfl rfl ?_
      refine wa_q 30 rfl (by kernel_rfl) (q_offu 24 rfl rfl rfl) hS rfl rfl ?_
      refine wa_q 31 rfl (by kernel_rfl) (q_offu 30 rfl rfl rfl) hS rfl rfl ?_
      refine wa_q 32 rfl (by kernel_rfl) (q_offu 30 rfl rfl rfl) hS rfl rfl ?_
      refine wa_q 33 rfl (by kernel_rfl) (q_offu 30 rfl rfl rfl) hS rfl rfl ?_
      refine wa_q 34 rfl (by kernel_rfl) (q_offu 30 rfl rfl rfl) hS rfl rfl ?_
      refine wa_q 35 rfl (by kernel_rfl) (q_offu 30 rfl rfl rfl) hS rfl rfl ?_
      refine wa_q 36 rfl (by kernel_rfl) (q_offu 30 rfl rfl rfl) hS rfl rfl ?_
      refine wa_q 37 rfl (by kernel_rfl) (q_offu 30 rfl rfl rfl) hS rfl rfl ?_
      refine wa_q 38 rfl (by kernel_rfl) (q_offu 30 rfl rfl rfl) hS rfl rfl ?_
      refine wa_q 39 rfl (by kernel_rfl) (q_offu 24 rfl rfl rfl) hS rfl rfl ?_
      refine wa_q 40 rfl (by kernel_rfl) (q_off 20 rfl rfl rfl hg129) hS rfl rfl ?_
      refine wa_q 41 rfl (by kernel_rfl) (q_pickF rfl hg129 rfl) hS rfl rfl ?_
      refine wa_q 42 rfl (by kernel_rfl) (q_assign rfl) hS rfl rfl ?_
      refine wa_done (by kernel_rfl) ?_
      exact ⟨(), M, ⟨(show some (Value.bool false) = some (Value.bool (((decide (x2.inp = 0)) || ((decide ((i : Int) < ((runesL x).length : Int))) && (decide (((runesL x).getD i 0) = x2.inp)))) && ((decide (x2.out = 0)) || ((decide ((j : Int) < ((runesL y).length : Int))) && (decide (((runesL y).getD j 0) = x2.out)))))) from by first | (simp only [hg112, hg118, hg129, bL8]; done) | (simp_all; done) | (simp_all; omega)), trivial⟩, unw_take 43 rfl rfl⟩
     refine wa_q 10 rfl (by kernel_rfl) (q_off 9 rfl rfl rfl hg118) hS rfl rfl ?_
     refine wa_q 11 rfl (by kernel_rfl) (q_off 9 rfl rfl rfl hg118) hS rfl rfl ?_
     refine wa_q 12 rfl (by kernel_rfl) (q_off 9 rfl rfl rfl hg118) hS rfl rfl ?_
     refine wa_q 13 rfl (by kernel_rfl) (q_off 9 rfl rfl rfl hg118) hS rfl rfl ?_
     refine wa_q 14 rfl (by kernel_rfl) (q_off 9 rfl rfl rfl hg118) hS rfl rfl ?_
     refine wa_q 15 rfl (by kernel_rfl) (q_off 9 rfl rfl rfl hg118) hS rfl rfl ?_
     refine wa_q 16 rfl (by kernel_rfl) (q_off 9 rfl rfl rfl hg118) hS rfl rfl ?_
     refine wa_q 17 rfl (by kernel_rfl) (q_off 9 rfl rfl rfl hg118) hS rfl rfl ?_
     refine wa_q 18 rfl (by kernel_rfl) (q_guard 3 rfl rfl rfl hg112 (q_pickF rfl hg118 rfl)) hS rfl rfl ?_
     refine wa_q 19 rfl (by kernel_rfl) (q_pickF rfl hg112 rfl) hS rfl rfl ?_
     refine wa_q 20 rfl (by kernel_rfl) (q_move rfl) hS rfl rfl ?_
     refine wa_q 21 rfl (by kernel_rfl) (q_off 20 rfl rfl rfl rfl) hS rfl rfl ?_
     refine wa_q 22 rfl (by kernel_rfl) (q_off 20 rfl rfl rfl rfl) hS rfl rfl ?_
     refine wa_q 23 rfl (by kernel_rfl) (q_off 20 rfl rfl rfl rfl) hS rfl rfl ?_
     refine wa_q 24 rfl (by kernel_rfl) (q_off 20 rfl rfl rfl rfl) hS rfl rfl ?_
     refine wa_q 25 rfl (by kernel_rfl) (q_offu 24 rfl rfl rfl) hS rfl rfl ?_
     refine wa_q 26 rfl (by kernel_rfl) (q_offu 24 rfl rfl rfl) hS rfl rfl ?_
     refine wa_q 27 rfl (by kernel_rfl) (q_offu 24 rfl rfl rfl) hS rfl rfl ?_
     refine wa_q 28 rfl (by kernel_rfl) (q_offu 24 rfl rfl rfl) hS rfl rfl ?_
     refine wa_q 29 rfl (by kernel_rfl) (q_offu 24 rfl rfl rfl) hS rfl rfl ?_
     refine wa_q 30 rfl (by kernel_rfl) (q_offu 24 rfl rfl rfl) hS rfl rfl ?_
     refine wa_q 31 rfl (by kernel_rfl) (q_offu 30 rfl rfl rfl) hS rfl rfl ?_
     refine wa_q 32 rfl (by kernel_rfl) (q_offu 30 rfl rfl rfl) hS rfl rfl ?_
     refine wa_q 33 rfl (by kernel_rfl) (q_offu 30 rfl rfl rfl) hS rfl rfl ?_
     refine wa_q 34 rfl (by kernel_rfl) (q_offu 30 rfl rfl rfl) hS rfl rfl ?_
     refine wa_q 35 rfl (by kernel_rfl) (q_offu 30 rfl rfl rfl) hS rfl rfl ?_
     refine wa_q 36 rfl (by kernel_rfl) (q_offu 30 rfl rfl rfl) hS rfl rfl ?_
     refine wa_q 37 rfl (by kernel_rfl) (q_offu 30 rfl rfl rfl) hS rfl rfl ?_
     refine wa_q 38 rfl (by kernel_rfl) (q_offu 30 rfl rfl rfl) hS rfl rfl ?_
     refine wa_q 39 rfl (by kernel_rfl) (q_offu 24 rfl rfl rfl) hS rfl rfl ?_
     refine wa_q 40 rfl (by kernel_rfl) (q_off 20 rfl rfl rfl rfl) hS rfl rfl ?_
     refine wa_q 41 rfl (by kernel_rfl) (q_pickF rfl rfl rfl) hS rfl rfl ?_
     refine wa_q 42 rfl (by kernel_rfl) (q_assign rfl) hS rfl rfl ?_
     refine wa_done (by kernel_rfl) ?_
     exact ⟨(), M, ⟨(show some (Value.bool false) = some (Value.bool (((decide (x2.inp = 0)) || ((decide ((i : Int) < ((runesL x).length : Int))) && (decide (((runesL x).getD i 0) = x2.inp)))) && ((decide (x2.out = 0)) || ((decide ((j : Int) < ((runesL y).length : Int))) && (decide (((runesL y).getD j 0) = x2.out)))))) from by first | (simp only [hg112, hg118, bL8]; done) | (simp_all; done) | (simp_all; omega)), trivial⟩, unw_take 43 rfl rfl⟩
    rintro _ jr21 w27 M
    refine wc_seq ?_
    refine wc_join (α := Unit) [151, 152, 153, 154, 155, 156, 157] (fun _ => [(157, .bool ((((decide (x2.inp = 0)) || ((decide ((i : Int) < ((runesL x).length : Int))) && (decide (((runesL x).getD i 0) = x2.inp)))) && ((decide (x2.out = 0)) || ((decide ((j : Int) < ((runesL y).length : Int))) && (decide (((runesL y).getD j 0) = x2.out))))) && (!((aget m_42_2 (Place.mk x2.dst ((i : Int) + 1) (j : Int))).getD false))))]) (fun _ w' => Mem w I J41 (box b17 82 [.int .i64 x2.dst, .int .i64 ((i : Int) + 1), .int .i64 (j : Int)] :: box b16 50 [.int .i64 x2.src, .int .i64 x2.dst, .int .i32 x2.inp, .int .i32 x2.out] :: box b14 82 [.int .i64 (p : Int), .int .i64 (i : Int), .int .i64 (j : Int)] :: row EPlace (sv u_50_2) l_50_2 :: mpr QPlace Value.bool b42 m_42_2 :: box b3 25 [.int .i64 t.states, .int .i64 t.start, sv fu1, sv au1] :: []) w') ?_ ?_
    ·refine wc_region <| wl_mv M rfl rfl <| wl_mv M rfl rfl ?_
     rcases Bool.eq_false_or_eq_true (((decide (x2.inp = 0)) || ((decide ((i : Int) < ((runesL x).length : Int))) && (decide (((runesL x).getD i 0) = x2.inp)))) && ((decide (x2.out = 0)) || ((decide ((j : Int) < ((runesL y).length : Int))) && (decide (((runesL y).getD j 0) = x2.out))))) with hg152 | hg152
     ·refine wl_m M (q_guard 1 rfl rfl rfl hg152 (q_move rfl)) rfl rfl <| wl_m M (q_guard 1 rfl rfl rfl hg152 (q_ldbA 0 Try.underlying82 rfl sz82 rfl rfl rfl rfl)) rfl rfl <| wl_m M (q_guard 1 rfl rfl rfl hg152 (q_lk (k := (Place.mk x2.dst ((i : Int) + 1) (j : Int))) (z := false) 4 rfl Try.underlying83 zv4 rfl rfl)) rfl rfl <| wl_m M (q_guard 1 rfl rfl rfl hg152 (q_not rfl)) rfl rfl <| wl_m M (q_pickT rfl hg152 rfl) rfl rfl <| wl_nil ?_
      exact ⟨(), M, ⟨(show some (Value.bool (!((aget m_42_2 (Place.mk x2.dst ((i : Int) + 1) (j : Int))).getD false))) = some (Value.bool ((((decide (x2.inp = 0)) || ((decide ((i : Int) < ((runesL x).length : Int))) && (decide (((runesL x).getD i 0) = x2.inp)))) && ((decide (x2.out = 0)) || ((decide ((j : Int) < ((runesL y).length : Int))) && (decide (((runesL y).getD j 0) = x2.out))))) && (!((aget m_42_2 (Place.mk x2.dst ((i : Int) + 1) (j : Int))).getD false)))) from by first | (simp only [hg152, bL8]; done) | (simp_all; done) | (simp_all; omega)), trivial⟩, unw_take 7 rfl rfl⟩
     refine wl_m M (q_off 1 rfl rfl rfl hg152) rfl rfl <| wl_m M (q_off 1 rfl rfl rfl hg152) rfl rfl <| wl_m M (q_off 1 rfl rfl rfl hg152) rfl rfl <| wl_m M (q_off 1 rfl rfl rfl hg152) rfl rfl <| wl_m M (q_pickF rfl hg152 rfl) rfl rfl <| wl_nil ?_
     exact ⟨(), M, ⟨(show some (Value.bool false) = some (Value.bool ((((decide (x2.inp = 0)) || ((decide ((i : Int) < ((runesL x).length : Int))) && (decide (((runesL x).getD i 0) = x2.inp)))) && ((decide (x2.out = 0)) || ((decide ((j : Int) < ((runesL y).length : Int))) && (decide (((runesL y).getD j 0) = x2.out))))) && (!((aget m_42_2 (Place.mk x2.dst ((i : Int) + 1) (j : Int))).getD false)))) from by first | (simp only [hg152, bL8]; done) | (simp_all; done) | (simp_all; omega)), trivial⟩, unw_take 7 rfl rfl⟩
    rintro _ jr22 w28 M
    refine wc_cond rfl (fun ht157 => ?_) (fun ht157 => ?_)
    ·obtain ⟨h1, h2⟩ := Bool.and_eq_true_iff.1 ht157
     rw [fit_get, fit_get] at h1
     have hfit : (fitB (runesL x) (i : Int) x2.inp && fitB (runesL y) (j : Int) x2.out) = true := h1
     rw [hm2, aget_tr] at h2
     have hnk := nd_t h2
     refine wc_seq <| wc_region <| wl_mv M rfl rfl <| wl_m M (q_ldbA 0 Try.underlying82 rfl sz82 rfl rfl rfl rfl) rfl rfl ?_
     refine wl_e0 (e_mpu (k := (Place.mk x2.dst ((i : Int) + 1) (j : Int))) (v := true) 4 M rfl Try.underlying83 rfl rfl rfl) rfl ?_
     intro _ w29 M
     simp only [sC0, sCS] at M
     refine wl_nil <| wc_region <| wl_mv M rfl rfl <| wl_m M (q_ldbA 0 Try.underlying82 rfl sz82 rfl rfl rfl rfl) rfl rfl <| wl_e (e_bsI (E := EPlace) (xs := [(Place.mk x2.dst ((i : Int) + 1) (j : Int))]) M (bs_84_1 _ _ _) ⟨⟨rfl, rfl⟩, trivial⟩ rfl rfl (by decide)) rfl rfl ?_
     rintro _ w30 ⟨u162, J162, rfl, hJ162, R162, M⟩
     have hoJ162 := M.old
     refine wl_e (e_app 3 M rfl R162 Try.underlying84 rfl rfl (by have := hB2.len (pl_rect hrng); rw [rect3_len] at this; have := congrArg List.length hc2; rw [List.length_cons] at this; show (_ + 1) * 24 ≤ _; omega)) rfl rfl ?_
     rintro _ w31 ⟨u163, rfl, M⟩
     replace M := M.less hJ162 hoJ41
     simp only [sC0, sCS] at M
     refine wl_as M rfl rfl <| wl_nil <| wc_region <| wl_m M (q_add rfl rfl (IntWalk.i64_in _ (by omega))) rfl rfl ?_
     refine wl_mv M rfl rfl <| wl_nil ?_
     replace M := M.drop 0
     replace M := M.drop 0
     refine ⟨(k2 + 1, u163, l_50_2 ++ [(Place.mk x2.dst ((i : Int) + 1) (j : Int))], aput m_42_2 (Place.mk x2.dst ((i : Int) + 1) (j : Int)) true), ?_, ⟨(by omega), (by rw [plK_yes hx2 hfit (d := _) (by rw [he1, he2])]; exact hB2.pushT hc2 hnk (by rw [← plK_all]; exact mem_plK hx2 hfit (by rw [he1, he2]))), (snocT hc2), (by rw [hm2, aput_tr hnk]; congr 1; simp), M⟩, ⟨rfl, rfl, trivial⟩, unw_look rfl (unw_hav rfl (unw_look rfl (unw_hav rfl (unw_look rfl unw_base))))⟩
     show (t.outs p).length - (k2 + 1) < (t.outs p).length - k2
     omega
    have hkn := and_fm ht157
    rw [fit_get, fit_get, hm2, aget_tr] at hkn
    refine wc_skip <| wc_region <| wl_m M (q_add rfl rfl (IntWalk.i64_in _ (by omega))) rfl rfl ?_
    refine wl_mv M rfl rfl <| wl_nil ?_
    replace M := M.drop 0
    replace M := M.drop 0
    refine ⟨(k2 + 1, u_50_2, l_50_2, m_42_2), ?_, ⟨(by omega), (by rcases hkn with hkn | hkn; rw [plK_no hx2 hkn]; exact hB2; rw [plK_yes hx2 hkn.1 (d := _) (by rw [he1, he2])]; exact hB2.knownT hc2 (nd_f hkn.2)), hc2, hm2, M⟩, ⟨rfl, rfl, trivial⟩, unw_look rfl (unw_hav rfl (unw_look rfl (unw_hav rfl (unw_look rfl unw_base))))⟩
    show (t.outs p).length - (k2 + 1) < (t.outs p).length - k2
    omega
   have he1 : eatK i x2.inp = (i : Int) := eatK_eq (by simpa using ht97)
   refine wc_skip ?_
   refine wc_seq ?_
   refine wc_seq <| wc_region <| wl_m M (q_fa fo_50_3 rfl) rfl rfl <| wl_m M (q_ldb 1 Try.underlying21 rfl rfl rfl rfl) rfl rfl <| wl_m M (q_neq rfl rfl) rfl rfl <| wl_nil ?_
   refine wc_cond rfl (fun ht104 => ?_) (fun ht104 => ?_)
   ·have he2 : eatK j x2.out = (j : Int) + 1 := eatK_ne (by simpa using ht104)
    refine wc_region <| wl_m M (q_fa fo_82_2 rfl) rfl rfl <| wl_m M (q_ldb 0 Try.underlying3 rfl rfl rfl rfl) rfl rfl <| wl_m M (q_add rfl rfl (IntWalk.i64_in _ (by omega))) rfl rfl ?_
    refine wl_m M (q_fa fo_82_2 rfl) rfl rfl ?_
    refine wl_e0 (e_stb 0 M rfl rfl rfl sz3 rfl rfl) rfl ?_
    intro _ w32 M
    simp only [sC0, sCS] at M
    refine wl_nil ?_
    refine wc_seq ?_
    refine wc_join (α := Unit) [18, 109, 110, 111, 112, 113, 114, 115, 116, 117, 118, 119, 120, 121, 122, 123, 124, 125, 126, 127, 128, 129, 130, 131, 132, 133, 134, 135, 136, 137, 138, 139, 140, 141, 142, 143, 144, 145, 146, 147, 148, 149, 150] (fun _ => [(18, .bool (((decide (x2.inp = 0)) || ((decide ((i : Int) < ((runesL x).length : Int))) && (decide (((runesL x).getD i 0) = x2.inp)))) && ((decide (x2.out = 0)) || ((decide ((j : Int) < ((runesL y).length : Int))) && (decide (((runesL y).getD j 0) = x2.out))))))]) (fun _ w' => Mem w I J41 (box b17 82 [.int .i64 x2.dst, .int .i64 (i : Int), .int .i64 ((j : Int) + 1)] :: box b16 50 [.int .i64 x2.src, .int .i64 x2.dst, .int .i32 x2.inp, .int .i32 x2.out] :: box b14 82 [.int .i64 (p : Int), .int .i64 (i : Int), .int .i64 (j : Int)] :: row EPlace (sv u_50_2) l_50_2 :: mpr QPlace Value.bool b42 m_42_2 :: box b3 25 [.int .i64 t.states, .int .i64 t.start, sv fu1, sv au1] :: []) w') ?_ ?_
    ·refine wc_draws (fun w' => Mem w I J41 (box b17 82 [.int .i64 x2.dst, .int .i64 (i : Int), .int .i64 ((j : Int) + 1)] :: box b16 50 [.int .i64 x2.src, .int .i64 x2.dst, .int .i32 x2.inp, .int .i32 x2.out] :: box b14 82 [.int .i64 (p : Int), .int .i64 (i : Int), .int .i64 (j : Int)] :: row EPlace (sv u_50_2) l_50_2 :: mpr QPlace Value.bool b42 m_42_2 :: box b3 25 [.int .i64 t.states, .int .i64 t.start, sv fu1, sv au1] :: []) w' ∧ True) [] fol ?_
     replace M := M.drew
     have hS := (⟨M, trivial⟩ : _ ∧ _)
     refine wa_q 0 rfl (by kernel_rfl) (q_fa fo_50_2 rfl) hS rfl rfl ?_
     refine wa_q 1 rfl (by kernel_rfl) ((q_ldb 1 Try.underlying21 rfl rfl rfl rfl).mono fun _ h => h.1) hS rfl rfl ?_
     refine wa_q 2 rfl (by kernel_rfl) (q_eql rfl rfl) hS rfl rfl ?_
     refine wa_q 3 rfl (by kernel_rfl) (q_move rfl) hS rfl rfl ?_
     rcases Bool.eq_false_or_eq_true (decide (x2.inp = 0)) with hg112 | hg112
     ·refine wa_q 4 rfl (by kernel_rfl) (q_off 3 rfl rfl rfl hg112) hS rfl rfl ?_
      refine wa_q 5 rfl (by kernel_rfl) (q_off 3 rfl rfl rfl hg112) hS rfl rfl ?_
      refine wa_q 6 rfl (by kernel_rfl) (q_off 3 rfl rfl rfl hg112) hS rfl rfl ?_
      refine wa_q 7 rfl (by kernel_rfl) (q_off 3 rfl rfl rfl hg112) hS rfl rfl ?_
      refine wa_q 8 rfl (by kernel_rfl) (q_off 3 rfl rfl rfl hg112) hS rfl rfl ?_
      refine wa_q 9 rfl (by kernel_rfl) (q_off 3 rfl rfl rfl hg112) hS rfl rfl ?_
      refine wa_q 10 rfl (by kernel_rfl) (q_offu 9 rfl rfl rfl) hS rfl rfl ?_
      refine wa_q 11 rfl (by kernel_rfl) (q_offu 9 rfl rfl rfl) hS rfl rfl ?_
      refine wa_q 12 rfl (by kernel_rfl) (q_offu 9 rfl rfl rfl) hS rfl rfl ?_
      refine wa_q 13 rfl (by kernel_rfl) (q_offu 9 rfl rfl rfl) hS rfl rfl ?_
      refine wa_q 14 rfl (by kernel_rfl) (q_offu 9 rfl rfl rfl) hS rfl rfl ?_
      refine wa_q 15 rfl (by kernel_rfl) (q_offu 9 rfl rfl rfl) hS rfl rfl ?_
      refine wa_q 16 rfl (by kernel_rfl) (q_offu 9 rfl rfl rfl) hS rfl rfl ?_
      refine wa_q 17 rfl (by kernel_rfl) (q_offu 9 rfl rfl rfl) hS rfl rfl ?_
      refine wa_q 18 rfl (by kernel_rfl) (q_off 3 rfl rfl rfl hg112) hS rfl rfl ?_
      refine wa_q 19 rfl (by kernel_rfl) (q_pickT rfl hg112 rfl) hS rfl rfl ?_
      refine wa_q 20 rfl (by kernel_rfl) (q_move rfl) hS rfl rfl ?_
      refine wa_q 21 rfl (by kernel_rfl) (q_guard 20 rfl rfl rfl rfl (q_fa fo_50_3 rfl)) hS rfl rfl ?_
      refine wa_q 22 rfl (by kernel_rfl) ((q_guard 20 rfl rfl rfl rfl (q_ldb 1 Try.underlying21 rfl rfl rfl rfl)).mono fun _ h => h.1) hS rfl rfl ?_
      refine wa_q 23 rfl (by kernel_rfl) (q_guard 20 rfl rfl rfl rfl (q_eql rfl rfl)) hS rfl rfl ?_
      refine wa_q 24 rfl (by kernel_rfl) (q_guard 20 rfl rfl rfl rfl (q_move rfl)) hS rfl rfl ?_
      rcases Bool.eq_false_or_eq_true (decide (x2.out = 0)) with hg133 | hg133
      ·refine wa_q 25 rfl (by kernel_rfl) (q_off 24 rfl rfl rfl hg133) hS rfl rfl ?_
       refine wa_q 26 rfl (by kernel_rfl) (q_off 24 rfl rfl rfl hg133) hS rfl rfl ?_
       refine wa_q 27 rfl (by kernel_rfl) (q_off 24 rfl rfl rfl hg133) hS rfl rfl ?_
       refine wa_q 28 rfl (by kernel_rfl) (q_off 24 rfl rfl rfl hg133) hS rfl rfl ?_
       refine wa_q 29 rfl (by kernel_rfl) (q_off 24 rfl rfl rfl hg133) hS rfl rfl ?_
       refine wa_q 30 rfl (by kernel_rfl) (q_off 24 rfl rfl rfl hg133) hS rfl rfl ?_
       refine wa_q 31 rfl (by kernel_rfl) (q_offu 30 rfl rfl rfl) hS rfl rfl ?_
       refine wa_q 32 rfl (by kernel_rfl) (q_offu 30 rfl rfl rfl) hS rfl rfl ?_
       refine wa_q 33 rfl (by kernel_rfl) (q_offu 30 rfl rfl rfl) hS rfl rfl ?_
       refine wa_q 34 rfl (by kernel_rfl) (q_offu 30 rfl rfl rfl) hS rfl rfl ?_
       refine wa_q 35 rfl (by kernel_rfl) (q_offu 30 rfl rfl rfl) hS rfl rfl ?_
       refine wa_q 36 rfl (by kernel_rfl) (q_offu 30 rfl rfl rfl) hS rfl rfl ?_
       refine wa_q 37 rfl (by kernel_rfl) (q_offu 30 rfl rfl rfl) hS rfl rfl ?_
       refine wa_q 38 rfl (by kernel_rfl) (q_offu 30 rfl rfl rfl) hS rfl rfl ?_
       refine wa_q 39 rfl (by kernel_rfl) (q_off 24 rfl rfl rfl hg133) hS rfl rfl ?_
       refine wa_q 40 rfl (by kernel_rfl) (q_guard 20 rfl rfl rfl rfl (q_pickT rfl hg133 rfl)) hS rfl rfl ?_
       refine wa_q 41 rfl (by kernel_rfl) (q_pickT rfl rfl rfl) hS rfl rfl ?_
       refine wa_q 42 rfl (by kernel_rfl) (q_assign rfl) hS rfl rfl ?_
       refine wa_done (by kernel_rfl) ?_
       exact ⟨(), M, ⟨(show some (Value.bool true) = some (Value.bool (((decide (x2.inp = 0)) || ((decide ((i : Int) < ((runesL x).length : Int))) && (decide (((runesL x).getD i 0) = x2.inp)))) && ((decide (x2.out = 0)) || ((decide ((j : Int) < ((runesL y).length : Int))) && (decide (((runesL y).getD j 0) = x2.out)))))) from by first | (simp only [hg112, hg133, bL8]; done) | (simp_all; done) | (simp_all; omega)), trivial⟩, unw_take 43 rfl rfl⟩
      refine wa_q 25 rfl (by kernel_rfl) (q_guard 24 rfl rfl rfl hg133 (q_fa fo_82_2 rfl)) hS rfl rfl ?_
      refine wa_q 26 rfl (by kernel_rfl) ((q_guard 24 rfl rfl rfl hg133 (q_ldb 2 Try.underlying3 rfl rfl rfl rfl)).mono fun _ h => h.1) hS rfl rfl ?_
      refine wa_q 27 rfl (by kernel_rfl) (q_guard 24 rfl rfl rfl hg133 (q_move rfl)) hS rfl rfl ?_
      refine wa_q 28 rfl (by kernel_rfl) (q_guard 24 rfl rfl rfl hg133 (q_lenR (R26.mono hJ41) Try.underlying40 rfl)) hS rfl rfl ?_
      refine wa_q 29 rfl (by kernel_rfl) (q_guard 24 rfl rfl rfl hg133 (q_lss rfl rfl)) hS rfl rfl ?_
      refine wa_q 30 rfl (by kernel_rfl) (q_guard 24 rfl rfl rfl hg133 (q_move rfl)) hS rfl rfl ?_
      rcases Bool.eq_false_or_eq_true (decide ((j : Int) < ((runesL y).length : Int))) with hg139 | hg139
      ·refine wa_q 31 rfl (by kernel_rfl) (q_guard 30 rfl rfl rfl hg139 (q_move rfl)) hS rfl rfl ?_
       refine wa_q 32 rfl (by kernel_rfl) (q_guard 30 rfl rfl rfl hg139 (q_fa fo_82_2 rfl)) hS rfl rfl ?_
       refine wa_q 33 rfl (by kernel_rfl) ((q_guard 30 rfl rfl rfl hg139 (q_ldb 2 Try.underlying3 rfl rfl rfl rfl)).mono fun _ h => h.1) hS rfl rfl ?_
       refine wa_ixSG (j := j) 30 rfl rfl rfl hg139 34 hS (fun _ h => (R26.mono hJ41).mono h.1.imm) rfl (by kernel_rfl) Try.underlying40 rfl rfl (getD_at (d := 0) (by have := of_decide_eq_true hg139; omega)) rfl (fun b143 o143 p143 => ?_)
       refine wa_q 35 rfl (by kernel_rfl) (q_guard 30 rfl rfl rfl hg139 (q_ldp p143 rfl rfl)) hS rfl rfl ?_
       refine wa_q 36 rfl (by kernel_rfl) (q_guard 30 rfl rfl rfl hg139 (q_fa fo_50_3 rfl)) hS rfl rfl ?_
       refine wa_q 37 rfl (by kernel_rfl) ((q_guard 30 rfl rfl rfl hg139 (q_ldb 1 Try.underlying21 rfl rfl rfl rfl)).mono fun _ h => h.1) hS rfl rfl ?_
       refine wa_q 38 rfl (by kernel_rfl) (q_guard 30 rfl rfl rfl hg139 (q_eql rfl rfl)) hS rfl rfl ?_
       refine wa_q 39 rfl (by kernel_rfl) (q_guard 24 rfl rfl rfl hg133 (q_pickT rfl hg139 rfl)) hS rfl rfl ?_
       refine wa_q 40 rfl (by kernel_rfl) (q_guard 20 rfl rfl rfl rfl (q_pickF rfl hg133 rfl)) hS rfl rfl ?_
       refine wa_q 41 rfl (by kernel_rfl) (q_pickT rfl rfl rfl) hS rfl rfl ?_
       refine wa_q 42 rfl (by kernel_rfl) (q_assign rfl) hS rfl rfl ?_
       refine wa_done (by kernel_rfl) ?_
       exact ⟨(), M, ⟨(show some (Value.bool (decide (((runesL y).getD j 0) = x2.out))) = some (Value.bool (((decide (x2.inp = 0)) || ((decide ((i : Int) < ((runesL x).length : Int))) && (decide (((runesL x).getD i 0) = x2.inp)))) && ((decide (x2.out = 0)) || ((decide ((j : Int) < ((runesL y).length : Int))) && (decide (((runesL y).getD j 0) = x2.out)))))) from by first | (simp only [hg112, hg133, hg139, bL8]; done) | (simp_all; done) | (simp_all; omega)), trivial⟩, unw_take 43 rfl rfl⟩
      refine wa_q 31 rfl (by kernel_rfl) (q_off 30 rfl rfl rfl hg139) hS rfl rfl ?_
      refine wa_q 32 rfl (by kernel_rfl) (q_off 30 rfl rfl rfl hg139) hS rfl rfl ?_
      refine wa_q 33 rfl (by kernel_rfl) (q_off 30 rfl rfl rfl hg139) hS rfl rfl ?_
      refine wa_q 34 rfl (by kernel_rfl) (q_off 30 rfl rfl rfl hg139) hS rfl rfl ?_
      refine wa_q 35 rfl (by kernel_rfl) (q_off 30 rfl rfl rfl hg139) hS rfl rfl ?_
      refine wa_q 36 rfl (by kernel_rfl) (q_off 30 rfl rfl rfl hg139) hS rfl rfl ?_
      refine wa_q 37 rfl (by kernel_rfl) (q_off 30 rfl rfl rfl hg139) hS rfl rfl ?_
      refine wa_q 38 rfl (by kernel_rfl) (q_off 30 rfl rfl rfl hg139) hS rfl rfl ?_
      refine wa_q 39 rfl (by kernel_rfl) (q_guard 24 rfl rfl rfl hg133 (q_pickF rfl hg139 rfl)) hS rfl rfl ?_
      refine wa_q 40 rfl (by kernel_rfl) (q_guard 20 rfl rfl rfl rfl (q_pickF rfl hg133 rfl)) hS rfl rfl ?_
      refine wa_q 41 rfl (by kernel_rfl) (q_pickT rfl rfl rfl) hS rfl rfl ?_
      refine wa_q 42 rfl (by kernel_rfl) (q_assign rfl) hS rfl rfl ?_
      refine wa_done (by kernel_rfl) ?_
      exact ⟨(), M, ⟨(show some (Value.bool false) = some (Value.bool (((decide (x2.inp = 0)) || ((decide ((i : Int) < ((runesL x).length : Int))) && (decide (((runesL x).getD i 0) = x2.inp)))) && ((decide (x2.out = 0)) || ((decide ((j : Int) < ((runesL y).length : Int))) && (decide (((runesL y).getD j 0) = x2.out)))))) from by first | (simp only [hg112, hg133, hg139, bL8]; done) | (simp_all; done) | (simp_all; omega)), trivial⟩, unw_take 43 rfl rfl⟩
     refine wa_q 4 rfl (by kernel_rfl) (q_guard 3 rfl rfl rfl hg112 (q_fa fo_82_1 rfl)) hS rfl rfl ?_
     refine wa_q 5 rfl (by kernel_rfl) ((q_guard 3 rfl rfl rfl hg112 (q_ldb 2 Try.underlying3 rfl rfl rfl rfl)).mono fun _ h => h.1) hS rfl rfl ?_
     refine wa_q 6 rfl (by kernel_rfl) (q_guard 3 rfl rfl rfl hg112 (q_move rfl)) hS rfl rfl ?_
     refine wa_q 7 rfl (by kernel_rfl) (q_guard 3 rfl rfl rfl hg112 (q_lenR ((R21.mono hJ26).mono hJ41) Try.underlying40 rfl)) hS rfl rfl ?_
     refine wa_q 8 rfl (by kernel_rfl) (q_guard 3 rfl rfl rfl hg112 (q_lss rfl rfl)) hS rfl rfl ?_
     refine wa_q 9 rfl (by kernel_rfl) (q_guard 3 rfl rfl rfl hg112 (q_move rfl)) hS rfl rfl ?_
     rcases Bool.eq_false_or_eq_true (decide ((i : Int) < ((runesL x).length : Int))) with hg118 | hg118
     ·refine wa_q 10 rfl (by kernel_rfl) (q_guard 9 rfl rfl rfl hg118 (q_move rfl)) hS rfl rfl ?_
      refine wa_q 11 rfl (by kernel_rfl) (q_guard 9 rfl rfl rfl hg118 (q_fa fo_82_1 rfl)) hS rfl rfl ?_
      refine wa_q 12 rfl (by kernel_rfl) ((q_guard 9 rfl rfl rfl hg118 (q_ldb 2 Try.underlying3 rfl rfl rfl rfl)).mono fun _ h => h.1) hS rfl rfl ?_
      refine wa_ixSG (j := i) 9 rfl rfl rfl hg118 13 hS (fun _ h => ((R21.mono hJ26).mono hJ41).mono h.1.imm) rfl (by kernel_rfl) Try.underlying40 rfl rfl (getD_at (d := 0) (by have := of_decide_eq_true hg118; omega)) rfl (fun b122 o122 p122 => ?_)
      refine wa_q 14 rfl (by kernel_rfl) (q_guard 9 rfl rfl rfl hg118 (q_ldp p122 rfl rfl)) hS rfl rfl ?_
      refine wa_q 15 rfl (by kernel_rfl) (q_guard 9 rfl rfl rfl hg118 (q_fa fo_50_2 rfl)) hS rfl rfl ?_
      refine wa_q 16 rfl (by kernel_rfl) ((q_guard 9 rfl rfl rfl hg118 (q_ldb 1 Try.underlying21 rfl rfl rfl rfl)).mono fun _ h => h.1) hS rfl rfl ?_
      refine wa_q 17 rfl (by kernel_rfl) (q_guard 9 rfl rfl rfl hg118 (q_eql rfl rfl)) hS rfl rfl ?_
      refine wa_q 18 rfl (by kernel_rfl) (q_guard 3 rfl rfl rfl hg112 (q_pickT rfl hg118 rfl)) hS rfl rfl ?_
      refine wa_q 19 rfl (by kernel_rfl) (q_pickF rfl hg112 rfl) hS rfl rfl ?_
      refine wa_q 20 rfl (by kernel_rfl) (q_move rfl) hS rfl rfl ?_
      rcases Bool.eq_false_or_eq_true (decide (((runesL x).getD i 0) = x2.inp)) with hg129 | hg129
      ·refine wa_q 21 rfl (by kernel_rfl) (q_guard 20 rfl rfl rfl hg129 (q_fa fo_50_3 rfl)) hS rfl rfl ?_
       refine wa_q 22 rfl (by kernel_rfl) ((q_guard 20 rfl rfl rfl hg129 (q_ldb 1 Try.underlying21 rfl rfl rfl rfl)).mono fun _ h => h.1) hS rfl rfl ?_
       refine wa_q 23 rfl (by kernel_rfl) (q_guard 20 rfl rfl rfl hg129 (q_eql rfl rfl)) hS rfl rfl ?_
       refine wa_q 24 rfl (by kernel_rfl) (q_guard 20 rfl rfl rfl hg129 (q_move rfl)) hS rfl rfl ?_
       rcases Bool.eq_false_or_eq_true (decide (x2.out = 0)) with hg133 | hg133
       ·refine wa_q 25 rfl (by kernel_rfl) (q_off 24 rfl rfl rfl hg133) hS rfl rfl ?_
        refine wa_q 26 rfl (by kernel_rfl) (q_off 24 rfl rfl rfl hg133) hS rfl rfl ?_
        refine wa_q 27 rfl (by kernel_rfl) (q_off 24 rfl rfl rfl hg133) hS rfl rfl ?_
        refine wa_q 28 rfl (by kernel_rfl) (q_off 24 rfl rfl rfl hg133) hS rfl rfl ?_
        refine wa_q 29 rfl (by kernel_rfl) (q_off 24 rfl rfl rfl hg133) hS rfl rfl ?_
        refine wa_q 30 rfl (by kernel_rfl) (q_off 24 rfl rfl rfl hg133) hS rfl rfl ?_
        refine wa_q 31 rfl (by kernel_rfl) (q_offu 30 rfl rfl rfl) hS rfl rfl ?_
        refine wa_q 32 rfl (by kernel_rfl) (q_offu 30 rfl rfl rfl) hS rfl rfl ?_
        refine wa_q 33 rfl (by kernel_rfl) (q_offu 30 rfl rfl rfl) hS rfl rfl ?_
        refine wa_q 34 rfl (by kernel_rfl) (q_offu 30 rfl rfl rfl) hS rfl rfl ?_
        refine wa_q 35 rfl (by kernel_rfl) (q_offu 30 rfl rfl rfl) hS rfl rfl ?_
        refine wa_q 36 rfl (by kernel_rfl) (q_offu 30 rfl rfl rfl) hS rfl rfl ?_
        refine wa_q 37 rfl (by kernel_rfl) (q_offu 30 rfl rfl rfl) hS rfl rfl ?_
        refine wa_q 38 rfl (by kernel_rfl) (q_offu 30 rfl rfl rfl) hS rfl rfl ?_
        refine wa_q 39 rfl (by kernel_rfl) (q_off 24 rfl rfl rfl hg133) hS rfl rfl ?_
        refine wa_q 40 rfl (by kernel_rfl) (q_guard 20 rfl rfl rfl hg129 (q_pickT rfl hg133 rfl)) hS rfl rfl ?_
        refine wa_q 41 rfl (by kernel_rfl) (q_pickT rfl hg129 rfl) hS rfl rfl ?_
        refine wa_q 42 rfl (by kernel_rfl) (q_assign rfl) hS rfl rfl ?_
        refine wa_done (by kernel_rfl) ?_
        exact ⟨(), M, ⟨(show some (Value.bool true) = some (Value.bool (((decide (x2.inp = 0)) || ((decide ((i : Int) < ((runesL x).length : Int))) && (decide (((runesL x).getD i 0) = x2.inp)))) && ((decide (x2.out = 0)) || ((decide ((j : Int) < ((runesL y).length : Int))) && (decide (((runesL y).getD j 0) = x2.out)))))) from by first | (simp only [hg112, hg118, hg129, hg133, bL8]; done) | (simp_all; done) | (simp_all; omega)), trivial⟩, unw_take 43 rfl rfl⟩
       refine wa_q 25 rfl (by kernel_rfl) (q_guard 24 rfl rfl rfl hg133 (q_fa fo_82_2 rfl)) hS rfl rfl ?_
       refine wa_q 26 rfl (by kernel_rfl) ((q_guard 24 rfl rfl rfl hg133 (q_ldb 2 Try.underlying3 rfl rfl rfl rfl)).mono fun _ h => h.1) hS rfl rfl ?_
       refine wa_q 27 rfl (by kernel_rfl) (q_guard 24 rfl rfl rfl hg133 (q_move rfl)) hS rfl rfl ?_
       refine wa_q 28 rfl (by kernel_rfl) (q_guard 24 rfl rfl rfl hg133 (q_lenR (R26.mono hJ41) Try.underlying40 rfl)) hS rfl rfl ?_
       refine wa_q 29 rfl (by kernel_rfl) (q_guard 24 rfl rfl rfl hg133 (q_lss rfl rfl)) hS rfl rfl ?_
       refine wa_q 30 rfl (by kernel_rfl) (q_guard 24 rfl rfl rfl hg133 (q_move rfl)) hS rfl rfl ?_
       rcases Bool.eq_false_or_eq_true (decide ((j : Int) < ((runesL y).length : Int))) with hg139 | hg139
       ·refine wa_q 31 rfl (by kernel_rfl) (q_guard 30 rfl rfl rfl hg139 (q_move rfl)) hS rfl rfl ?_
        refine wa_q 32 rfl (by kernel_rfl) (q_guard 30 rfl rfl rfl hg139 (q_fa fo_82_2 rfl)) hS rfl rfl ?_
        refine wa_q 33 rfl (by kernel_rfl) ((q_guard 30 rfl rfl rfl hg139 (q_ldb 2 Try.underlying3 rfl rfl rfl rfl)).mono fun _ h => h.1) hS rfl rfl ?_
        refine wa_ixSG (j := j) 30 rfl rfl rfl hg139 34 hS (fun _ h => (R26.mono hJ41).mono h.1.imm) rfl (by kernel_rfl) Try.underlying40 rfl rfl (getD_at (d := 0) (by have := of_decide_eq_true hg139; omega)) rfl (fun b143 o143 p143 => ?_)
        refine wa_q 35 rfl (by kernel_rfl) (q_guard 30 rfl rfl rfl hg139 (q_ldp p143 rfl rfl)) hS rfl rfl ?_
        refine wa_q 36 rfl (by kernel_rfl) (q_guard 30 rfl rfl rfl hg139 (q_fa fo_50_3 rfl)) hS rfl rfl ?_
        refine wa_q 37 rfl (by kernel_rfl) ((q_guard 30 rfl rfl rfl hg139 (q_ldb 1 Try.underlying21 rfl rfl rfl rfl)).mono fun _ h => h.1) hS rfl rfl ?_
        refine wa_q 38 rfl (by kernel_rfl) (q_guard 30 rfl rfl rfl hg139 (q_eql rfl rfl)) hS rfl rfl ?_
        refine wa_q 39 rfl (by kernel_rfl) (q_guard 24 rfl rfl rfl hg133 (q_pickT rfl hg139 rfl)) hS rfl rfl ?_
        refine wa_q 40 rfl (by kernel_rfl) (q_guard 20 rfl rfl rfl hg129 (q_pickF rfl hg133 rfl)) hS rfl rfl ?_
        refine wa_q 41 rfl (by kernel_rfl) (q_pickT rfl hg129 rfl) hS rfl rfl ?_
        refine wa_q 42 rfl (by kernel_rfl) (q_assign rfl) hS rfl rfl ?_
        refine wa_done (by kernel_rfl) ?_
        exact ⟨(), M, ⟨(show some (Value.bool (decide (((runesL y).getD j 0) = x2.out))) = some (Value.bool (((decide (x2.inp = 0)) || ((decide ((i : Int) < ((runesL x).length : Int))) && (decide (((runesL x).getD i 0) = x2.inp)))) && ((decide (x2.out = 0)) || ((decide ((j : Int) < ((runesL y).length : Int))) && (decide (((runesL y).getD j 0) = x2.out)))))) from by first | (simp only [hg112, hg118, hg129, hg133, hg139, bL8]; done) | (simp_all; done) | (simp_all; omega)), trivial⟩, unw_take 43 rfl rfl⟩
       refine wa_q 31 rfl (by kernel_rfl) (q_off 30 rfl rfl rfl hg139) hS rfl rfl ?_
       refine wa_q 32 rfl (by kernel_rfl) (q_off 30 rfl rfl rfl hg139) hS rfl rfl ?_
       refine wa_q 33 rfl (by kernel_rfl) (q_off 30 rfl rfl rfl hg139) hS rfl rfl ?_
       refine wa_q 34 rfl (by kernel_rfl) (q_off 30 rfl rfl rfl hg139) hS rfl rfl ?_
       refine wa_q 35 rfl (by kernel_rfl) (q_off 30 rfl rfl rfl hg139) hS rfl rfl ?_
       refine wa_q 36 rfl (by kernel_rfl) (q_off 30 rfl rfl rfl hg139) hS rfl rfl ?_
       refine wa_q 37 rfl (by kernel_rfl) (q_off 30 rfl rfl rfl hg139) hS rfl rfl ?_
       refine wa_q 38 rfl (by kernel_rfl) (q_off 30 rfl rfl rfl hg139) hS rfl rfl ?_
       refine wa_q 39 rfl (by kernel_rfl) (q_guard 24 rfl rfl rfl hg133 (q_pickF rfl hg139 rfl)) hS rfl rfl ?_
       refine wa_q 40 rfl (by kernel_rfl) (q_guard 20 rfl rfl rfl hg129 (q_pickF rfl hg133 rfl)) hS rfl rfl ?_
       refine wa_q 41 rfl (by kernel_rfl) (q_pickT rfl hg129 rfl) hS rfl rfl ?_
       refine wa_q 42 rfl (by kernel_rfl) (q_assign rfl) hS rfl rfl ?_
       refine wa_done (by kernel_rfl) ?_
       exact ⟨(), M, ⟨(show some (Value.bool false) = some (Value.bool (((decide (x2.inp = 0)) || ((decide ((i : Int) < ((runesL x).length : Int))) && (decide (((runesL x).getD i 0) = x2.inp)))) && ((decide (x2.out = 0)) || ((decide ((j : Int) < ((runesL y).length : Int))) && (decide (((runesL y).getD j 0) = x2.out)))))) from by first | (simp only [hg112, hg118, hg129, hg133, hg139, bL8]; done) | (simp_all; done) | (simp_all; omega)), trivial⟩, unw_take 43 rfl rfl⟩
      refine wa_q 21 rfl (by kernel_rfl) (q_off 20 rfl rfl rfl hg129) hS rfl rfl ?_
      refine wa_q 22 rfl (by kernel_rfl) (q_off 20 rfl rfl rfl hg129) hS rfl rfl ?_
      refine wa_q 23 rfl (by kernel_rfl) (q_off 20 rfl rfl rfl hg129) hS rfl rfl ?_
      refine wa_q 24 rfl (by kernel_rfl) (q_off 20 rfl rfl rfl hg129) hS rfl rfl ?_
      refine wa_q 25 rfl (by kernel_rfl) (q_offu 24 rfl rfl rfl) hS rfl rfl ?_
      refine wa_q 26 rfl (by kernel_rfl) (q_offu 24 rfl rfl rfl) hS rfl rfl ?_
      refine wa_q 27 rfl (by kernel_rfl) (q_offu 24 rfl rfl rfl) hS rfl rfl ?_
      refine wa_q 28 rfl (by kernel_rfl) (q_offu 24 rfl rfl rfl) hS rfl rfl ?_
      refine wa_q 29 rfl (by kernel_rfl) (q_offu 24 rfl rfl rfl) hS rfl rfl ?_
      refine wa_q 30 rfl (by kernel_rfl) (q_offu 24 rfl rfl rfl) hS rfl rfl ?_
      refine wa_q 31 rfl (by kernel_rfl) (q_offu 30 rfl rfl rfl) hS rfl rfl ?_
      refine wa_q 32 rfl (by kernel_rfl) (q_offu 30 rfl rfl rfl) hS rfl rfl ?_
      refine wa_q 33 rfl (by kernel_rfl) (q_offu 30 rfl rfl rfl) hS rfl rfl ?_
      refine wa_q 34 rfl (by kernel_rfl) (q_offu 30 rfl rfl rfl) hS rfl rfl ?_
      refine wa_q 35 rfl (by kernel_rfl) (q_offu 30 rfl rfl rfl) hS rfl rfl ?_
      refine wa_q 36 rfl (by kernel_rfl) (q_offu 30 rfl rfl rfl) hS rfl rfl ?_
      refine wa_q 37 rfl (by kernel_rfl) (q_offu 30 rfl rfl rfl) hS rfl rfl ?_
      refine wa_q 38 rfl (by kernel_rfl) (q_offu 30 rfl rfl rfl) hS rfl rfl ?_
      refine wa_q 39 rfl (by kernel_rfl) (q_offu 24 rfl rfl rfl) hS rfl rfl ?_
      refine wa_q 40 rfl (by kernel_rfl) (q_off 20 rfl rfl rfl hg129) hS rfl rfl ?_
      refine wa_q 41 rfl (by kernel_rfl) (q_pickF rfl hg129 rfl) hS rfl rfl ?_
      refine wa_q 42 rfl (by kernel_rfl) (q_assign rfl) hS rfl rfl ?_
      refine wa_done (by kernel_rfl) ?_
      exact ⟨(), M, ⟨(show some (Value.bool false) = some (Value.bool (((decide (x2.inp = 0)) || ((decide ((i : Int) < ((runesL x).length : Int))) && (decide (((runesL x).getD i 0) = x2.inp)))) && ((decide (x2.out = 0)) || ((decide ((j : Int) < ((runesL y).length : Int))) && (decide (((runesL y).getD j 0) = x2.out)))))) from by first | (simp only [hg112, hg118, hg129, bL8]; done) | (simp_all; done) | (simp_all; omega)), trivial⟩, unw_take 43 rfl rfl⟩
     refine wa_q 10 rfl (by kernel_rfl) (q_off 9 rfl rfl rfl hg118) hS rfl rfl ?_
     refine wa_q 11 rfl (by kernel_rfl) (q_off 9 rfl rfl rfl hg118) hS rfl rfl ?_
     refine wa_q 12 rfl (by kernel_rfl) (q_off 9 rfl rfl rfl hg118) hS rfl rfl ?_
     refine wa_q 13 rfl (by kernel_rfl) (q_off 9 rfl rfl rfl hg118) hS rfl rfl ?_
     refine wa_q 14 rfl (by kernel_rfl) (q_off 9 rfl rfl rfl hg118) hS rfl rfl ?_
     refine wa_q 15 rfl (by kernel_rfl) (q_off 9 rfl rfl rfl hg118) hS rfl rfl ?_
     refine wa_q 16 rfl (by kernel_rfl) (q_off 9 rfl rfl rfl hg118) hS rfl rfl ?_
     refine wa_q 17 rfl (by kernel_rfl) (q_off 9 rfl rfl rfl hg118) hS rfl rfl ?_
     refine wa_q 18 rfl (by kernel_rfl) (q_guard 3 rfl rfl rfl hg112 (q_pickF rfl hg118 rfl)) hS rfl rfl ?_
     refine wa_q 19 rfl (by kernel_rfl) (q_pickF rfl hg112 rfl) hS rfl rfl ?_
     refine wa_q 20 rfl (by kernel_rfl) (q_move rfl) hS rfl rfl ?_
     refine wa_q 21 rfl (by kernel_rfl) (q_off 20 rfl rfl rfl rfl) hS rfl rfl ?_
     refine wa_q 22 rfl (by kernel_rfl) (q_off 20 rfl rfl rfl rfl) hS rfl rfl ?_
     refine wa_q 23 rfl (by kernel_rfl) (q_off 20 rfl rfl rfl rfl) hS rfl rfl ?_
     refine wa_q 24 rfl (by kernel_rfl) (q_off 20 rfl rfl rfl rfl) hS rfl rfl ?_
     refine wa_q 25 rfl (by kernel_rfl) (q_offu 24 rfl rfl rfl) hS rfl rfl ?_
     refine wa_q 26 rfl (by kernel_rfl) (q_offu 24 rfl rfl rfl) hS rfl rfl ?_
     refine wa_q 27 rfl (by kernel_rfl) (q_offu 24 rfl rfl rfl) hS rfl rfl ?_
     refine wa_q 28 rfl (by kernel_rfl) (q_offu 24 rfl rfl rfl) hS rfl rfl ?_
     refine wa_q 29 rfl (by kernel_rfl) (q_offu 24 rfl rfl rfl) hS rfl rfl ?_
     refine wa_q 30 rfl (by kernel_rfl) (q_offu 24 rfl rfl rfl) hS rfl rfl ?_
     refine wa_q 31 rfl (by kernel_rfl) (q_offu 30 rfl rfl rfl) hS rfl rfl ?_
     refine wa_q 32 rfl (by kernel_rfl) (q_offu 30 rfl rfl rfl) hS rfl rfl ?_
     refine wa_q 33 rfl (by kernel_rfl) (q_offu 30 rfl rfl rfl) hS rfl rfl ?_
     refine wa_q 34 rfl (by kernel_rfl) (q_offu 30 rfl rfl rfl) hS rfl rfl ?_
     refine wa_q 35 rfl (by kernel_rfl) (q_offu 30 rfl rfl rfl) hS rfl rfl ?_
     refine wa_q 36 rfl (by kernel_rfl) (q_offu 30 rfl rfl rfl) hS rfl rfl ?_
     refine wa_q 37 rfl (by kernel_rfl) (q_offu 30 rfl rfl rfl) hS rfl rfl ?_
     refine wa_q 38 rfl (by kernel_rfl) (q_offu 30 rfl rfl rfl) hS rfl rfl ?_
     refine wa_q 39 rfl (by kernel_rfl) (q_offu 24 rfl rfl rfl) hS rfl rfl ?_
     refine wa_q 40 rfl (by kernel_rfl) (q_off 20 rfl rfl rfl rfl) hS rfl rfl ?_
     refine wa_q 41 rfl (by kernel_rfl) (q_pickF rfl rfl rfl) hS rfl rfl ?_
     refine wa_q 42 rfl (by kernel_rfl) (q_assign rfl) hS rfl rfl ?_
     refine wa_done (by kernel_rfl) ?_
     exact ⟨(), M, ⟨(show some (Value.bool false) = some (Value.bool (((decide (x2.inp = 0)) || ((decide ((i : Int) < ((runesL x).length : Int))) && (decide (((runesL x).getD i 0) = x2.inp)))) && ((decide (x2.out = 0)) || ((decide ((j : Int) < ((runesL y).length : Int))) && (decide (((runesL y).getD j 0) = x2.out)))))) from by first | (simp only [hg112, hg118, bL8]; done) | (simp_all; done) | (simp_all; omega)), trivial⟩, unw_take 43 rfl rfl⟩
    rintro _ jr21 w33 M
    refine wc_seq ?_
    refine wc_join (α := Unit) [151, 152, 153, 154, 155, 156, 157] (fun _ => [(157, .bool ((((decide (x2.inp = 0)) || ((decide ((i : Int) < ((runesL x).length : Int))) && (decide (((runesL x).getD i 0) = x2.inp)))) && ((decide (x2.out = 0)) || ((decide ((j : Int) < ((runesL y).length : Int))) && (decide (((runesL y).getD j 0) = x2.out))))) && (!((aget m_42_2 (Place.mk x2.dst (i : Int) ((j : Int) + 1))).getD false))))]) (fun _ w' => Mem w I J41 (box b17 82 [.int .i64 x2.dst, .int .i64 (i : Int), .int .i64 ((j : Int) + 1)] :: box b16 50 [.int .i64 x2.src, .int .i64 x2.dst, .int .i32 x2.inp, .int .i32 x2.out] :: box b14 82 [.int .i64 (p : Int), .int .i64 (i : Int), .int .i64 (j : Int)] :: row EPlace (sv u_50_2) l_50_2 :: mpr QPlace Value.bool b42 m_42_2 :: box b3 25 [.int .i64 t.states, .int .i64 t.start, sv fu1, sv au1] :: []) w') ?_ ?_
    ·refine wc_region <| wl_mv M rfl rfl <| wl_mv M rfl rfl ?_
     rcases Bool.eq_false_or_eq_true (((decide (x2.inp = 0)) || ((decide ((i : Int) < ((runesL x).length : Int))) && (decide (((runesL x).getD i 0) = x2.inp)))) && ((decide (x2.out = 0)) || ((decide ((j : Int) < ((runesL y).length : Int))) && (decide (((runesL y).getD j 0) = x2.out))))) with hg152 | hg152
     ·refine wl_m M (q_guard 1 rfl rfl rfl hg152 (q_move rfl)) rfl rfl <| wl_m M (q_guard 1 rfl rfl rfl hg152 (q_ldbA 0 Try.underlying82 rfl sz82 rfl rfl rfl rfl)) rfl rfl <| wl_m M (q_guard 1 rfl rfl rfl hg152 (q_lk (k := (Place.mk x2.dst (i : Int) ((j : Int) + 1))) (z := false) 4 rfl Try.underlying83 zv4 rfl rfl)) rfl rfl <| wl_m M (q_guard 1 rfl rfl rfl hg152 (q_not rfl)) rfl rfl <| wl_m M (q_pickT rfl hg152 rfl) rfl rfl <| wl_nil ?_
      exact ⟨(), M, ⟨(show some (Value.bool (!((aget m_42_2 (Place.mk x2.dst (i : Int) ((j : Int) + 1))).getD false))) = some (Value.bool ((((decide (x2.inp = 0)) || ((decide ((i : Int) < ((runesL x).length : Int))) && (decide (((runesL x).getD i 0) = x2.inp)))) && ((decide (x2.out = 0)) || ((decide ((j : Int) < ((runesL y).length : Int))) && (decide (((runesL y).getD j 0) = x2.out))))) && (!((aget m_42_2 (Place.mk x2.dst (i : Int) ((j : Int) + 1))).getD false)))) from by first | (simp only [hg152, bL8]; done) | (simp_all; done) | (simp_all; omega)), trivial⟩, unw_take 7 rfl rfl⟩
     refine wl_m M (q_off 1 rfl rfl rfl hg152) rfl rfl <| wl_m M (q_off 1 rfl rfl rfl hg152) rfl rfl <| wl_m M (q_off 1 rfl rfl rfl hg152) rfl rfl <| wl_m M (q_off 1 rfl rfl rfl hg152) rfl rfl <| wl_m M (q_pickF rfl hg152 rfl) rfl rfl <| wl_nil ?_
     exact ⟨(), M, ⟨(show some (Value.bool false) = some (Value.bool ((((decide (x2.inp = 0)) || ((decide ((i : Int) < ((runesL x).length : Int))) && (decide (((runesL x).getD i 0) = x2.inp)))) && ((decide (x2.out = 0)) || ((decide ((j : Int) < ((runesL y).length : Int))) && (decide (((runesL y).getD j 0) = x2.out))))) && (!((aget m_42_2 (Place.mk x2.dst (i : Int) ((j : Int) + 1))).getD false)))) from by first | (simp only [hg152, bL8]; done) | (simp_all; done) | (simp_all; omega)), trivial⟩, unw_take 7 rfl rfl⟩
    rintro _ jr22 w34 M
    refine wc_cond rfl (fun ht157 => ?_) (fun ht157 => ?_)
    ·obtain ⟨h1, h2⟩ := Bool.and_eq_true_iff.1 ht157
     rw [fit_get, fit_get] at h1
     have hfit : (fitB (runesL x) (i : Int) x2.inp && fitB (runesL y) (j : Int) x2.out) = true := h1
     rw [hm2, aget_tr] at h2
     have hnk := nd_t h2
     refine wc_seq <| wc_region <| wl_mv M rfl rfl <| wl_m M (q_ldbA 0 Try.underlying82 rfl sz82 rfl rfl rfl rfl) rfl rfl ?_
     refine wl_e0 (e_mpu (k := (Place.mk x2.dst (i : Int) ((j : Int) + 1))) (v := true) 4 M rfl Try.underlying83 rfl rfl rfl) rfl ?_
     intro _ w35 M
     simp only [sC0, sCS] at M
     refine wl_nil <| wc_region <| wl_mv M rfl rfl <| wl_m M (q_ldbA 0 Try.underlying82 rfl sz82 rfl rfl rfl rfl) rfl rfl <| wl_e (e_bsI (E := EPlace) (xs := [(Place.mk x2.dst (i : Int) ((j : Int) + 1))]) M (bs_84_1 _ _ _) ⟨⟨rfl, rfl⟩, trivial⟩ rfl rfl (by decide)) rfl rfl ?_
     rintro _ w36 ⟨u162, J162, rfl, hJ162, R162, M⟩
     have hoJ162 := M.old
     refine wl_e (e_app 3 M rfl R162 Try.underlying84 rfl rfl (by have := hB2.len (pl_rect hrng); rw [rect3_len] at this; have := congrArg List.length hc2; rw [List.length_cons] at this; show (_ + 1) * 24 ≤ _; omega)) rfl rfl ?_
     rintro _ w37 ⟨u163, rfl, M⟩
     replace M := M.less hJ162 hoJ41
     simp only [sC0, sCS] at M
     refine wl_as M rfl rfl <| wl_nil <| wc_region <| wl_m M (q_add rfl rfl (IntWalk.i64_in _ (by omega))) rfl rfl ?_
     refine wl_mv M rfl rfl <| wl_nil ?_
     replace M := M.drop 0
     replace M := M.drop 0
     refine ⟨(k2 + 1, u163, l_50_2 ++ [(Place.mk x2.dst (i : Int) ((j : Int) + 1))], aput m_42_2 (Place.mk x2.dst (i : Int) ((j : Int) + 1)) true), ?_, ⟨(by omega), (by rw [plK_yes hx2 hfit (d := _) (by rw [he1, he2])]; exact hB2.pushT hc2 hnk (by rw [← plK_all]; exact mem_plK hx2 hfit (by rw [he1, he2]))), (snocT hc2), (by rw [hm2, aput_tr hnk]; congr 1; simp), M⟩, ⟨rfl, rfl, trivial⟩, unw_look rfl (unw_hav rfl (unw_look rfl (unw_hav rfl (unw_look rfl unw_base))))⟩
     show (t.outs p).length - (k2 + 1) < (t.outs p).length - k2
     omega
    have hkn := and_fm ht157
    rw [fit_get, fit_get, hm2, aget_tr] at hkn
    refine wc_skip <| wc_region <| wl_m M (q_add rfl rfl (IntWalk.i64_in _ (by omega))) rfl rfl ?_
    refine wl_mv M rfl rfl <| wl_nil ?_
    replace M := M.drop 0
    replace M := M.drop 0
    refine ⟨(k2 + 1, u_50_2, l_50_2, m_42_2), ?_, ⟨(by omega), (by rcases hkn with hkn | hkn; rw [plK_no hx2 hkn]; exact hB2; rw [plK_yes hx2 hkn.1 (d := _) (by rw [he1, he2])]; exact hB2.knownT hc2 (nd_f hkn.2)), hc2, hm2, M⟩, ⟨rfl, rfl, trivial⟩, unw_look rfl (unw_hav rfl (unw_look rfl (unw_hav rfl (unw_look rfl unw_base))))⟩
    show (t.outs p).length - (k2 + 1) < (t.outs p).length - k2
    omega
   have he2 : eatK j x2.out = (j : Int) := eatK_eq (by simpa using ht104)
   refine wc_skip ?_
   refine wc_seq ?_
   refine wc_join (α := Unit) [18, 109, 110, 111, 112, 113, 114, 115, 116, 117, 118, 119, 120, 121, 122, 123, 124, 125, 126, 127, 128, 129, 130, 131, 132, 133, 134, 135, 136, 137, 138, 139, 140, 141, 142, 143, 144, 145, 146, 147, 148, 149, 150] (fun _ => [(18, .bool (((decide (x2.inp = 0)) || ((decide ((i : Int) < ((runesL x).length : Int))) && (decide (((runesL x).getD i 0) = x2.inp)))) && ((decide (x2.out = 0)) || ((decide ((j : Int) < ((runesL y).length : Int))) && (decide (((runesL y).getD j 0) = x2.out))))))]) (fun _ w' => Mem w I J41 (box b17 82 [.int .i64 x2.dst, .int .i64 (i : Int), .int .i64 (j : Int)] :: box b16 50 [.int .i64 x2.src, .int .i64 x2.dst, .int .i32 x2.inp, .int .i32 x2.out] :: box b14 82 [.int .i64 (p : Int), .int .i64 (i : Int), .int .i64 (j : Int)] :: row EPlace (sv u_50_2) l_50_2 :: mpr QPlace Value.bool b42 m_42_2 :: box b3 25 [.int .i64 t.states, .int .i64 t.start, sv fu1, sv au1] :: []) w') ?_ ?_
   ·refine wc_draws (fun w' => Mem w I J41 (box b17 82 [.int .i64 x2.dst, .int .i64 (i : Int), .int .i64 (j : Int)] :: box b16 50 [.int .i64 x2.src, .int .i64 x2.dst, .int .i32 x2.inp, .int .i32 x2.out] :: box b14 82 [.int .i64 (p : Int), .int .i64 (i : Int), .int .i64 (j : Int)] :: row EPlace (sv u_50_2) l_50_2 :: mpr QPlace Value.bool b42 m_42_2 :: box b3 25 [.int .i64 t.states, .int .i64 t.start, sv fu1, sv au1] :: []) w' ∧ True) [] fol ?_
    replace M := M.drew
    have hS := (⟨M, trivial⟩ : _ ∧ _)
    refine wa_q 0 rfl (by kernel_rfl) (q_fa fo_50_2 rfl) hS rfl rfl ?_
    refine wa_q 1 rfl (by kernel_rfl) ((q_ldb 1 Try.underlying21 rfl rfl rfl rfl).mono fun _ h => h.1) hS rfl rfl ?_
    refine wa_q 2 rfl (by kernel_rfl) (q_eql rfl rfl) hS rfl rfl ?_
    refine wa_q 3 rfl (by kernel_rfl) (q_move rfl) hS rfl rfl ?_
    rcases Bool.eq_false_or_eq_true (decide (x2.inp = 0)) with hg112 | hg112
    ·refine wa_q 4 rfl (by kernel_rfl) (q_off 3 rfl rfl rfl hg112) hS rfl rfl ?_
     refine wa_q 5 rfl (by kernel_rfl) (q_off 3 rfl rfl rfl hg112) hS rfl rfl ?_
     refine wa_q 6 rfl (by kernel_rfl) (q_off 3 rfl rfl rfl hg112) hS rfl rfl ?_
     refine wa_q 7 rfl (by kernel_rfl) (q_off 3 rfl rfl rfl hg112) hS rfl rfl ?_
     refine wa_q 8 rfl (by kernel_rfl) (q_off 3 rfl rfl rfl hg112) hS rfl rfl ?_
     refine wa_q 9 rfl (by kernel_rfl) (q_off 3 rfl rfl rfl hg112) hS rfl rfl ?_
     refine wa_q 10 rfl (by kernel_rfl) (q_offu 9 rfl rfl rfl) hS rfl rfl ?_
     refine wa_q 11 rfl (by kernel_rfl) (q_offu 9 rfl rfl rfl) hS rfl rfl ?_
     refine wa_q 12 rfl (by kernel_rfl) (q_offu 9 rfl rfl rfl) hS rfl rfl ?_
     refine wa_q 13 rfl (by kernel_rfl) (q_offu 9 rfl rfl rfl) hS rfl rfl ?_
     refine wa_q 14 rfl (by kernel_rfl) (q_offu 9 rfl rfl rfl) hS rfl rfl ?_
     refine wa_q 15 rfl (by kernel_rfl) (q_offu 9 rfl rfl rfl) hS rfl rfl ?_
     refine wa_q 16 rfl (by kernel_rfl) (q_offu 9 rfl rfl rfl) hS rfl rfl ?_
     refine wa_q 17 rfl (by kernel_rfl) (q_offu 9 rfl rfl rfl) hS rfl rfl ?_
     refine wa_q 18 rfl (by kernel_rfl) (q_off 3 rfl rfl rfl hg112) hS rfl rfl ?_
     refine wa_q 19 rfl (by kernel_rfl) (q_pickT rfl hg112 rfl) hS rfl rfl ?_
     refine wa_q 20 rfl (by kernel_rfl) (q_move rfl) hS rfl rfl ?_
     refine wa_q 21 rfl (by kernel_rfl) (q_guard 20 rfl rfl rfl rfl (q_fa fo_50_3 rfl)) hS rfl rfl ?_
     refine wa_q 22 rfl (by kernel_rfl) ((q_guard 20 rfl rfl rfl rfl (q_ldb 1 Try.underlying21 rfl rfl rfl rfl)).mono fun _ h => h.1) hS rfl rfl ?_
     refine wa_q 23 rfl (by kernel_rfl) (q_guard 20 rfl rfl rfl rfl (q_eql rfl rfl)) hS rfl rfl ?_
     refine wa_q 24 rfl (by kernel_rfl) (q_guard 20 rfl rfl rfl rfl (q_move rfl)) hS rfl rfl ?_
     rcases Bool.eq_false_or_eq_true (decide (x2.out = 0)) with hg133 | hg133
     ·refine wa_q 25 rfl (by kernel_rfl) (q_off 24 rfl rfl rfl hg133) hS rfl rfl ?_
      refine wa_q 26 rfl (by kernel_rfl) (q_off 24 rfl rfl rfl hg133) hS rfl rfl ?_
      refine wa_q 27 rfl (by kernel_rfl) (q_off 24 rfl rfl rfl hg133) hS rfl rfl ?_
      refine wa_q 28 rfl (by kernel_rfl) (q_off 24 rfl rfl rfl hg133) hS rfl rfl ?_
      refine wa_q 29 rfl (by kernel_rfl) (q_off 24 rfl rfl rfl hg133) hS rfl rfl ?_
      refine wa_q 30 rfl (by kernel_rfl) (q_off 24 rfl rfl rfl hg133) hS rfl rfl ?_
      refine wa_q 31 rfl (by kernel_rfl) (q_offu 30 rfl rfl rfl) hS rfl rfl ?_
      refine wa_q 32 rfl (by kernel_rfl) (q_offu 30 rfl rfl rfl) hS rfl rfl ?_
      refine wa_q 33 rfl (by kernel_rfl) (q_offu 30 rfl rfl rfl) hS rfl rfl ?_
      refine wa_q 34 rfl (by kernel_rfl) (q_offu 30 rfl rfl rfl) hS rfl rfl ?_
      refine wa_q 35 rfl (by kernel_rfl) (q_offu 30 rfl rfl rfl) hS rfl rfl ?_
      refine wa_q 36 rfl (by kernel_rfl) (q_offu 30 rfl rfl rfl) hS rfl rfl ?_
      refine wa_q 37 rfl (by kernel_rfl) (q_offu 30 rfl rfl rfl) hS rfl rfl ?_
      refine wa_q 38 rfl (by kernel_rfl) (q_offu 30 rfl rfl rfl) hS rfl rfl ?_
      refine wa_q 39 rfl (by kernel_rfl) (q_off 24 rfl rfl rfl hg133) hS rfl rfl ?_
      refine wa_q 40 rfl (by kernel_rfl) (q_guard 20 rfl rfl rfl rfl (q_pickT rfl hg133 rfl)) hS rfl rfl ?_
      refine wa_q 41 rfl (by kernel_rfl) (q_pickT rfl rfl rfl) hS rfl rfl ?_
      refine wa_q 42 rfl (by kernel_rfl) (q_assign rfl) hS rfl rfl ?_
      refine wa_done (by kernel_rfl) ?_
      exact ⟨(), M, ⟨(show some (Value.bool true) = some (Value.bool (((decide (x2.inp = 0)) || ((decide ((i : Int) < ((runesL x).length : Int))) && (decide (((runesL x).getD i 0) = x2.inp)))) && ((decide (x2.out = 0)) || ((decide ((j : Int) < ((runesL y).length : Int))) && (decide (((runesL y).getD j 0) = x2.out)))))) from by first | (simp only [hg112, hg133, bL8]; done) | (simp_all; done) | (simp_all; omega)), trivial⟩, unw_take 43 rfl rfl⟩
     refine wa_q 25 rfl (by kernel_rfl) (q_guard 24 rfl rfl rfl hg133 (q_fa fo_82_2 rfl)) hS rfl rfl ?_
     refine wa_q 26 rfl (by kernel_rfl) ((q_guard 24 rfl rfl rfl hg133 (q_ldb 2 Try.underlying3 rfl rfl rfl rfl)).mono fun _ h => h.1) hS rfl rfl ?_
     refine wa_q 27 rfl (by kernel_rfl) (q_guard 24 rfl rfl rfl hg133 (q_move rfl)) hS rfl rfl ?_
     refine wa_q 28 rfl (by kernel_rfl) (q_guard 24 rfl rfl rfl hg133 (q_lenR (R26.mono hJ41) Try.underlying40 rfl)) hS rfl rfl ?_
     refine wa_q 29 rfl (by kernel_rfl) (q_guard 24 rfl rfl rfl hg133 (q_lss rfl rfl)) hS rfl rfl ?_
     refine wa_q 30 rfl (by kernel_rfl) (q_guard 24 rfl rfl rfl hg133 (q_move rfl)) hS rfl rfl ?_
     rcases Bool.eq_false_or_eq_true (decide ((j : Int) < ((runesL y).length : Int))) with hg139 | hg139
     ·refine wa_q 31 rfl (by kernel_rfl) (q_guard 30 rfl rfl rfl hg139 (q_move rfl)) hS rfl rfl ?_
      refine wa_q 32 rfl (by kernel_rfl) (q_guard 30 rfl rfl rfl hg139 (q_fa fo_82_2 rfl)) hS rfl rfl ?_
      refine wa_q 33 rfl (by kernel_rfl) ((q_guard 30 rfl rfl rfl hg139 (q_ldb 2 Try.underlying3 rfl rfl rfl rfl)).mono fun _ h => h.1) hS rfl rfl ?_
      refine wa_ixSG (j := j) 30 rfl rfl rfl hg139 34 hS (fun _ h => (R26.mono hJ41).mono h.1.imm) rfl (by kernel_rfl) Try.underlying40 rfl rfl (getD_at (d := 0) (by have := of_decide_eq_true hg139; omega)) rfl (fun b143 o143 p143 => ?_)
      refine wa_q 35 rfl (by kernel_rfl) (q_guard 30 rfl rfl rfl hg139 (q_ldp p143 rfl rfl)) hS rfl rfl ?_
      refine wa_q 36 rfl (by kernel_rfl) (q_guard 30 rfl rfl rfl hg139 (q_fa fo_50_3 rfl)) hS rfl rfl ?_
      refine wa_q 37 rfl (by kernel_rfl) ((q_guard 30 rfl rfl rfl hg139 (q_ldb 1 Try.underlying21 rfl rfl rfl rfl)).mono fun _ h => h.1) hS rfl rfl ?_
      refine wa_q 38 rfl (by kernel_rfl) (q_guard 30 rfl rfl rfl hg139 (q_eql rfl rfl)) hS rfl rfl ?_
      refine wa_q 39 rfl (by kernel_rfl) (q_guard 24 rfl rfl rfl hg133 (q_pickT rfl hg139 rfl)) hS rfl rfl ?_
      refine wa_q 40 rfl (by kernel_rfl) (q_guard 20 rfl rfl rfl rfl (q_pickF rfl hg133 rfl)) hS rfl rfl ?_
      refine wa_q 41 rfl (by kernel_rfl) (q_pickT rfl rfl rfl) hS rfl rfl ?_
      refine wa_q 42 rfl (by kernel_rfl) (q_assign rfl) hS rfl rfl ?_
      refine wa_done (by kernel_rfl) ?_
      exact ⟨(), M, ⟨(show some (Value.bool (decide (((runesL y).getD j 0) = x2.out))) = some (Value.bool (((decide (x2.inp = 0)) || ((decide ((i : Int) < ((runesL x).length : Int))) && (decide (((runesL x).getD i 0) = x2.inp)))) && ((decide (x2.out = 0)) || ((decide ((j : Int) < ((runesL y).length : Int))) && (decide (((runesL y).getD j 0) = x2.out)))))) from by first | (simp only [hg112, hg133, hg139, bL8]; done) | (simp_all; done) | (simp_all; omega)), trivial⟩, unw_take 43 rfl rfl⟩
     refine wa_q 31 rfl (by kernel_rfl) (q_off 30 rfl rfl rfl hg139) hS rfl rfl ?_
     refine wa_q 32 rfl (by kernel_rfl) (q_off 30 rfl rfl rfl hg139) hS rfl rfl ?_
     refine wa_q 33 rfl (by kernel_rfl) (q_off 30 rfl rfl rfl hg139) hS rfl rfl ?_
     refine wa_q 34 rfl (by kernel_rfl) (q_off 30 rfl rfl rfl hg139) hS rfl rfl ?_
     refine wa_q 35 rfl (by kernel_rfl) (q_off 30 rfl rfl rfl hg139) hS rfl rfl ?_
     refine wa_q 36 rfl (by kernel_rfl) (q_off 30 rfl rfl rfl hg139) hS rfl rfl ?_
     refine wa_q 37 rfl (by kernel_rfl) (q_off 30 rfl rfl rfl hg139) hS rfl rfl ?_
     refine wa_q 38 rfl (by kernel_rfl) (q_off 30 rfl rfl rfl hg139) hS rfl rfl ?_
     refine wa_q 39 rfl (by kernel_rfl) (q_guard 24 rfl rfl rfl hg133 (q_pickF rfl hg139 rfl)) hS rfl rfl ?_
     refine wa_q 40 rfl (by kernel_rfl) (q_guard 20 rfl rfl rfl rfl (q_pickF rfl hg133 rfl)) hS rfl rfl ?_
     refine wa_q 41 rfl (by kernel_rfl) (q_pickT rfl rfl rfl) hS rfl rfl ?_
     refine wa_q 42 rfl (by kernel_rfl) (q_assign rfl) hS rfl rfl ?_
     refine wa_done (by kernel_rfl) ?_
     exact ⟨(), M, ⟨(show some (Value.bool false) = some (Value.bool (((decide (x2.inp = 0)) || ((decide ((i : Int) < ((runesL x).length : Int))) && (decide (((runesL x).getD i 0) = x2.inp)))) && ((decide (x2.out = 0)) || ((decide ((j : Int) < ((runesL y).length : Int))) && (decide (((runesL y).getD j 0) = x2.out)))))) from by first | (simp only [hg112, hg133, hg139, bL8]; done) | (simp_all; done) | (simp_all; omega)), trivial⟩, unw_take 43 rfl rfl⟩
    refine wa_q 4 rfl (by kernel_rfl) (q_guard 3 rfl rfl rfl hg112 (q_fa fo_82_1 rfl)) hS rfl rfl ?_
    refine wa_q 5 rfl (by kernel_rfl) ((q_guard 3 rfl rfl rfl hg112 (q_ldb 2 Try.underlying3 rfl rfl rfl rfl)).mono fun _ h => h.1) hS rfl rfl ?_
    refine wa_q 6 rfl (by kernel_rfl) (q_guard 3 rfl rfl rfl hg112 (q_move rfl)) hS rfl rfl ?_
    refine wa_q 7 rfl (by kernel_rfl) (q_guard 3 rfl rfl rfl hg112 (q_lenR ((R21.mono hJ26).mono hJ41) Try.underlying40 rfl)) hS rfl rfl ?_
    refine wa_q 8 rfl (by kernel_rfl) (q_guard 3 rfl rfl rfl hg112 (q_lss rfl rfl)) hS rfl rfl ?_
    refine wa_q 9 rfl (by kernel_rfl) (q_guard 3 rfl rfl rfl hg112 (q_move rfl)) hS rfl rfl ?_
    rcases Bool.eq_false_or_eq_true (decide ((i : Int) < ((runesL x).length : Int))) with hg118 | hg118
    ·refine wa_q 10 rfl (by kernel_rfl) (q_guard 9 rfl rfl rfl hg118 (q_move rfl)) hS rfl rfl ?_
     refine wa_q 11 rfl (by kernel_rfl) (q_guard 9 rfl rfl rfl hg118 (q_fa fo_82_1 rfl)) hS rfl rfl ?_
     refine wa_q 12 rfl (by kernel_rfl) ((q_guard 9 rfl rfl rfl hg118 (q_ldb 2 Try.underlying3 rfl rfl rfl rfl)).mono fun _ h => h.1) hS rfl rfl ?_
     refine wa_ixSG (j := i) 9 rfl rfl rfl hg118 13 hS (fun _ h => ((R21.mono hJ26).mono hJ41).mono h.1.imm) rfl (by kernel_rfl) Try.underlying40 rfl rfl (getD_at (d := 0) (by have := of_decide_eq_true hg118; omega)) rfl (fun b122 o122 p122 => ?_)
     refine wa_q 14 rfl (by kernel_rfl) (q_guard 9 rfl rfl rfl hg118 (q_ldp p122 rfl rfl)) hS rfl rfl ?_
     refine wa_q 15 rfl (by kernel_rfl) (q_guard 9 rfl rfl rfl hg118 (q_fa fo_50_2 rfl)) hS rfl rfl ?_
     refine wa_q 16 rfl (by kernel_rfl) ((q_guard 9 rfl rfl rfl hg118 (q_ldb 1 Try.underlying21 rfl rfl rfl rfl)).mono fun _ h => h.1) hS rfl rfl ?_
     refine wa_q 17 rfl (by kernel_rfl) (q_guard 9 rfl rfl rfl hg118 (q_eql rfl rfl)) hS rfl rfl ?_
     refine wa_q 18 rfl (by kernel_rfl) (q_guard 3 rfl rfl rfl hg112 (q_pickT rfl hg118 rfl)) hS rfl rfl ?_
     refine wa_q 19 rfl (by kernel_rfl) (q_pickF rfl hg112 rfl) hS rfl rfl ?_
     refine wa_q 20 rfl (by kernel_rfl) (q_move rfl) hS rfl rfl ?_
     rcases Bool.eq_false_or_eq_true (decide (((runesL x).getD i 0) = x2.inp)) with hg129 | hg129
     ·refine wa_q 21 rfl (by kernel_rfl) (q_guard 20 rfl rfl rfl hg129 (q_fa fo_50_3 rfl)) hS rfl rfl ?_
      refine wa_q 22 rfl (by kernel_rfl) ((q_guard 20 rfl rfl rfl hg129 (q_ldb 1 Try.underlying21 rfl rfl rfl rfl)).mono fun _ h => h.1) hS rfl rfl ?_
      refine wa_q 23 rfl (by kernel_rfl) (q_guard 20 rfl rfl rfl hg129 (q_eql rfl rfl)) hS rfl rfl ?_
      refine wa_q 24 rfl (by kernel_rfl) (q_guard 20 rfl rfl rfl hg129 (q_move rfl)) hS rfl rfl ?_
      rcases Bool.eq_false_or_eq_true (decide (x2.out = 0)) with hg133 | hg133
      ·refine wa_q 25 rfl (by kernel_rfl) (q_off 24 rfl rfl rfl hg133) hS rfl rfl ?_
       refine wa_q 26 rfl (by kernel_rfl) (q_off 24 rfl rfl rfl hg133) hS rfl rfl ?_
       refine wa_q 27 rfl (by kernel_rfl) (q_off 24 rfl rfl rfl hg133) hS rfl rfl ?_
       refine wa_q 28 rfl (by kernel_rfl) (q_off 24 rfl rfl rfl hg133) hS rfl rfl ?_
       refine wa_q 29 rfl (by kernel_rfl) (q_off 24 rfl rfl rfl hg133) hS rfl rfl ?_
       refine wa_q 30 rfl (by kernel_rfl) (q_off 24 rfl rfl rfl hg133) hS rfl rfl ?_
       refine wa_q 31 rfl (by kernel_rfl) (q_offu 30 rfl rfl rfl) hS rfl rfl ?_
       refine wa_q 32 rfl (by kernel_rfl) (q_offu 30 rfl rfl rfl) hS rfl rfl ?_
       refine wa_q 33 rfl (by kernel_rfl) (q_offu 30 rfl rfl rfl) hS rfl rfl ?_
       refine wa_q 34 rfl (by kernel_rfl) (q_offu 30 rfl rfl rfl) hS rfl rfl ?_
       refine wa_q 35 rfl (by kernel_rfl) (q_offu 30 rfl rfl rfl) hS rfl rfl ?_
       refine wa_q 36 rfl (by kernel_rfl) (q_offu 30 rfl rfl rfl) hS rfl rfl ?_
       refine wa_q 37 rfl (by kernel_rfl) (q_offu 30 rfl rfl rfl) hS rfl rfl ?_
       refine wa_q 38 rfl (by kernel_rfl) (q_offu 30 rfl rfl rfl) hS rfl rfl ?_
       refine wa_q 39 rfl (by kernel_rfl) (q_off 24 rfl rfl rfl hg133) hS rfl rfl ?_
       refine wa_q 40 rfl (by kernel_rfl) (q_guard 20 rfl rfl rfl hg129 (q_pickT rfl hg133 rfl)) hS rfl rfl ?_
       refine wa_q 41 rfl (by kernel_rfl) (q_pickT rfl hg129 rfl) hS rfl rfl ?_
       refine wa_q 42 rfl (by kernel_rfl) (q_assign rfl) hS rfl rfl ?_
       refine wa_done (by kernel_rfl) ?_
       exact ⟨(), M, ⟨(show some (Value.bool true) = some (Value.bool (((decide (x2.inp = 0)) || ((decide ((i : Int) < ((runesL x).length : Int))) && (decide (((runesL x).getD i 0) = x2.inp)))) && ((decide (x2.out = 0)) || ((decide ((j : Int) < ((runesL y).length : Int))) && (decide (((runesL y).getD j 0) = x2.out)))))) from by first | (simp only [hg112, hg118, hg129, hg133, bL8]; done) | (simp_all; done) | (simp_all; omega)), trivial⟩, unw_take 43 rfl rfl⟩
      refine wa_q 25 rfl (by kernel_rfl) (q_guard 24 rfl rfl rfl hg133 (q_fa fo_82_2 rfl)) hS rfl rfl ?_
      refine wa_q 26 rfl (by kernel_rfl) ((q_guard 24 rfl rfl rfl hg133 (q_ldb 2 Try.underlying3 rfl rfl rfl rfl)).mono fun _ h => h.1) hS rfl rfl ?_
      refine wa_q 27 rfl (by kernel_rfl) (q_guard 24 rfl rfl rfl hg133 (q_move rfl)) hS rfl rfl ?_
      refine wa_q 28 rfl (by kernel_rfl) (q_guard 24 rfl rfl rfl hg133 (q_lenR (R26.mono hJ41) Try.underlying40 rfl)) hS rfl rfl ?_
      refine wa_q 29 rfl (by kernel_rfl) (q_guard 24 rfl rfl rfl hg133 (q_lss rfl rfl)) hS rfl rfl ?_
      refine wa_q 30 rfl (by kernel_rfl) (q_guard 24 rfl rfl rfl hg133 (q_move rfl)) hS rfl rfl ?_
      rcases Bool.eq_false_or_eq_true (decide ((j : Int) < ((runesL y).length : Int))) with hg139 | hg139
      ·refine wa_q 31 rfl (by kernel_rfl) (q_guard 30 rfl rfl rfl hg139 (q_move rfl)) hS rfl rfl ?_
       refine wa_q 32 rfl (by kernel_rfl) (q_guard 30 rfl rfl rfl hg139 (q_fa fo_82_2 rfl)) hS rfl rfl ?_
       refine wa_q 33 rfl (by kernel_rfl) ((q_guard 30 rfl rfl rfl hg139 (q_ldb 2 Try.underlying3 rfl rfl rfl rfl)).mono fun _ h => h.1) hS rfl rfl ?_
       refine wa_ixSG (j := j) 30 rfl rfl rfl hg139 34 hS (fun _ h => (R26.mono hJ41).mono h.1.imm) rfl (by kernel_rfl) Try.underlying40 rfl rfl (getD_at (d := 0) (by have := of_decide_eq_true hg139; omega)) rfl (fun b143 o143 p143 => ?_)
       refine wa_q 35 rfl (by kernel_rfl) (q_guard 30 rfl rfl rfl hg139 (q_ldp p143 rfl rfl)) hS rfl rfl ?_
       refine wa_q 36 rfl (by kernel_rfl) (q_guard 30 rfl rfl rfl hg139 (q_fa fo_50_3 rfl)) hS rfl rfl ?_
       refine wa_q 37 rfl (by kernel_rfl) ((q_guard 30 rfl rfl rfl hg139 (q_ldb 1 Try.underlying21 rfl rfl rfl rfl)).mono fun _ h => h.1) hS rfl rfl ?_
       refine wa_q 38 rfl (by kernel_rfl) (q_guard 30 rfl rfl rfl hg139 (q_eql rfl rfl)) hS rfl rfl ?_
       refine wa_q 39 rfl (by kernel_rfl) (q_guard 24 rfl rfl rfl hg133 (q_pickT rfl hg139 rfl)) hS rfl rfl ?_
       refine wa_q 40 rfl (by kernel_rfl) (q_guard 20 rfl rfl rfl hg129 (q_pickF rfl hg133 rfl)) hS rfl rfl ?_
       refine wa_q 41 rfl (by kernel_rfl) (q_pickT rfl hg129 rfl) hS rfl rfl ?_
       refine wa_q 42 rfl (by kernel_rfl) (q_assign rfl) hS rfl rfl ?_
       refine wa_done (by kernel_rfl) ?_
       exact ⟨(), M, ⟨(show some (Value.bool (decide (((runesL y).getD j 0) = x2.out))) = some (Value.bool (((decide (x2.inp = 0)) || ((decide ((i : Int) < ((runesL x).length : Int))) && (decide (((runesL x).getD i 0) = x2.inp)))) && ((decide (x2.out = 0)) || ((decide ((j : Int) < ((runesL y).length : Int))) && (decide (((runesL y).getD j 0) = x2.out)))))) from by first | (simp only [hg112, hg118, hg129, hg133, hg139, bL8]; done) | (simp_all; done) | (simp_all; omega)), trivial⟩, unw_take 43 rfl rfl⟩
      refine wa_q 31 rfl (by kernel_rfl) (q_off 30 rfl rfl rfl hg139) hS rfl rfl ?_
      refine wa_q 32 rfl (by kernel_rfl) (q_off 30 rfl rfl rfl hg139) hS rfl rfl ?_
      refine wa_q 33 rfl (by kernel_rfl) (q_off 30 rfl rfl rfl hg139) hS rfl rfl ?_
      refine wa_q 34 rfl (by kernel_rfl) (q_off 30 rfl rfl rfl hg139) hS rfl rfl ?_
      refine wa_q 35 rfl (by kernel_rfl) (q_off 30 rfl rfl rfl hg139) hS rfl rfl ?_
      refine wa_q 36 rfl (by kernel_rfl) (q_off 30 rfl rfl rfl hg139) hS rfl rfl ?_
      refine wa_q 37 rfl (by kernel_rfl) (q_off 30 rfl rfl rfl hg139) hS rfl rfl ?_
      refine wa_q 38 rfl (by kernel_rfl) (q_off 30 rfl rfl rfl hg139) hS rfl rfl ?_
      refine wa_q 39 rfl (by kernel_rfl) (q_guard 24 rfl rfl rfl hg133 (q_pickF rfl hg139 rfl)) hS rfl rfl ?_
      refine wa_q 40 rfl (by kernel_rfl) (q_guard 20 rfl rfl rfl hg129 (q_pickF rfl hg133 rfl)) hS rfl rfl ?_
      refine wa_q 41 rfl (by kernel_rfl) (q_pickT rfl hg129 rfl) hS rfl rfl ?_
      refine wa_q 42 rfl (by kernel_rfl) (q_assign rfl) hS rfl rfl ?_
      refine wa_done (by kernel_rfl) ?_
      exact ⟨(), M, ⟨(show some (Value.bool false) = some (Value.bool (((decide (x2.inp = 0)) || ((decide ((i : Int) < ((runesL x).length : Int))) && (decide (((runesL x).getD i 0) = x2.inp)))) && ((decide (x2.out = 0)) || ((decide ((j : Int) < ((runesL y).length : Int))) && (decide (((runesL y).getD j 0) = x2.out)))))) from by first | (simp only [hg112, hg118, hg129, hg133, hg139, bL8]; done) | (simp_all; done) | (simp_all; omega)), trivial⟩, unw_take 43 rfl rfl⟩
     refine wa_q 21 rfl (by kernel_rfl) (q_off 20 rfl rfl rfl hg129) hS rfl rfl ?_
     refine wa_q 22 rfl (by kernel_rfl) (q_off 20 rfl rfl rfl hg129) hS rfl rfl ?_
     refine wa_q 23 rfl (by kernel_rfl) (q_off 20 rfl rfl rfl hg129) hS rfl rfl ?_
     refine wa_q 24 rfl (by kernel_rfl) (q_off 20 rfl rfl rfl hg129) hS rfl rfl ?_
     refine wa_q 25 rfl (by kernel_rfl) (q_offu 24 rfl rfl rfl) hS rfl rfl ?_
     refine wa_q 26 rfl (by kernel_rfl) (q_offu 24 rfl rfl rfl) hS rfl rfl ?_
     refine wa_q 27 rfl (by kernel_rfl) (q_offu 24 rfl rfl rfl) hS rfl rfl ?_
     refine wa_q 28 rfl (by kernel_rfl) (q_offu 24 rfl rfl rfl) hS rfl rfl ?_
     refine wa_q 29 rfl (by kernel_rfl) (q_offu 24 rfl rfl rfl) hS rfl rfl ?_
     refine wa_q 30 rfl (by kernel_rfl) (q_offu 24 rfl rfl rfl) hS rfl rfl ?_
     refine wa_q 31 rfl (by kernel_rfl) (q_offu 30 rfl rfl rfl) hS rfl rfl ?_
     refine wa_q 32 rfl (by kernel_rfl) (q_offu 30 rfl rfl rfl) hS rfl rfl ?_
     refine wa_q 33 rfl (by kernel_rfl) (q_offu 30 rfl rfl rfl) hS rfl rfl ?_
     refine wa_q 34 rfl (by kernel_rfl) (q_offu 30 rfl rfl rfl) hS rfl rfl ?_
     refine wa_q 35 rfl (by kernel_rfl) (q_offu 30 rfl rfl rfl) hS rfl rfl ?_
     refine wa_q 36 rfl (by kernel_rfl) (q_offu 30 rfl rfl rfl) hS rfl rfl ?_
     refine wa_q 37 rfl (by kernel_rfl) (q_offu 30 rfl rfl rfl) hS rfl rfl ?_
     refine wa_q 38 rfl (by kernel_rfl) (q_offu 30 rfl rfl rfl) hS rfl rfl ?_
     refine wa_q 39 rfl (by kernel_rfl) (q_offu 24 rfl rfl rfl) hS rfl rfl ?_
     refine wa_q 40 rfl (by kernel_rfl) (q_off 20 rfl rfl rfl hg129) hS rfl rfl ?_
     refine wa_q 41 rfl (by kernel_rfl) (q_pickF rfl hg129 rfl) hS rfl rfl ?_
     refine wa_q 42 rfl (by kernel_rfl) (q_assign rfl) hS rfl rfl ?_
     refine wa_done (by kernel_rfl) ?_
     exact ⟨(), M, ⟨(show some (Value.bool false) = some (Value.bool (((decide (x2.inp = 0)) || ((decide ((i : Int) < ((runesL x).length : Int))) && (decide (((runesL x).getD i 0) = x2.inp)))) && ((decide (x2.out = 0)) || ((decide ((j : Int) < ((runesL y).length : Int))) && (decide (((runesL y).getD j 0) = x2.out)))))) from by first | (simp only [hg112, hg118, hg129, bL8]; done) | (simp_all; done) | (simp_all; omega)), trivial⟩, unw_take 43 rfl rfl⟩
    refine wa_q 10 rfl (by kernel_rfl) (q_off 9 rfl rfl rfl hg118) hS rfl rfl ?_
    refine wa_q 11 rfl (by kernel_rfl) (q_off 9 rfl rfl rfl hg118) hS rfl rfl ?_
    refine wa_q 12 rfl (by kernel_rfl) (q_off 9 rfl rfl rfl hg118) hS rfl rfl ?_
    refine wa_q 13 rfl (by kernel_rfl) (q_off 9 rfl rfl rfl hg118) hS rfl rfl ?_
    refine wa_q 14 rfl (by kernel_rfl) (q_off 9 rfl rfl rfl hg118) hS rfl rfl ?_
    refine wa_q 15 rfl (by kernel_rfl) (q_off 9 rfl rfl rfl hg118) hS rfl rfl ?_
    refine wa_q 16 rfl (by kernel_rfl) (q_off 9 rfl rfl rfl hg118) hS rfl rfl ?_
    refine wa_q 17 rfl (by kernel_rfl) (q_off 9 rfl rfl rfl hg118) hS rfl rfl ?_
    refine wa_q 18 rfl (by kernel_rfl) (q_guard 3 rfl rfl rfl hg112 (q_pickF rfl hg118 rfl)) hS rfl rfl ?_
    refine wa_q 19 rfl (by kernel_rfl) (q_pickF rfl hg112 rfl) hS rfl rfl ?_
    refine wa_q 20 rfl (by kernel_rfl) (q_move rfl) hS rfl rfl ?_
    refine wa_q 21 rfl (by kernel_rfl) (q_off 20 rfl rfl rfl rfl) hS rfl rfl ?_
    refine wa_q 22 rfl (by kernel_rfl) (q_off 20 rfl rfl rfl rfl) hS rfl rfl ?_
    refine wa_q 23 rfl (by kernel_rfl) (q_off 20 rfl rfl rfl rfl) hS rfl rfl ?_
    refine wa_q 24 rfl (by kernel_rfl) (q_off 20 rfl rfl rfl rfl) hS rfl rfl ?_
    refine wa_q 25 rfl (by kernel_rfl) (q_offu 24 rfl rfl rfl) hS rfl rfl ?_
    refine wa_q 26 rfl (by kernel_rfl) (q_offu 24 rfl rfl rfl) hS rfl rfl ?_
    refine wa_q 27 rfl (by kernel_rfl) (q_offu 24 rfl rfl rfl) hS rfl rfl ?_
    refine wa_q 28 rfl (by kernel_rfl) (q_offu 24 rfl rfl rfl) hS rfl rfl ?_
    refine wa_q 29 rfl (by kernel_rfl) (q_offu 24 rfl rfl rfl) hS rfl rfl ?_
    refine wa_q 30 rfl (by kernel_rfl) (q_offu 24 rfl rfl rfl) hS rfl rfl ?_
    refine wa_q 31 rfl (by kernel_rfl) (q_offu 30 rfl rfl rfl) hS rfl rfl ?_
    refine wa_q 32 rfl (by kernel_rfl) (q_offu 30 rfl rfl rfl) hS rfl rfl ?_
    refine wa_q 33 rfl (by kernel_rfl) (q_offu 30 rfl rfl rfl) hS rfl rfl ?_
    refine wa_q 34 rfl (by kernel_rfl) (q_offu 30 rfl rfl rfl) hS rfl rfl ?_
    refine wa_q 35 rfl (by kernel_rfl) (q_offu 30 rfl rfl rfl) hS rfl rfl ?_
    refine wa_q 36 rfl (by kernel_rfl) (q_offu 30 rfl rfl rfl) hS rfl rfl ?_
    refine wa_q 37 rfl (by kernel_rfl) (q_offu 30 rfl rfl rfl) hS rfl rfl ?_
    refine wa_q 38 rfl (by kernel_rfl) (q_offu 30 rfl rfl rfl) hS rfl rfl ?_
    refine wa_q 39 rfl (by kernel_rfl) (q_offu 24 rfl rfl rfl) hS rfl rfl ?_
    refine wa_q 40 rfl (by kernel_rfl) (q_off 20 rfl rfl rfl rfl) hS rfl rfl ?_
    refine wa_q 41 rfl (by kernel_rfl) (q_pickF rfl rfl rfl) hS rfl rfl ?_
    refine wa_q 42 rfl (by kernel_rfl) (q_assign rfl) hS rfl rfl ?_
    refine wa_done (by kernel_rfl) ?_
    exact ⟨(), M, ⟨(show some (Value.bool false) = some (Value.bool (((decide (x2.inp = 0)) || ((decide ((i : Int) < ((runesL x).length : Int))) && (decide (((runesL x).getD i 0) = x2.inp)))) && ((decide (x2.out = 0)) || ((decide ((j : Int) < ((runesL y).length : Int))) && (decide (((runesL y).getD j 0) = x2.out)))))) from by first | (simp only [hg112, hg118, bL8]; done) | (simp_all; done) | (simp_all; omega)), trivial⟩, unw_take 43 rfl rfl⟩
   rintro _ jr21 w38 M
   refine wc_seq ?_
   refine wc_join (α := Unit) [151, 152, 153, 154, 155, 156, 157] (fun _ => [(157, .bool ((((decide (x2.inp = 0)) || ((decide ((i : Int) < ((runesL x).length : Int))) && (decide (((runesL x).getD i 0) = x2.inp)))) && ((decide (x2.out = 0)) || ((decide ((j : Int) < ((runesL y).length : Int))) && (decide (((runesL y).getD j 0) = x2.out))))) && (!((aget m_42_2 (Place.mk x2.dst (i : Int) (j : Int))).getD false))))]) (fun _ w' => Mem w I J41 (box b17 82 [.int .i64 x2.dst, .int .i64 (i : Int), .int .i64 (j : Int)] :: box b16 50 [.int .i64 x2.src, .int .i64 x2.dst, .int .i32 x2.inp, .int .i32 x2.out] :: box b14 82 [.int .i64 (p : Int), .int .i64 (i : Int), .int .i64 (j : Int)] :: row EPlace (sv u_50_2) l_50_2 :: mpr QPlace Value.bool b42 m_42_2 :: box b3 25 [.int .i64 t.states, .int .i64 t.start, sv fu1, sv au1] :: []) w') ?_ ?_
   ·refine wc_region <| wl_mv M rfl rfl <| wl_mv M rfl rfl ?_
    rcases Bool.eq_false_or_eq_true (((decide (x2.inp = 0)) || ((decide ((i : Int) < ((runesL x).length : Int))) && (decide (((runesL x).getD i 0) = x2.inp)))) && ((decide (x2.out = 0)) || ((decide ((j : Int) < ((runesL y).length : Int))) && (decide (((runesL y).getD j 0) = x2.out))))) with hg152 | hg152
    ·refine wl_m M (q_guard 1 rfl rfl rfl hg152 (q_move rfl)) rfl rfl <| wl_m M (q_guard 1 rfl rfl rfl hg152 (q_ldbA 0 Try.underlying82 rfl sz82 rfl rfl rfl rfl)) rfl rfl <| wl_m M (q_guard 1 rfl rfl rfl hg152 (q_lk (k := (Place.mk x2.dst (i : Int) (j : Int))) (z := false) 4 rfl Try.underlying83 zv4 rfl rfl)) rfl rfl <| wl_m M (q_guard 1 rfl rfl rfl hg152 (q_not rfl)) rfl rfl <| wl_m M (q_pickT rfl hg152 rfl) rfl rfl <| wl_nil ?_
     exact ⟨(), M, ⟨(show some (Value.bool (!((aget m_42_2 (Place.mk x2.dst (i : Int) (j : Int))).getD false))) = some (Value.bool ((((decide (x2.inp = 0)) || ((decide ((i : Int) < ((runesL x).length : Int))) && (decide (((runesL x).getD i 0) = x2.inp)))) && ((decide (x2.out = 0)) || ((decide ((j : Int) < ((runesL y).length : Int))) && (decide (((runesL y).getD j 0) = x2.out))))) && (!((aget m_42_2 (Place.mk x2.dst (i : Int) (j : Int))).getD false)))) from by first | (simp only [hg152, bL8]; done) | (simp_all; done) | (simp_all; omega)), trivial⟩, unw_take 7 rfl rfl⟩
    refine wl_m M (q_off 1 rfl rfl rfl hg152) rfl rfl <| wl_m M (q_off 1 rfl rfl rfl hg152) rfl rfl <| wl_m M (q_off 1 rfl rfl rfl hg152) rfl rfl <| wl_m M (q_off 1 rfl rfl rfl hg152) rfl rfl <| wl_m M (q_pickF rfl hg152 rfl) rfl rfl <| wl_nil ?_
    exact ⟨(), M, ⟨(show some (Value.bool false) = some (Value.bool ((((decide (x2.inp = 0)) || ((decide ((i : Int) < ((runesL x).length : Int))) && (decide (((runesL x).getD i 0) = x2.inp)))) && ((decide (x2.out = 0)) || ((decide ((j : Int) < ((runesL y).length : Int))) && (decide (((runesL y).getD j 0) = x2.out))))) && (!((aget m_42_2 (Place.mk x2.dst (i : Int) (j : Int))).getD false)))) from by first | (simp only [hg152, bL8]; done) | (simp_all; done) | (simp_all; omega)), trivial⟩, unw_take 7 rfl rfl⟩
   rintro _ jr22 w39 M
   refine wc_cond rfl (fun ht157 => ?_) (fun ht157 => ?_)
   ·obtain ⟨h1, h2⟩ := Bool.and_eq_true_iff.1 ht157
    rw [fit_get, fit_get] at h1
    have hfit : (fitB (runesL x) (i : Int) x2.inp && fitB (runesL y) (j : Int) x2.out) = true := h1
    rw [hm2, aget_tr] at h2
    have hnk := nd_t h2
    refine wc_seq <| wc_region <| wl_mv M rfl rfl <| wl_m M (q_ldbA 0 Try.underlying82 rfl sz82 rfl rfl rfl rfl) rfl rfl ?_
    refine wl_e0 (e_mpu (k := (Place.mk x2.dst (i : Int) (j : Int))) (v := true) 4 M rfl Try.underlying83 rfl rfl rfl) rfl ?_
    intro _ w40 M
    simp only [sC0, sCS] at M
    refine wl_nil <| wc_region <| wl_mv M rfl rfl <| wl_m M (q_ldbA 0 Try.underlying82 rfl sz82 rfl rfl rfl rfl) rfl rfl <| wl_e (e_bsI (E := EPlace) (xs := [(Place.mk x2.dst (i : Int) (j : Int))]) M (bs_84_1 _ _ _) ⟨⟨rfl, rfl⟩, trivial⟩ rfl rfl (by decide)) rfl rfl ?_
    rintro _ w41 ⟨u162, J162, rfl, hJ162, R162, M⟩
    have hoJ162 := M.old
    refine wl_e (e_app 3 M rfl R162 Try.underlying84 rfl rfl (by have := hB2.len (pl_rect hrng); rw [rect3_len] at this; have := congrArg List.length hc2; rw [List.length_cons] at this; show (_ + 1) * 24 ≤ _; omega)) rfl rfl ?_
    rintro _ w42 ⟨u163, rfl, M⟩
    replace M := M.less hJ162 hoJ41
    simp only [sC0, sCS] at M
    refine wl_as M rfl rfl <| wl_nil <| wc_region <| wl_m M (q_add rfl rfl (IntWalk.i64_in _ (by omega))) rfl rfl ?_
    refine wl_mv M rfl rfl <| wl_nil ?_
    replace M := M.drop 0
    replace M := M.drop 0
    refine ⟨(k2 + 1, u163, l_50_2 ++ [(Place.mk x2.dst (i : Int) (j : Int))], aput m_42_2 (Place.mk x2.dst (i : Int) (j : Int)) true), ?_, ⟨(by omega), (by rw [plK_yes hx2 hfit (d := _) (by rw [he1, he2])]; exact hB2.pushT hc2 hnk (by rw [← plK_all]; exact mem_plK hx2 hfit (by rw [he1, he2]))), (snocT hc2), (by rw [hm2, aput_tr hnk]; congr 1; simp), M⟩, ⟨rfl, rfl, trivial⟩, unw_look rfl (unw_hav rfl (unw_look rfl (unw_hav rfl (unw_look rfl unw_base))))⟩
    show (t.outs p).length - (k2 + 1) < (t.outs p).length - k2
    omega
   have hkn := and_fm ht157
   rw [fit_get, fit_get, hm2, aget_tr] at hkn
   refine wc_skip <| wc_region <| wl_m M (q_add rfl rfl (IntWalk.i64_in _ (by omega))) rfl rfl ?_
   refine wl_mv M rfl rfl <| wl_nil ?_
   replace M := M.drop 0
   replace M := M.drop 0
   refine ⟨(k2 + 1, u_50_2, l_50_2, m_42_2), ?_, ⟨(by omega), (by rcases hkn with hkn | hkn; rw [plK_no hx2 hkn]; exact hB2; rw [plK_yes hx2 hkn.1 (d := _) (by rw [he1, he2])]; exact hB2.knownT hc2 (nd_f hkn.2)), hc2, hm2, M⟩, ⟨rfl, rfl, trivial⟩, unw_look rfl (unw_hav rfl (unw_look rfl (unw_hav rfl (unw_look rfl unw_base))))⟩
   show (t.outs p).length - (k2 + 1) < (t.outs p).length - k2
   omega
  have hke2 : k2 = (t.outs p).length := by omega
  rw [hke2, List.take_length] at hB2
  have hlen2 := congrArg List.length hc2
  rw [List.length_cons] at hlen2
  refine wc_exit rfl <| wc_region <| wl_mv M rfl rfl <| wl_e (e_cut (k := 1) 1 M rfl Try.underlying84 rfl rfl (by omega)) rfl rfl ?_
  rintro _ w43 ⟨u55, rfl, M⟩
  simp only [sC0, sCS] at M
  refine wl_as M rfl rfl <| wl_nil ?_
  replace M := M.drop 0
  refine ⟨(vs ++ [Place.mk p i j], u55, l_50_2.drop 1, m_42_2), ?_, ⟨(by rw [List.drop_one]; exact hB2.close (fun y_ hy_ => by rw [plK_all]; exact hy_)), (by rw [hm2, openT hc2]), (acc_snoc hnd ht77), M⟩, ⟨rfl, trivial⟩, unw_look rfl (unw_hav rfl (unw_look rfl (unw_hav rfl (unw_look rfl unw_base))))⟩
  show (rect3 m (runesL x).length (runesL y).length).length - (vs ++ [Place.mk p i j]).length < (rect3 m (runesL x).length (runesL y).length).length - vs.length
  have := (hB2.close (fun y_ hy_ => by rw [plK_all]; exact hy_)).len (pl_rect hrng)
  simp only [List.length_append, List.length_cons, List.length_nil] at this ⊢
  omega
 obtain rfl : l_50_0 = [] := by cases l_50_0 with | nil => rfl | cons x l => simp at ht53
 refine wc_exit rfl ?_
 refine wc_seq <| wc_region <| wl_as M rfl rfl <| wl_nil <| wc_ret ?_
 exact out1 rfl rfl ⟨_, _, rfl, M.grow, by rw [hrs, rel_no hB.fin hnd]⟩
end Go.Proofs.Ytfepjcmjkaolgaa.G
