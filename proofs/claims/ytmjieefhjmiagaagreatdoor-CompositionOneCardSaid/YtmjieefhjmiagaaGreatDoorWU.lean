/- Walks of the program's functions. -/
import Derived.Test.YtmjieefhjmiagaaGreatDoorWA
import Derived.Test.YtmjieefhjmiagaaGreatDoorGBtw
set_option linter.all false
namespace Go.Proofs.YtmjieefhjmiagaaGreatDoor.G
open Go Go.RowKit
theorem index_u8_c {xs : List Int} {x : Int} {u : SV} {I : Heap} {w : World} (hI : hle I (hp w)) (R0 : rdSl EByte I (sv u) xs) : Calls A 140 #[sv u, .int .u8 x] w (Ret w I fun r _ => r = .int .i64 (idxI xs x)) := by
 have M := Mem.start hI
 refine enter Tryz.func140 rfl 19 Tryz.ntmps140 [_, _] rfl ?_
 refine wc_seq ?_
 refine wc_region ?_
 refine wl_as M rfl rfl ?_
 refine wl_nil ?_
 refine wc_seq ?_
 refine wc_seq ?_
 refine wc_region ?_
 refine wl_mv M rfl rfl ?_
 refine wl_m M (q_lenR R0 Tryz.underlying186 rfl) rfl rfl ?_
 refine wl_mv M rfl rfl ?_
 refine wl_nil ?_
 refine wc_block ?_
 refine wc_loop (α := Nat) [4, 5, 8, 9, 10, 11, 12, 13, 14, 15, 16, 17, 18] (fun (k0 : Nat) => [(8, .int .i64 (k0 : Int))])
   (fun (k0 : Nat) w' => (k0 ≤ xs.length) ∧ (x ∉ xs.take k0) ∧ Mem w I I ([]) w')
   (fun (k0 : Nat) => xs.length - k0) (0) ⟨rfl, trivial⟩ ?_ ?_
 ·refine ⟨Nat.zero_le _, by simp, ?_⟩
  exact M
 rintro k0 jj0 w1 ⟨hk0, hn, M⟩
 refine wc_seq ?_
 refine wc_region ?_
 refine wl_m M (q_lss rfl rfl) rfl rfl ?_
 refine wl_nil ?_
 refine wc_seq ?_
 refine wc_dec rfl (fun ht9 => ?_) (fun ht9 => ?_)
 ·obtain ⟨x0, hx0⟩ : ∃ x_, xs[k0]? = some x_ := ⟨_, List.getElem?_eq_getElem (by omega)⟩
  have hll0 := (R0).len_le
  refine wc_skip ?_
  refine wc_seq ?_
  refine wc_block ?_
  refine wc_seq ?_
  refine wc_region ?_
  refine wl_mv M rfl rfl ?_
  refine wl_as M rfl rfl ?_
  refine wl_nil ?_
  refine wc_seq ?_
  refine wc_region ?_
  refine wl_mv M rfl rfl ?_
  refine wl_mv M rfl rfl ?_
  refine wl_mv M rfl rfl ?_
  refine wl_ix (j := k0) M R0 Tryz.underlying186 rfl rfl hx0 rfl (fun b14 o14 p14 => ?_)
  refine wl_m M (q_ldp p14 rfl rfl) rfl rfl ?_
  refine wl_m M (q_eql rfl rfl) rfl rfl ?_
  refine wl_nil ?_
  refine wc_dec rfl (fun ht16 => ?_) (fun ht16 => ?_)
  ·refine wc_seq ?_
   refine wc_region ?_
   refine wl_mv M rfl rfl ?_
   refine wl_as M rfl rfl ?_
   refine wl_nil ?_
   refine wc_ret ?_
   exact out1 rfl rfl ⟨_, _, rfl, M.grow, by rw [idxI_at (ht16 ▸ hx0) hn]⟩
  refine wc_skip ?_
  refine wc_region ?_
  refine wl_m M (q_add rfl rfl (IntWalk.i64_in _ (by omega))) rfl rfl ?_
  refine wl_mv M rfl rfl ?_
  refine wl_nil ?_
  refine ⟨(k0 + 1), ?_, ⟨(by omega), (by rw [take_snoc hx0]; simp only [List.mem_append, List.mem_singleton, not_or]; exact ⟨hn, ht16⟩), M⟩, ⟨rfl, trivial⟩, unw_look rfl unw_base⟩
  show xs.length - (k0 + 1) < xs.length - k0
  omega
 have hke0 : k0 = xs.length := by omega
 rw [hke0, List.take_length] at hn
 refine wc_exit rfl ?_
 refine wc_seq ?_
 refine wc_region ?_
 refine wl_as M rfl rfl ?_
 refine wl_nil ?_
 refine wc_ret ?_
 exact out1 rfl rfl ⟨_, _, rfl, M.grow, by rw [idxI, if_neg hn]⟩
theorem contains_u8_c {xs : List Int} {x : Int} {u : SV} {I : Heap} {w : World} (hI : hle I (hp w)) (R0 : rdSl EByte I (sv u) xs) : Calls A 109 #[sv u, .int .u8 x] w (Ret w I fun r _ => r = .bool (decide (x ∈ xs))) := by
 have M := Mem.start hI
 refine enter Tryz.func109 rfl 9 Tryz.ntmps109 [_, _] rfl ?_
 refine wc_seq ?_
 refine wc_region ?_
 refine wl_as M rfl rfl ?_
 refine wl_nil ?_
 refine wc_seq ?_
 refine wc_region ?_
 refine wl_mv M rfl rfl ?_
 refine wl_mv M rfl rfl ?_
 refine wl_e (e_callC M (index_u8_c M.imm R0) Tryz.func140 rfl rfl) rfl rfl ?_
 rintro _ w1 ⟨J7, hJ7, rfl, M⟩
 replace M := M.less hJ7 (fun _ _ => rfl)
 refine wl_m M (q_geq rfl rfl) rfl rfl ?_
 refine wl_as M rfl rfl ?_
 refine wl_nil ?_
 refine wc_ret ?_
 exact out1 rfl rfl ⟨_, _, rfl, M.grow, by rw [idxI_nn]⟩
theorem readable_c (s : ByteArray) (hs : s.size ≤ 70368744177664) {I : Heap} {w : World} (hI : hle I (hp w)) (hT : Tabs I) : Calls A 80 #[.string s] w (Ret w I fun r _ => r = .bool (okS s)) := by
 have M := Mem.start hI
 refine enter Tryz.func80 rfl 11 Tryz.ntmps80 [_] rfl ?_
 refine wc_seq ?_
 refine wc_region ?_
 refine wl_as M rfl rfl ?_
 refine wl_nil ?_
 refine wc_seq ?_
 refine wc_join (α := Unit) [2, 3, 4, 5, 6, 7, 8, 9, 10] (fun _ => [(2, .bool ((Lib.validD s.data.toList) && (!(decide ((0 : Int) ∈ bytesL s)))))]) (fun _ w' => Mem w I I ([]) w') ?_ ?_
 ·refine wc_region ?_
  refine wl_mv M rfl rfl ?_
  refine wl_e (e_callC M (validS_c s hs M.imm hT) Tryz.func101 rfl rfl) rfl rfl ?_
  rintro _ w1 ⟨J4, hJ4, rfl, M⟩
  replace M := M.less hJ4 (fun _ _ => rfl)
  refine wl_mv M rfl rfl ?_
  rcases Bool.eq_false_or_eq_true (Lib.validD s.data.toList) with hg5 | hg5
  ·refine wl_m M (q_guard 2 rfl rfl rfl hg5 (q_move rfl)) rfl rfl ?_
   refine wl_e (e_guard 2 rfl rfl rfl hg5 (e_cvBI (E := EByte) (s := s) M (fun _ => rfl) Tryz.underlying9 Tryz.underlying186 Tryz.underlying5 hs rfl)) rfl rfl ?_
   rintro v7 w2 ⟨J7, hJ7, R7, M⟩
   obtain ⟨u7, rfl⟩ := rdSl_slice R7
   have hoJ7 := M.old
   replace R7 : rdSl EByte J7 (sv u7) (bytesL s) := R7
   refine wl_e (e_guard 2 rfl rfl rfl hg5 (e_callC M (contains_u8_c M.imm R7) Tryz.func109 rfl rfl)) rfl rfl ?_
   rintro _ w3 ⟨J8, hJ8, rfl, M⟩
   replace M := M.less hJ8 hoJ7
   refine wl_m M (q_guard 2 rfl rfl rfl hg5 (q_not rfl)) rfl rfl ?_
   refine wl_m M (q_pickT rfl hg5 rfl) rfl rfl ?_
   refine wl_as M rfl rfl ?_
   refine wl_nil ?_
   replace M := M.less hJ7 (fun _ _ => rfl)
   exact ⟨(), M, ⟨(show some (Value.bool (!(decide ((0 : Int) ∈ bytesL s)))) = some (Value.bool ((Lib.validD s.data.toList) && (!(decide ((0 : Int) ∈ bytesL s))))) from by first | (simp only [hg5, Bool.true_or, Bool.false_or, Bool.true_and, Bool.false_and, Bool.or_true, Bool.or_false, Bool.and_true, Bool.and_false]; done) | (simp_all; done) | (simp_all; omega)), trivial⟩, unw_take 9 rfl rfl⟩
  refine wl_m M (q_off 2 rfl rfl rfl hg5) rfl rfl ?_
  refine wl_m M (q_off 2 rfl rfl rfl hg5) rfl rfl ?_
  refine wl_m M (q_off 2 rfl rfl rfl hg5) rfl rfl ?_
  refine wl_m M (q_off 2 rfl rfl rfl hg5) rfl rfl ?_
  refine wl_m M (q_pickF rfl hg5 rfl) rfl rfl ?_
  refine wl_as M rfl rfl ?_
  refine wl_nil ?_
  exact ⟨(), M, ⟨(show some (Value.bool false) = some (Value.bool ((Lib.validD s.data.toList) && (!(decide ((0 : Int) ∈ bytesL s))))) from by first | (simp only [hg5, Bool.true_or, Bool.false_or, Bool.true_and, Bool.false_and, Bool.or_true, Bool.or_false, Bool.and_true, Bool.and_false]; done) | (simp_all; done) | (simp_all; omega)), trivial⟩, unw_take 9 rfl rfl⟩
 rintro _ jr1 w4 M
 refine wc_ret ?_
 exact out1 rfl rfl ⟨_, _, rfl, M.grow, rfl⟩
theorem check_c {ss : List ByteArray} (hs : ∀ s ∈ ss, s.size ≤ 70368744177664) {u : SV} {I : Heap} {w : World} (hI : hle I (hp w)) (hT : Tabs I) (R0 : rdSl EStr I (sv u) ss) : Calls A 44 #[sv u] w (Ret w I fun r _ => r = .int .i64 (chkS ss)) := by
 have M := Mem.start hI
 refine enter Tryz.func44 rfl 27 Tryz.ntmps44 [_] rfl ?_
 refine wc_seq ?_
 refine wc_region ?_
 refine wl_as M rfl rfl ?_
 refine wl_nil ?_
 refine wc_seq ?_
 refine wc_seq ?_
 refine wc_region ?_
 refine wl_mv M rfl rfl ?_
 refine wl_m M (q_lenR R0 Tryz.underlying31 rfl) rfl rfl ?_
 refine wl_mv M rfl rfl ?_
 refine wl_nil ?_
 refine wc_block ?_
 refine wc_loop (α := Nat) [2, 4, 9, 10, 11, 12, 13, 14, 15, 16] (fun (k0 : Nat) => [(9, .int .i64 (k0 : Int))])
   (fun (k0 : Nat) w' => (k0 ≤ ss.length) ∧ ((ss.take k0).all okS = true) ∧ Mem w I I ([]) w')
   (fun (k0 : Nat) => ss.length - k0) (0) ⟨rfl, trivial⟩ ?_ ?_
 ·refine ⟨Nat.zero_le _, rfl, ?_⟩
  exact M
 rintro k0 jj0 w1 ⟨hk0, ha, M⟩
 refine wc_seq ?_
 refine wc_region ?_
 refine wl_m M (q_lss rfl rfl) rfl rfl ?_
 refine wl_nil ?_
 refine wc_seq ?_
 refine wc_dec rfl (fun ht10 => ?_) (fun ht10 => ?_)
 ·obtain ⟨x0, hx0⟩ : ∃ x_, ss[k0]? = some x_ := ⟨_, List.getElem?_eq_getElem (by omega)⟩
  have hll0 := (R0).len_le
  have hll0 := R0.len_le
  refine wc_skip ?_
  refine wc_seq ?_
  refine wc_block ?_
  refine wc_seq ?_
  refine wc_region ?_
  refine wl_ix (j := k0) M R0 Tryz.underlying31 rfl rfl hx0 rfl (fun b11 o11 p11 => ?_)
  refine wl_m M (q_ldp p11 rfl rfl) rfl rfl ?_
  refine wl_as M rfl rfl ?_
  refine wl_nil ?_
  refine wc_seq ?_
  refine wc_region ?_
  refine wl_mv M rfl rfl ?_
  refine wl_e (e_callC M (readable_c x0 (hs x0 (List.mem_of_getElem? hx0)) M.imm hT) Tryz.func80 rfl rfl) rfl rfl ?_
  rintro _ w2 ⟨J14, hJ14, rfl, M⟩
  replace M := M.less hJ14 (fun _ _ => rfl)
  refine wl_m M (q_not rfl) rfl rfl ?_
  refine wl_nil ?_
  refine wc_cond rfl (fun ht15 => ?_) (fun ht15 => ?_)
  ·refine wc_seq ?_
   refine wc_region ?_
   refine wl_as M rfl rfl ?_
   refine wl_nil ?_
   refine wc_ret ?_
   exact out1 rfl rfl ⟨_, _, rfl, M.grow, by rw [chkS, if_neg (by rw [all_false_at hx0 (by simpa using ht15)]; decide)]⟩
  refine wc_skip ?_
  refine wc_region ?_
  refine wl_m M (q_add rfl rfl (IntWalk.i64_in _ (by omega))) rfl rfl ?_
  refine wl_mv M rfl rfl ?_
  refine wl_nil ?_
  refine ⟨(k0 + 1), ?_, ⟨(by omega), (all_take_succ hx0 ha (by simpa using ht15)), M⟩, ⟨rfl, trivial⟩, unw_look rfl unw_base⟩
  show ss.length - (k0 + 1) < ss.length - k0
  omega
 have hke0 : k0 = ss.length := by omega
 rw [hke0, List.take_length] at ha
 refine wc_exit rfl ?_
 refine wc_seq ?_
 refine wc_seq ?_
 refine wc_region ?_
 refine wl_mv M rfl rfl ?_
 refine wl_m M (q_lenR R0 Tryz.underlying31 rfl) rfl rfl ?_
 refine wl_mv M rfl rfl ?_
 refine wl_nil ?_
 refine wc_block ?_
 refine wc_loop (α := Nat) [2, 6, 19, 20, 21, 22, 23, 24, 25, 26] (fun (k2 : Nat) => [(19, .int .i64 (k2 : Int))])
   (fun (k2 : Nat) w' => (k2 ≤ ss.length) ∧ ((ss.take k2).all (fun s => !longS s) = true) ∧ Mem w I I ([]) w')
   (fun (k2 : Nat) => ss.length - k2) (0) ⟨rfl, trivial⟩ ?_ ?_
 ·refine ⟨Nat.zero_le _, rfl, ?_⟩
  exact M
 rintro k2 jj2 w3 ⟨hk2, hl, M⟩
 refine wc_seq ?_
 refine wc_region ?_
 refine wl_m M (q_lss rfl rfl) rfl rfl ?_
 refine wl_nil ?_
 refine wc_seq ?_
 refine wc_dec rfl (fun ht20 => ?_) (fun ht20 => ?_)
 ·obtain ⟨x2, hx2⟩ : ∃ x_, ss[k2]? = some x_ := ⟨_, List.getElem?_eq_getElem (by omega)⟩
  have hll2 := (R0).len_le
  have hll0 := R0.len_le
  refine wc_skip ?_
  refine wc_seq ?_
  refine wc_block ?_
  refine wc_seq ?_
  refine wc_region ?_
  refine wl_ix (j := k2) M R0 Tryz.underlying31 rfl rfl hx2 rfl (fun b21 o21 p21 => ?_)
  refine wl_m M (q_ldp p21 rfl rfl) rfl rfl ?_
  refine wl_as M rfl rfl ?_
  refine wl_nil ?_
  refine wc_seq ?_
  refine wc_region ?_
  refine wl_mv M rfl rfl ?_
  refine wl_e (e_callC M (runeCount_c x2 (hs x2 (List.mem_of_getElem? hx2)) M.imm) Tryz.func81 rfl rfl) rfl rfl ?_
  rintro _ w4 ⟨J24, hJ24, rfl, M⟩
  replace M := M.less hJ24 (fun _ _ => rfl)
  refine wl_m M (q_gtr rfl rfl) rfl rfl ?_
  refine wl_nil ?_
  refine wc_dec rfl (fun ht25 => ?_) (fun ht25 => ?_)
  ·refine wc_seq ?_
   refine wc_region ?_
   refine wl_as M rfl rfl ?_
   refine wl_nil ?_
   refine wc_ret ?_
   exact out1 rfl rfl ⟨_, _, rfl, M.grow, by rw [chkS, if_pos ha, if_neg (by rw [all_false_at (f := fun s => !longS s) hx2 (by simpa [longS] using ht25)]; decide)]⟩
  refine wc_skip ?_
  refine wc_region ?_
  refine wl_m M (q_add rfl rfl (IntWalk.i64_in _ (by omega))) rfl rfl ?_
  refine wl_mv M rfl rfl ?_
  refine wl_nil ?_
  refine ⟨(k2 + 1), ?_, ⟨(by omega), (all_take_succ hx2 hl (by simpa [longS] using ht25)), M⟩, ⟨rfl, trivial⟩, unw_look rfl unw_base⟩
  show ss.length - (k2 + 1) < ss.length - k2
  omega
 have hke2 : k2 = ss.length := by omega
 rw [hke2, List.take_length] at hl
 refine wc_exit rfl ?_
 refine wc_seq ?_
 refine wc_region ?_
 refine wl_as M rfl rfl ?_
 refine wl_nil ?_
 refine wc_ret ?_
 exact out1 rfl rfl ⟨_, _, rfl, M.grow, by rw [chkS, if_pos ha, if_pos hl]⟩
theorem done_c {a b : Tra} {fu1 au1 fu2 au2 ux uz uf ut : SV} {xs zs : List Int} {m n sb : Nat} {I : Heap} {w : World} (c : Config) (hI : hle I (hp w)) (Hs : I sb = some (.cells ([.int .i64 a.states, .int .i64 a.start, sv fu1, sv au1, .int .i64 b.states, .int .i64 b.start, sv fu2, sv au2, sv ux, sv uz, sv uf, sv ut] : List Value).toArray 131 (0, 0))) (Rf1 : rdSl EInt I (sv fu1) a.finals) (Rf2 : rdSl EInt I (sv fu2) b.finals) (Rx : rdSl ERune I (sv ux) xs) (Rz : rdSl ERune I (sv uz) zs) (Rm1 : rdMat EArc VArc I (sv uf) (lv m a.arcs)) (Rm2 : rdMat EArc VArc I (sv ut) (lv n b.arcs)) :
    Calls A 28 #[.pointer (some ⟨sb, 0, none⟩), EConfig.val c] w (Ret w I fun r _ => r = .bool (doneB a b xs zs c)) := by
 have M := Mem.start hI
 refine enter Tryz.func28 rfl 43 Tryz.ntmps28 [_, _] rfl ?_
 refine wc_seq ?_
 refine wc_region ?_
 refine wl_e (e_box M rfl) rfl rfl ?_
 rintro _ w1 ⟨b3, rfl, M⟩
 refine wl_as M rfl rfl ?_
 refine wl_nil ?_
 refine wc_seq ?_
 refine wc_join (α := Unit) [4, 5, 6, 7, 8, 9, 10, 11, 12, 13, 14, 15, 16, 17, 18, 19, 20, 21, 22, 23, 24, 25, 26, 27, 28, 29, 30, 31, 32, 33, 34, 35, 36, 37, 38, 39, 40, 41, 42] (fun _ => [(4, .bool ((((decide (c.i = (xs.length : Int))) && (decide (c.j = (zs.length : Int)))) && (decide (c.p ∈ a.finals))) && (decide (c.q ∈ b.finals))))]) (fun _ w' => Mem w I I (box b3 63 [.int .i64 c.p, .int .i64 c.i, .int .i64 c.q, .int .i64 c.j] :: []) w') ?_ ?_
 ·refine wc_draws (fun w' => Mem w I I (box b3 63 [.int .i64 c.p, .int .i64 c.i, .int .i64 c.q, .int .i64 c.j] :: []) w' ∧ True) [] fol ?_
  replace M := M.drew
  have hS := (⟨M, trivial⟩ : _ ∧ _)
  refine wa_q 0 rfl (by kernel_rfl) (q_fa fo_63_1 rfl) hS rfl rfl ?_
  refine wa_q 1 rfl (by kernel_rfl) ((q_ldb 0 Tryz.underlying3 rfl rfl rfl rfl).mono fun _ h => h.1) hS rfl rfl ?_
  refine wa_q 2 rfl (by kernel_rfl) (q_move rfl) hS rfl rfl ?_
  refine wa_q 3 rfl (by kernel_rfl) (q_nilCheck rfl) hS rfl rfl ?_
  refine wa_q 4 rfl (by kernel_rfl) (q_fa fo_131_2 rfl) hS rfl rfl ?_
  refine wa_q 5 rfl (by kernel_rfl) ((q_ldbI Hs Tryz.underlying29 rfl rfl rfl).mono fun _ h => h.1) hS rfl rfl ?_
  refine wa_q 6 rfl (by kernel_rfl) (q_lenR Rx Tryz.underlying29 rfl) hS rfl rfl ?_
  refine wa_q 7 rfl (by kernel_rfl) (q_eql rfl rfl) hS rfl rfl ?_
  refine wa_q 8 rfl (by kernel_rfl) (q_move rfl) hS rfl rfl ?_
  rcases Bool.eq_false_or_eq_true (decide (c.i = (xs.length : Int))) with hg13 | hg13
  ·refine wa_q 9 rfl (by kernel_rfl) (q_guard 8 rfl rfl rfl hg13 (q_fa fo_63_3 rfl)) hS rfl rfl ?_
   refine wa_q 10 rfl (by kernel_rfl) ((q_guard 8 rfl rfl rfl hg13 (q_ldb 0 Tryz.underlying3 rfl rfl rfl rfl)).mono fun _ h => h.1) hS rfl rfl ?_
   refine wa_q 11 rfl (by kernel_rfl) (q_guard 8 rfl rfl rfl hg13 (q_move rfl)) hS rfl rfl ?_
   refine wa_q 12 rfl (by kernel_rfl) (q_guard 8 rfl rfl rfl hg13 (q_nilCheck rfl)) hS rfl rfl ?_
   refine wa_q 13 rfl (by kernel_rfl) (q_guard 8 rfl rfl rfl hg13 (q_fa fo_131_3 rfl)) hS rfl rfl ?_
   refine wa_q 14 rfl (by kernel_rfl) ((q_guard 8 rfl rfl rfl hg13 (q_ldbI Hs Tryz.underlying29 rfl rfl rfl)).mono fun _ h => h.1) hS rfl rfl ?_
   refine wa_q 15 rfl (by kernel_rfl) (q_guard 8 rfl rfl rfl hg13 (q_lenR Rz Tryz.underlying29 rfl)) hS rfl rfl ?_
   refine wa_q 16 rfl (by kernel_rfl) (q_guard 8 rfl rfl rfl hg13 (q_eql rfl rfl)) hS rfl rfl ?_
   refine wa_q 17 rfl (by kernel_rfl) (q_pickT rfl hg13 rfl) hS rfl rfl ?_
   refine wa_q 18 rfl (by kernel_rfl) (q_move rfl) hS rfl rfl ?_
   rcases Bool.eq_false_or_eq_true (decide (c.j = (zs.length : Int))) with hg23 | hg23
   ·refine wa_q 19 rfl (by kernel_rfl) (q_guard 18 rfl rfl rfl hg23 (q_move rfl)) hS rfl rfl ?_
    refine wa_q 20 rfl (by kernel_rfl) (q_guard 18 rfl rfl rfl hg23 (q_nilCheck rfl)) hS rfl rfl ?_
    refine wa_q 21 rfl (by kernel_rfl) (q_guard 18 rfl rfl rfl hg23 (q_fa fo_131_0 rfl)) hS rfl rfl ?_
    refine wa_q 22 rfl (by kernel_rfl) (q_guard 18 rfl rfl rfl hg23 (q_fa fo_25_2 rfl)) hS rfl rfl ?_
    refine wa_q 23 rfl (by kernel_rfl) ((q_guard 18 rfl rfl rfl hg23 (q_ldbI Hs Tryz.underlying22 rfl rfl rfl)).mono fun _ h => h.1) hS rfl rfl ?_
    refine wa_q 24 rfl (by kernel_rfl) (q_guard 18 rfl rfl rfl hg23 (q_fa fo_63_0 rfl)) hS rfl rfl ?_
    refine wa_q 25 rfl (by kernel_rfl) ((q_guard 18 rfl rfl rfl hg23 (q_ldb 0 Tryz.underlying3 rfl rfl rfl rfl)).mono fun _ h => h.1) hS rfl rfl ?_
    refine wa_e 26 rfl (by kernel_rfl) (e_guard 18 rfl rfl rfl hg23 (e_callC M (contains_c M.imm Rf1) Tryz.func36 rfl rfl)) rfl rfl ?_
    rintro _ w2 ⟨J31, hJ31, rfl, M⟩
    have hS := (⟨(M.less hJ31 (fun _ _ => rfl)), trivial⟩ : _ ∧ _)
    refine ⟨fun _ => hS, ?_⟩
    replace M := M.less hJ31 (fun _ _ => rfl)
    refine wa_q 27 rfl (by kernel_rfl) (q_pickT rfl hg23 rfl) hS rfl rfl ?_
    refine wa_q 28 rfl (by kernel_rfl) (q_move rfl) hS rfl rfl ?_
    rcases Bool.eq_false_or_eq_true (decide (c.p ∈ a.finals)) with hg33 | hg33
    ·refine wa_q 29 rfl (by kernel_rfl) (q_guard 28 rfl rfl rfl hg33 (q_move rfl)) hS rfl rfl ?_
     refine wa_q 30 rfl (by kernel_rfl) (q_guard 28 rfl rfl rfl hg33 (q_nilCheck rfl)) hS rfl rfl ?_
     refine wa_q 31 rfl (by kernel_rfl) (q_guard 28 rfl rfl rfl hg33 (q_fa fo_131_1 rfl)) hS rfl rfl ?_
     refine wa_q 32 rfl (by kernel_rfl) (q_guard 28 rfl rfl rfl hg33 (q_fa fo_25_2 rfl)) hS rfl rfl ?_
     refine wa_q 33 rfl (by kernel_rfl) ((q_guard 28 rfl rfl rfl hg33 (q_ldbI Hs Tryz.underlying22 rfl rfl rfl)).mono fun _ h => h.1) hS rfl rfl ?_
     refine wa_q 34 rfl (by kernel_rfl) (q_guard 28 rfl rfl rfl hg33 (q_fa fo_63_2 rfl)) hS rfl rfl ?_
     refine wa_q 35 rfl (by kernel_rfl) ((q_guard 28 rfl rfl rfl hg33 (q_ldb 0 Tryz.underlying3 rfl rfl rfl rfl)).mono fun _ h => h.1) hS rfl rfl ?_
     refine wa_e 36 rfl (by kernel_rfl) (e_guard 28 rfl rfl rfl hg33 (e_callC M (contains_c M.imm Rf2) Tryz.func36 rfl rfl)) rfl rfl ?_
     rintro _ w3 ⟨J41, hJ41, rfl, M⟩
     have hS := (⟨(M.less hJ41 (fun _ _ => rfl)), trivial⟩ : _ ∧ _)
     refine ⟨fun _ => hS, ?_⟩
     replace M := M.less hJ41 (fun _ _ => rfl)
     refine wa_q 37 rfl (by kernel_rfl) (q_pickT rfl hg33 rfl) hS rfl rfl ?_
     refine wa_q 38 rfl (by kernel_rfl) (q_assign rfl) hS rfl rfl ?_
     refine wa_done (by kernel_rfl) ?_
     exact ⟨(), M, ⟨(show some (Value.bool (decide (c.q ∈ b.finals))) = some (Value.bool ((((decide (c.i = (xs.length : Int))) && (decide (c.j = (zs.length : Int)))) && (decide (c.p ∈ a.finals))) && (decide (c.q ∈ b.finals)))) from by first | (simp only [hg13, hg23, hg33, Bool.true_or, Bool.false_or, Bool.true_and, Bool.false_and, Bool.or_true, Bool.or_false, Bool.and_true, Bool.and_false]; done) | (simp_all; done) | (simp_all; omega)), trivial⟩, unw_take 39 rfl rfl⟩
    refine wa_q 29 rfl (by kernel_rfl) (q_off 28 rfl rfl rfl hg33) hS rfl rfl ?_
    refine wa_q 30 rfl (by kernel_rfl) (q_off 28 rfl rfl rfl hg33) hS rfl rfl ?_
    refine wa_q 31 rfl (by kernel_rfl) (q_off 28 rfl rfl rfl hg33) hS rfl rfl ?_
    refine wa_q 32 rfl (by kernel_rfl) (q_off 28 rfl rfl rfl hg33) hS rfl rfl ?_
    refine wa_q 33 rfl (by kernel_rfl) (q_off 28 rfl rfl rfl hg33) hS rfl rfl ?_
    refine wa_q 34 rfl (by kernel_rfl) (q_off 28 rfl rfl rfl hg33) hS rfl rfl ?_
    refine wa_q 35 rfl (by kernel_rfl) (q_off 28 rfl rfl rfl hg33) hS rfl rfl ?_
    refine wa_q 36 rfl (by kernel_rfl) (q_off 28 rfl rfl rfl hg33) hS rfl rfl ?_
    refine wa_q 37 rfl (by kernel_rfl) (q_pickF rfl hg33 rfl) hS rfl rfl ?_
    refine wa_q 38 rfl (by kernel_rfl) (q_assign rfl) hS rfl rfl ?_
    refine wa_done (by kernel_rfl) ?_
    exact ⟨(), M, ⟨(show some (Value.bool false) = some (Value.bool ((((decide (c.i = (xs.length : Int))) && (decide (c.j = (zs.length : Int)))) && (decide (c.p ∈ a.finals))) && (decide (c.q ∈ b.finals)))) from by first | (simp only [hg13, hg23, hg33, Bool.true_or, Bool.false_or, Bool.true_and, Bool.false_and, Bool.or_true, Bool.or_false, Bool.and_true, Bool.and_false]; done) | (simp_all; done) | (simp_all; omega)), trivial⟩, unw_take 39 rfl rfl⟩
   refine wa_q 19 rfl (by kernel_rfl) (q_off 18 rfl rfl rfl hg23) hS rfl rfl ?_
   refine wa_q 20 rfl (by kernel_rfl) (q_off 18 rfl rfl rfl hg23) hS rfl rfl ?_
   refine wa_q 21 rfl (by kernel_rfl) (q_off 18 rfl rfl rfl hg23) hS rfl rfl ?_
   refine wa_q 22 rfl (by kernel_rfl) (q_off 18 rfl rfl rfl hg23) hS rfl rfl ?_
   refine wa_q 23 rfl (by kernel_rfl) (q_off 18 rfl rfl rfl hg23) hS rfl rfl ?_
   refine wa_q 24 rfl (by kernel_rfl) (q_off 18 rfl rfl rfl hg23) hS rfl rfl ?_
   refine wa_q 25 rfl (by kernel_rfl) (q_off 18 rfl rfl rfl hg23) hS rfl rfl ?_
   refine wa_q 26 rfl (by kernel_rfl) (q_off 18 rfl rfl rfl hg23) hS rfl rfl ?_
   refine wa_q 27 rfl (by kernel_rfl) (q_pickF rfl hg23 rfl) hS rfl rfl ?_
   refine wa_q 28 rfl (by kernel_rfl) (q_move rfl) hS rfl rfl ?_
   refine wa_q 29 rfl (by kernel_rfl) (q_off 28 rfl rfl rfl rfl) hS rfl rfl ?_
   refine wa_q 30 rfl (by kernel_rfl) (q_off 28 rfl rfl rfl rfl) hS rfl rfl ?_
   refine wa_q 31 rfl (by kernel_rfl) (q_off 28 rfl rfl rfl rfl) hS rfl rfl ?_
   refine wa_q 32 rfl (by kernel_rfl) (q_off 28 rfl rfl rfl rfl) hS rfl rfl ?_
   refine wa_q 33 rfl (by kernel_rfl) (q_off 28 rfl rfl rfl rfl) hS rfl rfl ?_
   refine wa_q 34 rfl (by kernel_rfl) (q_off 28 rfl rfl rfl rfl) hS rfl rfl ?_
   refine wa_q 35 rfl (by kernel_rfl) (q_off 28 rfl rfl rfl rfl) hS rfl rfl ?_
   refine wa_q 36 rfl (by kernel_rfl) (q_off 28 rfl rfl rfl rfl) hS rfl rfl ?_
   refine wa_q 37 rfl (by kernel_rfl) (q_pickF rfl rfl rfl) hS rfl rfl ?_
   refine wa_q 38 rfl (by kernel_rfl) (q_assign rfl) hS rfl rfl ?_
   refine wa_done (by kernel_rfl) ?_
   exact ⟨(), M, ⟨(show some (Value.bool false) = some (Value.bool ((((decide (c.i = (xs.length : Int))) && (decide (c.j = (zs.length : Int)))) && (decide (c.p ∈ a.finals))) && (decide (c.q ∈ b.finals)))) from by first | (simp only [hg13, hg23, Bool.true_or, Bool.false_or, Bool.true_and, Bool.false_and, Bool.or_true, Bool.or_false, Bool.and_true, Bool.and_false]; done) | (simp_all; done) | (simp_all; omega)), trivial⟩, unw_take 39 rfl rfl⟩
  refine wa_q 9 rfl (by kernel_rfl) (q_off 8 rfl rfl rfl hg13) hS rfl rfl ?_
  refine wa_q 10 rfl (by kernel_rfl) (q_off 8 rfl rfl rfl hg13) hS rfl rfl ?_
  refine wa_q 11 rfl (by kernel_rfl) (q_off 8 rfl rfl rfl hg13) hS rfl rfl ?_
  refine wa_q 12 rfl (by kernel_rfl) (q_off 8 rfl rfl rfl hg13) hS rfl rfl ?_
  refine wa_q 13 rfl (by kernel_rfl) (q_off 8 rfl rfl rfl hg13) hS rfl rfl ?_
  refine wa_q 14 rfl (by kernel_rfl) (q_off 8 rfl rfl rfl hg13) hS rfl rfl ?_
  refine wa_q 15 rfl (by kernel_rfl) (q_off 8 rfl rfl rfl hg13) hS rfl rfl ?_
  refine wa_q 16 rfl (by kernel_rfl) (q_off 8 rfl rfl rfl hg13) hS rfl rfl ?_
  refine wa_q 17 rfl (by kernel_rfl) (q_pickF rfl hg13 rfl) hS rfl rfl ?_
  refine wa_q 18 rfl (by kernel_rfl) (q_move rfl) hS rfl rfl ?_
  refine wa_q 19 rfl (by kernel_rfl) (q_off 18 rfl rfl rfl rfl) hS rfl rfl ?_
  refine wa_q 20 rfl (by kernel_rfl) (q_off 18 rfl rfl rfl rfl) hS rfl rfl ?_
  refine wa_q 21 rfl (by kernel_rfl) (q_off 18 rfl rfl rfl rfl) hS rfl rfl ?_
  refine wa_q 22 rfl (by kernel_rfl) (q_off 18 rfl rfl rfl rfl) hS rfl rfl ?_
  refine wa_q 23 rfl (by kernel_rfl) (q_off 18 rfl rfl rfl rfl) hS rfl rfl ?_
  refine wa_q 24 rfl (by kernel_rfl) (q_off 18 rfl rfl rfl rfl) hS rfl rfl ?_
  refine wa_q 25 rfl (by kernel_rfl) (q_off 18 rfl rfl rfl rfl) hS rfl rfl ?_
  refine wa_q 26 rfl (by kernel_rfl) (q_off 18 rfl rfl rfl rfl) hS rfl rfl ?_
  refine wa_q 27 rfl (by kernel_rfl) (q_pickF rfl rfl rfl) hS rfl rfl ?_
  refine wa_q 28 rfl (by kernel_rfl) (q_move rfl) hS rfl rfl ?_
  refine wa_q 29 rfl (by kernel_rfl) (q_off 28 rfl rfl rfl rfl) hS rfl rfl ?_
  refine wa_q 30 rfl (by kernel_rfl) (q_off 28 rfl rfl rfl rfl) hS rfl rfl ?_
  refine wa_q 31 rfl (by kernel_rfl) (q_off 28 rfl rfl rfl rfl) hS rfl rfl ?_
  refine wa_q 32 rfl (by kernel_rfl) (q_off 28 rfl rfl rfl rfl) hS rfl rfl ?_
  refine wa_q 33 rfl (by kernel_rfl) (q_off 28 rfl rfl rfl rfl) hS rfl rfl ?_
  refine wa_q 34 rfl (by kernel_rfl) (q_off 28 rfl rfl rfl rfl) hS rfl rfl ?_
  refine wa_q 35 rfl (by kernel_rfl) (q_off 28 rfl rfl rfl rfl) hS rfl rfl ?_
  refine wa_q 36 rfl (by kernel_rfl) (q_off 28 rfl rfl rfl rfl) hS rfl rfl ?_
  refine wa_q 37 rfl (by kernel_rfl) (q_pickF rfl rfl rfl) hS rfl rfl ?_
  refine wa_q 38 rfl (by kernel_rfl) (q_assign rfl) hS rfl rfl ?_
  refine wa_done (by kernel_rfl) ?_
  exact ⟨(), M, ⟨(show some (Value.bool false) = some (Value.bool ((((decide (c.i = (xs.length : Int))) && (decide (c.j = (zs.length : Int)))) && (decide (c.p ∈ a.finals))) && (decide (c.q ∈ b.finals)))) from by first | (simp only [hg13, Bool.true_or, Bool.false_or, Bool.true_and, Bool.false_and, Bool.or_true, Bool.or_false, Bool.and_true, Bool.and_false]; done) | (simp_all; done) | (simp_all; omega)), trivial⟩, unw_take 39 rfl rfl⟩
 rintro _ jr1 w4 M
 refine wc_ret ?_
 exact out1 rfl rfl ⟨_, _, rfl, M.grow, rfl⟩
theorem newBetween_c (a b : Tra) (x z : ByteArray) (hx : x.size ≤ 70368744177664) (hz : z.size ≤ 70368744177664) {v1 v2 : Value} {I : Heap} {w : World} (hI : hle I (hp w)) (hT : Tabs I) (R1 : a.rd I v1) (R2 : b.rd I v2) :
    Calls A 25 #[v1, v2, .string x, .string z] w (Ret w I fun r I' => NewB a b x z r I') := by
 obtain ⟨fu1, au1, rfl, Rf1, Ra1⟩ := R1
 obtain ⟨fu2, au2, rfl, Rf2, Ra2⟩ := R2
 have M := Mem.start hI
 refine enter Tryz.func25 rfl 38 Tryz.ntmps25 [_, _, _, _] rfl ?_
 refine wc_seq ?_
 refine wc_region ?_
 refine wl_e (e_box M rfl) rfl rfl ?_
 rintro _ w1 ⟨b4, rfl, M⟩
 refine wl_e (e_box M rfl) rfl rfl ?_
 rintro _ w2 ⟨b5, rfl, M⟩
 refine wl_as M rfl rfl ?_
 refine wl_as M rfl rfl ?_
 refine wl_nil ?_
 refine wc_seq ?_
 refine wc_seq ?_
 refine wc_join (α := Unit) [11, 12, 13, 14, 15, 16, 17, 18] (fun _ => [(18, .bool ((!(validT a)) || (!(validT b))))]) (fun _ w' => Mem w I I (box b5 25 [.int .i64 b.states, .int .i64 b.start, sv fu2, sv au2] :: box b4 25 [.int .i64 a.states, .int .i64 a.start, sv fu1, sv au1] :: []) w') ?_ ?_
 ·refine wc_region ?_
  refine wl_m M (q_ldbA 1 Tryz.underlying25 rfl sz25 rfl rfl rfl rfl) rfl rfl ?_
  refine wl_e (e_callC M (valid_c a M.imm ⟨fu1, au1, rfl, Rf1, Ra1⟩) Tryz.func34 rfl rfl) rfl rfl ?_
  rintro _ w3 ⟨J12, hJ12, rfl, M⟩
  replace M := M.less hJ12 (fun _ _ => rfl)
  refine wl_m M (q_not rfl) rfl rfl ?_
  refine wl_mv M rfl rfl ?_
  rcases Bool.eq_false_or_eq_true (!(validT a)) with hg14 | hg14
  ·refine wl_m M (q_off 3 rfl rfl rfl hg14) rfl rfl ?_
   refine wl_m M (q_off 3 rfl rfl rfl hg14) rfl rfl ?_
   refine wl_m M (q_off 3 rfl rfl rfl hg14) rfl rfl ?_
   refine wl_m M (q_pickT rfl hg14 rfl) rfl rfl ?_
   refine wl_nil ?_
   exact ⟨(), M, ⟨(show some (Value.bool true) = some (Value.bool ((!(validT a)) || (!(validT b)))) from by first | (simp only [hg14, Bool.true_or, Bool.false_or, Bool.true_and, Bool.false_and, Bool.or_true, Bool.or_false, Bool.and_true, Bool.and_false]; done) | (simp_all; done) | (simp_all; omega)), trivial⟩, unw_take 8 rfl rfl⟩
  refine wl_m M (q_guard 3 rfl rfl rfl hg14 (q_ldbA 0 Tryz.underlying25 rfl sz25 rfl rfl rfl rfl)) rfl rfl ?_
  refine wl_e (e_guard 3 rfl rfl rfl hg14 (e_callC M (valid_c b M.imm ⟨fu2, au2, rfl, Rf2, Ra2⟩) Tryz.func34 rfl rfl)) rfl rfl ?_
  rintro _ w4 ⟨J16, hJ16, rfl, M⟩
  replace M := M.less hJ16 (fun _ _ => rfl)
  refine wl_m M (q_guard 3 rfl rfl rfl hg14 (q_not rfl)) rfl rfl ?_
  refine wl_m M (q_pickF rfl hg14 rfl) rfl rfl ?_
  refine wl_nil ?_
  exact ⟨(), M, ⟨(show some (Value.bool (!(validT b))) = some (Value.bool ((!(validT a)) || (!(validT b)))) from by first | (simp only [hg14, Bool.true_or, Bool.false_or, Bool.true_and, Bool.false_and, Bool.or_true, Bool.or_false, Bool.and_true, Bool.and_false]; done) | (simp_all; done) | (simp_all; omega)), trivial⟩, unw_take 8 rfl rfl⟩
 rintro _ jr1 w5 M
 refine wc_cond rfl (fun ht18 => ?_) (fun ht18 => ?_)
 ·refine wc_seq ?_
  refine wc_region ?_
  refine wl_as M rfl rfl ?_
  refine wl_as M rfl rfl ?_
  refine wl_nil ?_
  refine wc_ret ?_
  exact out2 rfl rfl rfl ⟨_, _, rfl, M.grow, _, by rw [btwE, if_pos ht18], fun h => absurd h (by rw [btwE, if_pos ht18]; decide)⟩
 have hva : validT a = true := by simpa using (Bool.or_eq_false_iff.1 ht18).1
 have hvb : validT b = true := by simpa using (Bool.or_eq_false_iff.1 ht18).2
 obtain ⟨m, ha, hfa, hfal⟩ := validT_ok hva
 obtain ⟨n, hb, hfb, hfbl⟩ := validT_ok hvb
 have hbe : btwE a b x z = chkS [x, z] := by rw [btwE, if_neg (by rw [ht18]; decide)]
 refine wc_skip ?_
 refine wc_seq ?_
 refine wc_seq ?_
 refine wc_region ?_
 refine wl_mv M rfl rfl ?_
 refine wl_mv M rfl rfl ?_
 refine wl_e (e_bsI (E := EStr) (xs := [x, z]) M (bs_31_2 _ _) ⟨⟨rfl, rfl⟩, ⟨rfl, rfl⟩, trivial⟩ rfl rfl (by decide)) rfl rfl ?_
 rintro _ w6 ⟨u21, J21, rfl, hJ21, R21, M⟩
 have hoJ21 := M.old
 refine wl_e (e_callC M (check_c (ss := [x, z]) (by simp [hx, hz]) M.imm (hT.mono hJ21) R21) Tryz.func44 rfl rfl) rfl rfl ?_
 rintro _ w7 ⟨J22, hJ22, rfl, M⟩
 replace M := M.less hJ22 hoJ21
 refine wl_as M rfl rfl ?_
 refine wl_nil ?_
 refine wc_seq ?_
 refine wc_region ?_
 refine wl_mv M rfl rfl ?_
 refine wl_m M (q_neq rfl rfl) rfl rfl ?_
 refine wl_nil ?_
 refine wc_cond rfl (fun ht24 => ?_) (fun ht24 => ?_)
 ·refine wc_seq ?_
  refine wc_region ?_
  refine wl_mv M rfl rfl ?_
  refine wl_as M rfl rfl ?_
  refine wl_as M rfl rfl ?_
  refine wl_nil ?_
  refine wc_ret ?_
  exact out2 rfl rfl rfl ⟨_, _, rfl, M.grow, _, by rw [hbe], fun h => absurd (hbe.symm.trans h) (nd_t ht24)⟩
 have h0 : chkS [x, z] = 0 := nd_f ht24
 refine wc_skip ?_
 refine wc_seq ?_
 refine wc_join (α := Heap × Nat × SV × SV × SV × SV) [8, 9, 26, 27, 28, 29, 30, 31, 32, 33, 34, 35, 36, 37] (fun ((I6, b37, u29, u31, u33, u35) : Heap × Nat × SV × SV × SV × SV) => [(8, .pointer (some ⟨b37, 0, none⟩)), (9, .int .i64 0)]) (fun ((I6, b37, u29, u31, u33, u35) : Heap × Nat × SV × SV × SV × SV) w' => hle J21 I6 ∧ rdSl ERune I6 (sv u29) (runesL x) ∧ rdSl ERune I6 (sv u31) (runesL z) ∧ rdMat EArc VArc I6 (sv u33) (lv m a.arcs) ∧ rdMat EArc VArc I6 (sv u35) (lv n b.arcs) ∧ Mem w I I6 (box b37 131 [.int .i64 a.states, .int .i64 a.start, sv fu1, sv au1, .int .i64 b.states, .int .i64 b.start, sv fu2, sv au2, sv u29, sv u31, sv u33, sv u35] :: box b5 25 [.int .i64 b.states, .int .i64 b.start, sv fu2, sv au2] :: box b4 25 [.int .i64 a.states, .int .i64 a.start, sv fu1, sv au1] :: []) w') ?_ ?_
 ·refine wc_draws (fun w' => Mem w I J21 (box b5 25 [.int .i64 b.states, .int .i64 b.start, sv fu2, sv au2] :: box b4 25 [.int .i64 a.states, .int .i64 a.start, sv fu1, sv au1] :: []) w' ∧ True) [] fol ?_
  replace M := M.drew
  have hS := (⟨M, trivial⟩ : _ ∧ _)
  refine wa_q 0 rfl (by kernel_rfl) ((q_ldbA 1 Tryz.underlying25 rfl sz25 rfl rfl rfl rfl).mono fun _ h => h.1) hS rfl rfl ?_
  refine wa_q 1 rfl (by kernel_rfl) ((q_ldbA 0 Tryz.underlying25 rfl sz25 rfl rfl rfl rfl).mono fun _ h => h.1) hS rfl rfl ?_
  refine wa_q 2 rfl (by kernel_rfl) (q_move rfl) hS rfl rfl ?_
  refine wa_q 4 rfl (by kernel_rfl) (q_move rfl) hS rfl rfl ?_
  refine wa_q 6 rfl (by kernel_rfl) ((q_ldbA 1 Tryz.underlying25 rfl sz25 rfl rfl rfl rfl).mono fun _ h => h.1) hS rfl rfl ?_
  refine wa_q 8 rfl (by kernel_rfl) ((q_ldbA 0 Tryz.underlying25 rfl sz25 rfl rfl rfl rfl).mono fun _ h => h.1) hS rfl rfl ?_
  refine wa_es [3, 5, 7] (by kernel_rfl) (by decide) ⟨?_, ?_, ?_, trivial⟩
  ·refine one_e 3 rfl (e_cvRI (E := ERune) (s := x) M (fun _ => rfl) Tryz.underlying9 Tryz.underlying29 Tryz.underlying21 hx rfl) rfl rfl ?_
   rintro v29 w8 ⟨J29, hJ29, R29, M⟩
   obtain ⟨u29, rfl⟩ := rdSl_slice R29
   have hoJ29 := M.old
   have hS := (⟨(M.less hJ29 hoJ21), trivial⟩ : _ ∧ _)
   refine ⟨fun _ => hS, ?_⟩
   replace R29 : rdSl ERune J29 (sv u29) (runesL x) := R29
   refine wa_es [5, 7] (by kernel_rfl) (by decide) ⟨?_, ?_, trivial⟩
   ·refine one_e 5 rfl (e_cvRI (E := ERune) (s := z) M (fun _ => rfl) Tryz.underlying9 Tryz.underlying29 Tryz.underlying21 hz rfl) rfl rfl ?_
    rintro v31 w9 ⟨J31, hJ31, R31, M⟩
    obtain ⟨u31, rfl⟩ := rdSl_slice R31
    have hoJ31 := M.old
    have hS := (⟨(M.less (hle.trans hJ29 hJ31) hoJ21), trivial⟩ : _ ∧ _)
    refine ⟨fun _ => hS, ?_⟩
    replace R31 : rdSl ERune J31 (sv u31) (runesL z) := R31
    refine wa_e 7 rfl (by kernel_rfl) (e_callC M (leaving_c a m ha.st ha.le (fun x hx => (ha.arcs x hx).1) ha.alen M.imm ⟨fu1, au1, rfl, (((Rf1.mono hJ21).mono hJ29).mono hJ31), (((Ra1.mono hJ21).mono hJ29).mono hJ31)⟩) Tryz.func63 rfl rfl) rfl rfl ?_
    rintro v33 w10 ⟨J33, hJ33, R33, M⟩
    obtain ⟨u33, rfl⟩ := rdMat_slice R33
    have hoJ33 := M.old
    have hS := (⟨(M.less (hle.trans (hle.trans hJ29 hJ31) hJ33) hoJ21), trivial⟩ : _ ∧ _)
    refine ⟨fun _ => hS, ?_⟩
    refine wa_e 9 rfl (by kernel_rfl) (e_callC M (leaving_c b n hb.st hb.le (fun x hx => (hb.arcs x hx).1) hb.alen M.imm ⟨fu2, au2, rfl, ((((Rf2.mono hJ21).mono hJ29).mono hJ31).mono hJ33), ((((Ra2.mono hJ21).mono hJ29).mono hJ31).mono hJ33)⟩) Tryz.func63 rfl rfl) rfl rfl ?_
    rintro v35 w11 ⟨J35, hJ35, R35, M⟩
    obtain ⟨u35, rfl⟩ := rdMat_slice R35
    have hoJ35 := M.old
    have hS := (⟨(M.less (hle.trans (hle.trans (hle.trans hJ29 hJ31) hJ33) hJ35) hoJ21), trivial⟩ : _ ∧ _)
    refine ⟨fun _ => hS, ?_⟩
    refine wa_q 10 rfl (by kernel_rfl) (q_build (bd_131_0_1_2_3_4_5 _ _ _ _ _ _ _ _ _ _ _ _) ⟨⟨rfl, rfl⟩, ⟨rfl, rfl⟩, ⟨rfl, rfl⟩, ⟨rfl, rfl⟩, ⟨rfl, rfl⟩, ⟨rfl, rfl⟩, trivial⟩) hS rfl rfl ?_
    refine wa_e 11 rfl (by kernel_rfl) (e_box M rfl) rfl rfl ?_
    rintro _ w12 ⟨b37, rfl, M⟩
    have hS := (⟨((M.less (hle.trans (hle.trans (hle.trans hJ29 hJ31) hJ33) hJ35) hoJ21).drop 0), trivial⟩ : _ ∧ _)
    refine ⟨fun _ => hS, ?_⟩
    refine wa_q 12 rfl (by kernel_rfl) (q_assign rfl) hS rfl rfl ?_
    refine wa_q 13 rfl (by kernel_rfl) (q_assign rfl) hS rfl rfl ?_
    refine wa_done (by kernel_rfl) ?_
    exact ⟨(J35, b37, u29, u31, u33, u35), ⟨(hle.trans (hle.trans (hle.trans hJ29 hJ31) hJ33) hJ35), (((R29.mono hJ31).mono hJ33).mono hJ35), ((R31.mono hJ33).mono hJ35), (R33.mono hJ35), R35, M⟩, ⟨rfl, rfl, trivial⟩, unw_take 14 rfl rfl⟩
   ·refine one_e 7 rfl (e_callC M (leaving_c a m ha.st ha.le (fun x hx => (ha.arcs x hx).1) ha.alen M.imm ⟨fu1, au1, rfl, ((Rf1.mono hJ21).mono hJ29), ((Ra1.mono hJ21).mono hJ29)⟩) Tryz.func63 rfl rfl) rfl rfl ?_
    rintro v33 w13 ⟨J33, hJ33, R33, M⟩
    obtain ⟨u33, rfl⟩ := rdMat_slice R33
    have hoJ33 := M.old
    have hS := (⟨(M.less (hle.trans hJ29 hJ33) hoJ21), trivial⟩ : _ ∧ _)
    refine ⟨fun _ => hS, ?_⟩
    refine wa_es [5, 9] (by kernel_rfl) (by decide) ⟨?_, ?_, trivial⟩
    ·refine one_e 5 rfl (e_cvRI (E := ERune) (s := z) M (fun _ => rfl) Tryz.underlying9 Tryz.underlying29 Tryz.underlying21 hz rfl) rfl rfl ?_
     rintro v31 w14 ⟨J31, hJ31, R31, M⟩
     obtain ⟨u31, rfl⟩ := rdSl_slice R31
     have hoJ31 := M.old
     have hS := (⟨(M.less (hle.trans (hle.trans hJ29 hJ33) hJ31) hoJ21), trivial⟩ : _ ∧ _)
     refine ⟨fun _ => hS, ?_⟩
     replace R31 : rdSl ERune J31 (sv u31) (runesL z) := R31
     refine wa_e 9 rfl (by kernel_rfl) (e_callC M (leaving_c b n hb.st hb.le (fun x hx => (hb.arcs x hx).1) hb.alen M.imm ⟨fu2, au2, rfl, ((((Rf2.mono hJ21).mono hJ29).mono hJ33).mono hJ31), ((((Ra2.mono hJ21).mono hJ29).mono hJ33).mono hJ31)⟩) Tryz.func63 rfl rfl) rfl rfl ?_
     rintro v35 w15 ⟨J35, hJ35, R35, M⟩
     obtain ⟨u35, rfl⟩ := rdMat_slice R35
     have hoJ35 := M.old
     have hS := (⟨(M.less (hle.trans (hle.trans (hle.trans hJ29 hJ33) hJ31) hJ35) hoJ21), trivial⟩ : _ ∧ _)
     refine ⟨fun _ => hS, ?_⟩
     refine wa_q 10 rfl (by kernel_rfl) (q_build (bd_131_0_1_2_3_4_5 _ _ _ _ _ _ _ _ _ _ _ _) ⟨⟨rfl, rfl⟩, ⟨rfl, rfl⟩, ⟨rfl, rfl⟩, ⟨rfl, rfl⟩, ⟨rfl, rfl⟩, ⟨rfl, rfl⟩, trivial⟩) hS rfl rfl ?_
     refine wa_e 11 rfl (by kernel_rfl) (e_box M rfl) rfl rfl ?_
     rintro _ w16 ⟨b37, rfl, M⟩
     have hS := (⟨((M.less (hle.trans (hle.trans (hle.trans hJ29 hJ33) hJ31) hJ35) hoJ21).drop 0), trivial⟩ : _ ∧ _)
     refine ⟨fun _ => hS, ?_⟩
     refine wa_q 12 rfl (by kernel_rfl) (q_assign rfl) hS rfl rfl ?_
     refine wa_q 13 rfl (by kernel_rfl) (q_assign rfl) hS rfl rfl ?_
     refine wa_done (by kernel_rfl) ?_
     exact ⟨(J35, b37, u29, u31, u33, u35), ⟨(hle.trans (hle.trans (hle.trans hJ29 hJ33) hJ31) hJ35), (((R29.mono hJ33).mono hJ31).mono hJ35), (R31.mono hJ35), ((R33.mono hJ31).mono hJ35), R35, M⟩, ⟨rfl, rfl, trivial⟩, unw_take 14 rfl rfl⟩
    ·refine one_e 9 rfl (e_callC M (leaving_c b n hb.st hb.le (fun x hx => (hb.arcs x hx).1) hb.alen M.imm ⟨fu2, au2, rfl, (((Rf2.mono hJ21).mono hJ29).mono hJ33), (((Ra2.mono hJ21).mono hJ29).mono hJ33)⟩) Tryz.func63 rfl rfl) rfl rfl ?_
     rintro v35 w17 ⟨J35, hJ35, R35, M⟩
     obtain ⟨u35, rfl⟩ := rdMat_slice R35
     have hoJ35 := M.old
     have hS := (⟨(M.less (hle.trans (hle.trans hJ29 hJ33) hJ35) hoJ21), trivial⟩ : _ ∧ _)
     refine ⟨fun _ => hS, ?_⟩
     refine wa_e 5 rfl (by kernel_rfl) (e_cvRI (E := ERune) (s := z) M (fun _ => rfl) Tryz.underlying9 Tryz.underlying29 Tryz.underlying21 hz rfl) rfl rfl ?_
     rintro v31 w18 ⟨J31, hJ31, R31, M⟩
     obtain ⟨u31, rfl⟩ := rdSl_slice R31
     have hoJ31 := M.old
     have hS := (⟨(M.less (hle.trans (hle.trans (hle.trans hJ29 hJ33) hJ35) hJ31) hoJ21), trivial⟩ : _ ∧ _)
     refine ⟨fun _ => hS, ?_⟩
     replace R31 : rdSl ERune J31 (sv u31) (runesL z) := R31
     refine wa_q 10 rfl (by kernel_rfl) (q_build (bd_131_0_1_2_3_4_5 _ _ _ _ _ _ _ _ _ _ _ _) ⟨⟨rfl, rfl⟩, ⟨rfl, rfl⟩, ⟨rfl, rfl⟩, ⟨rfl, rfl⟩, ⟨rfl, rfl⟩, ⟨rfl, rfl⟩, trivial⟩) hS rfl rfl ?_
     refine wa_e 11 rfl (by kernel_rfl) (e_box M rfl) rfl rfl ?_
     rintro _ w19 ⟨b37, rfl, M⟩
     have hS := (⟨((M.less (hle.trans (hle.trans (hle.trans hJ29 hJ33) hJ35) hJ31) hoJ21).drop 0), trivial⟩ : _ ∧ _)
     refine ⟨fun _ => hS, ?_⟩
     refine wa_q 12 rfl (by kernel_rfl) (q_assign rfl) hS rfl rfl ?_
     refine wa_q 13 rfl (by kernel_rfl) (q_assign rfl) hS rfl rfl ?_
     refine wa_done (by kernel_rfl) ?_
     exact ⟨(J31, b37, u29, u31, u33, u35), ⟨(hle.trans (hle.trans (hle.trans hJ29 hJ33) hJ35) hJ31), (((R29.mono hJ33).mono hJ35).mono hJ31), R31, ((R33.mono hJ35).mono hJ31), (R35.mono hJ31), M⟩, ⟨rfl, rfl, trivial⟩, unw_take 14 rfl rfl⟩
  ·refine one_e 5 rfl (e_cvRI (E := ERune) (s := z) M (fun _ => rfl) Tryz.underlying9 Tryz.underlying29 Tryz.underlying21 hz rfl) rfl rfl ?_
   rintro v31 w20 ⟨J31, hJ31, R31, M⟩
   obtain ⟨u31, rfl⟩ := rdSl_slice R31
   have hoJ31 := M.old
   have hS := (⟨(M.less hJ31 hoJ21), trivial⟩ : _ ∧ _)
   refine ⟨fun _ => hS, ?_⟩
   replace R31 : rdSl ERune J31 (sv u31) (runesL z) := R31
   refine wa_es [3, 7] (by kernel_rfl) (by decide) ⟨?_, ?_, trivial⟩
   ·refine one_e 3 rfl (e_cvRI (E := ERune) (s := x) M (fun _ => rfl) Tryz.underlying9 Tryz.underlying29 Tryz.underlying21 hx rfl) rfl rfl ?_
    rintro v29 w21 ⟨J29, hJ29, R29, M⟩
    obtain ⟨u29, rfl⟩ := rdSl_slice R29
    have hoJ29 := M.old
    have hS := (⟨(M.less (hle.trans hJ31 hJ29) hoJ21), trivial⟩ : _ ∧ _)
    refine ⟨fun _ => hS, ?_⟩
    replace R29 : rdSl ERune J29 (sv u29) (runesL x) := R29
    refine wa_e 7 rfl (by kernel_rfl) (e_callC M (leaving_c a m ha.st ha.le (fun x hx => (ha.arcs x hx).1) ha.alen M.imm ⟨fu1, au1, rfl, (((Rf1.mono hJ21).mono hJ31).mono hJ29), (((Ra1.mono hJ21).mono hJ31).mono hJ29)⟩) Tryz.func63 rfl rfl) rfl rfl ?_
    rintro v33 w22 ⟨J33, hJ33, R33, M⟩
    obtain ⟨u33, rfl⟩ := rdMat_slice R33
    have hoJ33 := M.old
    have hS := (⟨(M.less (hle.trans (hle.trans hJ31 hJ29) hJ33) hoJ21), trivial⟩ : _ ∧ _)
    refine ⟨fun _ => hS, ?_⟩
    refine wa_e 9 rfl (by kernel_rfl) (e_callC M (leaving_c b n hb.st hb.le (fun x hx => (hb.arcs x hx).1) hb.alen M.imm ⟨fu2, au2, rfl, ((((Rf2.mono hJ21).mono hJ31).mono hJ29).mono hJ33), ((((Ra2.mono hJ21).mono hJ31).mono hJ29).mono hJ33)⟩) Tryz.func63 rfl rfl) rfl rfl ?_
    rintro v35 w23 ⟨J35, hJ35, R35, M⟩
    obtain ⟨u35, rfl⟩ := rdMat_slice R35
    have hoJ35 := M.old
    have hS := (⟨(M.less (hle.trans (hle.trans (hle.trans hJ31 hJ29) hJ33) hJ35) hoJ21), trivial⟩ : _ ∧ _)
    refine ⟨fun _ => hS, ?_⟩
    refine wa_q 10 rfl (by kernel_rfl) (q_build (bd_131_0_1_2_3_4_5 _ _ _ _ _ _ _ _ _ _ _ _) ⟨⟨rfl, rfl⟩, ⟨rfl, rfl⟩, ⟨rfl, rfl⟩, ⟨rfl, rfl⟩, ⟨rfl, rfl⟩, ⟨rfl, rfl⟩, trivial⟩) hS rfl rfl ?_
    refine wa_e 11 rfl (by kernel_rfl) (e_box M rfl) rfl rfl ?_
    rintro _ w24 ⟨b37, rfl, M⟩
    have hS := (⟨((M.less (hle.trans (hle.trans (hle.trans hJ31 hJ29) hJ33) hJ35) hoJ21).drop 0), trivial⟩ : _ ∧ _)
    refine ⟨fun _ => hS, ?_⟩
    refine wa_q 12 rfl (by kernel_rfl) (q_assign rfl) hS rfl rfl ?_
    refine wa_q 13 rfl (by kernel_rfl) (q_assign rfl) hS rfl rfl ?_
    refine wa_done (by kernel_rfl) ?_
    exact ⟨(J35, b37, u29, u31, u33, u35), ⟨(hle.trans (hle.trans (hle.trans hJ31 hJ29) hJ33) hJ35), ((R29.mono hJ33).mono hJ35), (((R31.mono hJ29).mono hJ33).mono hJ35), (R33.mono hJ35), R35, M⟩, ⟨rfl, rfl, trivial⟩, unw_take 14 rfl rfl⟩
   ·refine one_e 7 rfl (e_callC M (leaving_c a m ha.st ha.le (fun x hx => (ha.arcs x hx).1) ha.alen M.imm ⟨fu1, au1, rfl, ((Rf1.mono hJ21).mono hJ31), ((Ra1.mono hJ21).mono hJ31)⟩) Tryz.func63 rfl rfl) rfl rfl ?_
    rintro v33 w25 ⟨J33, hJ33, R33, M⟩
    obtain ⟨u33, rfl⟩ := rdMat_slice R33
    have hoJ33 := M.old
    have hS := (⟨(M.less (hle.trans hJ31 hJ33) hoJ21), trivial⟩ : _ ∧ _)
    refine ⟨fun _ => hS, ?_⟩
    refine wa_es [3, 9] (by kernel_rfl) (by decide) ⟨?_, ?_, trivial⟩
    ·refine one_e 3 rfl (e_cvRI (E := ERune) (s := x) M (fun _ => rfl) Tryz.underlying9 Tryz.underlying29 Tryz.underlying21 hx rfl) rfl rfl ?_
     rintro v29 w26 ⟨J29, hJ29, R29, M⟩
     obtain ⟨u29, rfl⟩ := rdSl_slice R29
     have hoJ29 := M.old
     have hS := (⟨(M.less (hle.trans (hle.trans hJ31 hJ33) hJ29) hoJ21), trivial⟩ : _ ∧ _)
     refine ⟨fun _ => hS, ?_⟩
     replace R29 : rdSl ERune J29 (sv u29) (runesL x) := R29
     refine wa_e 9 rfl (by kernel_rfl) (e_callC M (leaving_c b n hb.st hb.le (fun x hx => (hb.arcs x hx).1) hb.alen M.imm ⟨fu2, au2, rfl, ((((Rf2.mono hJ21).mono hJ31).mono hJ33).mono hJ29), ((((Ra2.mono hJ21).mono hJ31).mono hJ33).mono hJ29)⟩) Tryz.func63 rfl rfl) rfl rfl ?_
     rintro v35 w27 ⟨J35, hJ35, R35, M⟩
     obtain ⟨u35, rfl⟩ := rdMat_slice R35
     have hoJ35 := M.old
     have hS := (⟨(M.less (hle.trans (hle.trans (hle.trans hJ31 hJ33) hJ29) hJ35) hoJ21), trivial⟩ : _ ∧ _)
     refine ⟨fun _ => hS, ?_⟩
     refine wa_q 10 rfl (by kernel_rfl) (q_build (bd_131_0_1_2_3_4_5 _ _ _ _ _ _ _ _ _ _ _ _) ⟨⟨rfl, rfl⟩, ⟨rfl, rfl⟩, ⟨rfl, rfl⟩, ⟨rfl, rfl⟩, ⟨rfl, rfl⟩, ⟨rfl, rfl⟩, trivial⟩) hS rfl rfl ?_
     refine wa_e 11 rfl (by kernel_rfl) (e_box M rfl) rfl rfl ?_
     rintro _ w28 ⟨b37, rfl, M⟩
     have hS := (⟨((M.less (hle.trans (hle.trans (hle.trans hJ31 hJ33) hJ29) hJ35) hoJ21).drop 0), trivial⟩ : _ ∧ _)
     refine ⟨fun _ => hS, ?_⟩
     refine wa_q 12 rfl (by kernel_rfl) (q_assign rfl) hS rfl rfl ?_
     refine wa_q 13 rfl (by kernel_rfl) (q_assign rfl) hS rfl rfl ?_
     refine wa_done (by kernel_rfl) ?_
     exact ⟨(J35, b37, u29, u31, u33, u35), ⟨(hle.trans (hle.trans (hle.trans hJ31 hJ33) hJ29) hJ35), (R29.mono hJ35), (((R31.mono hJ33).mono hJ29).mono hJ35), ((R33.mono hJ29).mono hJ35), R35, M⟩, ⟨rfl, rfl, trivial⟩, unw_take 14 rfl rfl⟩
    ·refine one_e 9 rfl (e_callC M (leaving_c b n hb.st hb.le (fun x hx => (hb.arcs x hx).1) hb.alen M.imm ⟨fu2, au2, rfl, (((Rf2.mono hJ21).mono hJ31).mono hJ33), (((Ra2.mono hJ21).mono hJ31).mono hJ33)⟩) Tryz.func63 rfl rfl) rfl rfl ?_
     rintro v35 w29 ⟨J35, hJ35, R35, M⟩
     obtain ⟨u35, rfl⟩ := rdMat_slice R35
     have hoJ35 := M.old
     have hS := (⟨(M.less (hle.trans (hle.trans hJ31 hJ33) hJ35) hoJ21), trivial⟩ : _ ∧ _)
     refine ⟨fun _ => hS, ?_⟩
     refine wa_e 3 rfl (by kernel_rfl) (e_cvRI (E := ERune) (s := x) M (fun _ => rfl) Tryz.underlying9 Tryz.underlying29 Tryz.underlying21 hx rfl) rfl rfl ?_
     rintro v29 w30 ⟨J29, hJ29, R29, M⟩
     obtain ⟨u29, rfl⟩ := rdSl_slice R29
     have hoJ29 := M.old
     have hS := (⟨(M.less (hle.trans (hle.trans (hle.trans hJ31 hJ33) hJ35) hJ29) hoJ21), trivial⟩ : _ ∧ _)
     refine ⟨fun _ => hS, ?_⟩
     replace R29 : rdSl ERune J29 (sv u29) (runesL x) := R29
     refine wa_q 10 rfl (by kernel_rfl) (q_build (bd_131_0_1_2_3_4_5 _ _ _ _ _ _ _ _ _ _ _ _) ⟨⟨rfl, rfl⟩, ⟨rfl, rfl⟩, ⟨rfl, rfl⟩, ⟨rfl, rfl⟩, ⟨rfl, rfl⟩, ⟨rfl, rfl⟩, trivial⟩) hS rfl rfl ?_
     refine wa_e 11 rfl (by kernel_rfl) (e_box M rfl) rfl rfl ?_
     rintro _ w31 ⟨b37, rfl, M⟩
     have hS := (⟨((M.less (hle.trans (hle.trans (hle.trans hJ31 hJ33) hJ35) hJ29) hoJ21).drop 0), trivial⟩ : _ ∧ _)
     refine ⟨fun _ => hS, ?_⟩
     refine wa_q 12 rfl (by kernel_rfl) (q_assign rfl) hS rfl rfl ?_
     refine wa_q 13 rfl (by kernel_rfl) (q_assign rfl) hS rfl rfl ?_
     refine wa_done (by kernel_rfl) ?_
     exact ⟨(J29, b37, u29, u31, u33, u35), ⟨(hle.trans (hle.trans (hle.trans hJ31 hJ33) hJ35) hJ29), R29, (((R31.mono hJ33).mono hJ35).mono hJ29), ((R33.mono hJ35).mono hJ29), (R35.mono hJ29), M⟩, ⟨rfl, rfl, trivial⟩, unw_take 14 rfl rfl⟩
  ·refine one_e 7 rfl (e_callC M (leaving_c a m ha.st ha.le (fun x hx => (ha.arcs x hx).1) ha.alen M.imm ⟨fu1, au1, rfl, (Rf1.mono hJ21), (Ra1.mono hJ21)⟩) Tryz.func63 rfl rfl) rfl rfl ?_
   rintro v33 w32 ⟨J33, hJ33, R33, M⟩
   obtain ⟨u33, rfl⟩ := rdMat_slice R33
   have hoJ33 := M.old
   have hS := (⟨(M.less hJ33 hoJ21), trivial⟩ : _ ∧ _)
   refine ⟨fun _ => hS, ?_⟩
   refine wa_es [3, 5, 9] (by kernel_rfl) (by decide) ⟨?_, ?_, ?_, trivial⟩
   ·refine one_e 3 rfl (e_cvRI (E := ERune) (s := x) M (fun _ => rfl) Tryz.underlying9 Tryz.underlying29 Tryz.underlying21 hx rfl) rfl rfl ?_
    rintro v29 w33 ⟨J29, hJ29, R29, M⟩
    obtain ⟨u29, rfl⟩ := rdSl_slice R29
    have hoJ29 := M.old
    have hS := (⟨(M.less (hle.trans hJ33 hJ29) hoJ21), trivial⟩ : _ ∧ _)
    refine ⟨fun _ => hS, ?_⟩
    replace R29 : rdSl ERune J29 (sv u29) (runesL x) := R29
    refine wa_es [5, 9] (by kernel_rfl) (by decide) ⟨?_, ?_, trivial⟩
    ·refine one_e 5 rfl (e_cvRI (E := ERune) (s := z) M (fun _ => rfl) Tryz.underlying9 Tryz.underlying29 Tryz.underlying21 hz rfl) rfl rfl ?_
     rintro v31 w34 ⟨J31, hJ31, R31, M⟩
     obtain ⟨u31, rfl⟩ := rdSl_slice R31
     have hoJ31 := M.old
     have hS := (⟨(M.less (hle.trans (hle.trans hJ33 hJ29) hJ31) hoJ21), trivial⟩ : _ ∧ _)
     refine ⟨fun _ => hS, ?_⟩
     replace R31 : rdSl ERune J31 (sv u31) (runesL z) := R31
     refine wa_e 9 rfl (by kernel_rfl) (e_callC M (leaving_c b n hb.st hb.le (fun x hx => (hb.arcs x hx).1) hb.alen M.imm ⟨fu2, au2, rfl, ((((Rf2.mono hJ21).mono hJ33).mono hJ29).mono hJ31), ((((Ra2.mono hJ21).mono hJ33).mono hJ29).mono hJ31)⟩) Tryz.func63 rfl rfl) rfl rfl ?_
     rintro v35 w35 ⟨J35, hJ35, R35, M⟩
     obtain ⟨u35, rfl⟩ := rdMat_slice R35
     have hoJ35 := M.old
     have hS := (⟨(M.less (hle.trans (hle.trans (hle.trans hJ33 hJ29) hJ31) hJ35) hoJ21), trivial⟩ : _ ∧ _)
     refine ⟨fun _ => hS, ?_⟩
     refine wa_q 10 rfl (by kernel_rfl) (q_build (bd_131_0_1_2_3_4_5 _ _ _ _ _ _ _ _ _ _ _ _) ⟨⟨rfl, rfl⟩, ⟨rfl, rfl⟩, ⟨rfl, rfl⟩, ⟨rfl, rfl⟩, ⟨rfl, rfl⟩, ⟨rfl, rfl⟩, trivial⟩) hS rfl rfl ?_
     refine wa_e 11 rfl (by kernel_rfl) (e_box M rfl) rfl rfl ?_
     rintro _ w36 ⟨b37, rfl, M⟩
     have hS := (⟨((M.less (hle.trans (hle.trans (hle.trans hJ33 hJ29) hJ31) hJ35) hoJ21).drop 0), trivial⟩ : _ ∧ _)
     refine ⟨fun _ => hS, ?_⟩
     refine wa_q 12 rfl (by kernel_rfl) (q_assign rfl) hS rfl rfl ?_
     refine wa_q 13 rfl (by kernel_rfl) (q_assign rfl) hS rfl rfl ?_
     refine wa_done (by kernel_rfl) ?_
     exact ⟨(J35, b37, u29, u31, u33, u35), ⟨(hle.trans (hle.trans (hle.trans hJ33 hJ29) hJ31) hJ35), ((R29.mono hJ31).mono hJ35), (R31.mono hJ35), (((R33.mono hJ29).mono hJ31).mono hJ35), R35, M⟩, ⟨rfl, rfl, trivial⟩, unw_take 14 rfl rfl⟩
    ·refine one_e 9 rfl (e_callC M (leaving_c b n hb.st hb.le (fun x hx => (hb.arcs x hx).1) hb.alen M.imm ⟨fu2, au2, rfl, (((Rf2.mono hJ21).mono hJ33).mono hJ29), (((Ra2.mono hJ21).mono hJ33).mono hJ29)⟩) Tryz.func63 rfl rfl) rfl rfl ?_
     rintro v35 w37 ⟨J35, hJ35, R35, M⟩
     obtain ⟨u35, rfl⟩ := rdMat_slice R35
     have hoJ35 := M.old
     have hS := (⟨(M.less (hle.trans (hle.trans hJ33 hJ29) hJ35) hoJ21), trivial⟩ : _ ∧ _)
     refine ⟨fun _ => hS, ?_⟩
     refine wa_e 5 rfl (by kernel_rfl) (e_cvRI (E := ERune) (s := z) M (fun _ => rfl) Tryz.underlying9 Tryz.underlying29 Tryz.underlying21 hz rfl) rfl rfl ?_
     rintro v31 w38 ⟨J31, hJ31, R31, M⟩
     obtain ⟨u31, rfl⟩ := rdSl_slice R31
     have hoJ31 := M.old
     have hS := (⟨(M.less (hle.trans (hle.trans (hle.trans hJ33 hJ29) hJ35) hJ31) hoJ21), trivial⟩ : _ ∧ _)
     refine ⟨fun _ => hS, ?_⟩
     replace R31 : rdSl ERune J31 (sv u31) (runesL z) := R31
     refine wa_q 10 rfl (by kernel_rfl) (q_build (bd_131_0_1_2_3_4_5 _ _ _ _ _ _ _ _ _ _ _ _) ⟨⟨rfl, rfl⟩, ⟨rfl, rfl⟩, ⟨rfl, rfl⟩, ⟨rfl, rfl⟩, ⟨rfl, rfl⟩, ⟨rfl, rfl⟩, trivial⟩) hS rfl rfl ?_
     refine wa_e 11 rfl (by kernel_rfl) (e_box M rfl) rfl rfl ?_
     rintro _ w39 ⟨b37, rfl, M⟩
     have hS := (⟨((M.less (hle.trans (hle.trans (hle.trans hJ33 hJ29) hJ35) hJ31) hoJ21).drop 0), trivial⟩ : _ ∧ _)
     refine ⟨fun _ => hS, ?_⟩
     refine wa_q 12 rfl (by kernel_rfl) (q_assign rfl) hS rfl rfl ?_
     refine wa_q 13 rfl (by kernel_rfl) (q_assign rfl) hS rfl rfl ?_
     refine wa_done (by kernel_rfl) ?_
     exact ⟨(J31, b37, u29, u31, u33, u35), ⟨(hle.trans (hle.trans (hle.trans hJ33 hJ29) hJ35) hJ31), ((R29.mono hJ35).mono hJ31), R31, (((R33.mono hJ29).mono hJ35).mono hJ31), (R35.mono hJ31), M⟩, ⟨rfl, rfl, trivial⟩, unw_take 14 rfl rfl⟩
   ·refine one_e 5 rfl (e_cvRI (E := ERune) (s := z) M (fun _ => rfl) Tryz.underlying9 Tryz.underlying29 Tryz.underlying21 hz rfl) rfl rfl ?_
    rintro v31 w40 ⟨J31, hJ31, R31, M⟩
    obtain ⟨u31, rfl⟩ := rdSl_slice R31
    have hoJ31 := M.old
    have hS := (⟨(M.less (hle.trans hJ33 hJ31) hoJ21), trivial⟩ : _ ∧ _)
    refine ⟨fun _ => hS, ?_⟩
    replace R31 : rdSl ERune J31 (sv u31) (runesL z) := R31
    refine wa_es [3, 9] (by kernel_rfl) (by decide) ⟨?_, ?_, trivial⟩
    ·refine one_e 3 rfl (e_cvRI (E := ERune) (s := x) M (fun _ => rfl) Tryz.underlying9 Tryz.underlying29 Tryz.underlying21 hx rfl) rfl rfl ?_
     rintro v29 w41 ⟨J29, hJ29, R29, M⟩
     obtain ⟨u29, rfl⟩ := rdSl_slice R29
     have hoJ29 := M.old
     have hS := (⟨(M.less (hle.trans (hle.trans hJ33 hJ31) hJ29) hoJ21), trivial⟩ : _ ∧ _)
     refine ⟨fun _ => hS, ?_⟩
     replace R29 : rdSl ERune J29 (sv u29) (runesL x) := R29
     refine wa_e 9 rfl (by kernel_rfl) (e_callC M (leaving_c b n hb.st hb.le (fun x hx => (hb.arcs x hx).1) hb.alen M.imm ⟨fu2, au2, rfl, ((((Rf2.mono hJ21).mono hJ33).mono hJ31).mono hJ29), ((((Ra2.mono hJ21).mono hJ33).mono hJ31).mono hJ29)⟩) Tryz.func63 rfl rfl) rfl rfl ?_
     rintro v35 w42 ⟨J35, hJ35, R35, M⟩
     obtain ⟨u35, rfl⟩ := rdMat_slice R35
     have hoJ35 := M.old
     have hS := (⟨(M.less (hle.trans (hle.trans (hle.trans hJ33 hJ31) hJ29) hJ35) hoJ21), trivial⟩ : _ ∧ _)
     refine ⟨fun _ => hS, ?_⟩
     refine wa_q 10 rfl (by kernel_rfl) (q_build (bd_131_0_1_2_3_4_5 _ _ _ _ _ _ _ _ _ _ _ _) ⟨⟨rfl, rfl⟩, ⟨rfl, rfl⟩, ⟨rfl, rfl⟩, ⟨rfl, rfl⟩, ⟨rfl, rfl⟩, ⟨rfl, rfl⟩, trivial⟩) hS rfl rfl ?_
     refine wa_e 11 rfl (by kernel_rfl) (e_box M rfl) rfl rfl ?_
     rintro _ w43 ⟨b37, rfl, M⟩
     have hS := (⟨((M.less (hle.trans (hle.trans (hle.trans hJ33 hJ31) hJ29) hJ35) hoJ21).drop 0), trivial⟩ : _ ∧ _)
     refine ⟨fun _ => hS, ?_⟩
     refine wa_q 12 rfl (by kernel_rfl) (q_assign rfl) hS rfl rfl ?_
     refine wa_q 13 rfl (by kernel_rfl) (q_assign rfl) hS rfl rfl ?_
     refine wa_done (by kernel_rfl) ?_
     exact ⟨(J35, b37, u29, u31, u33, u35), ⟨(hle.trans (hle.trans (hle.trans hJ33 hJ31) hJ29) hJ35), (R29.mono hJ35), ((R31.mono hJ29).mono hJ35), (((R33.mono hJ31).mono hJ29).mono hJ35), R35, M⟩, ⟨rfl, rfl, trivial⟩, unw_take 14 rfl rfl⟩
    ·refine one_e 9 rfl (e_callC M (leaving_c b n hb.st hb.le (fun x hx => (hb.arcs x hx).1) hb.alen M.imm ⟨fu2, au2, rfl, (((Rf2.mono hJ21).mono hJ33).mono hJ31), (((Ra2.mono hJ21).mono hJ33).mono hJ31)⟩) Tryz.func63 rfl rfl) rfl rfl ?_
     rintro v35 w44 ⟨J35, hJ35, R35, M⟩
     obtain ⟨u35, rfl⟩ := rdMat_slice R35
     have hoJ35 := M.old
     have hS := (⟨(M.less (hle.trans (hle.trans hJ33 hJ31) hJ35) hoJ21), trivial⟩ : _ ∧ _)
     refine ⟨fun _ => hS, ?_⟩
     refine wa_e 3 rfl (by kernel_rfl) (e_cvRI (E := ERune) (s := x) M (fun _ => rfl) Tryz.underlying9 Tryz.underlying29 Tryz.underlying21 hx rfl) rfl rfl ?_
     rintro v29 w45 ⟨J29, hJ29, R29, M⟩
     obtain ⟨u29, rfl⟩ := rdSl_slice R29
     have hoJ29 := M.old
     have hS := (⟨(M.less (hle.trans (hle.trans (hle.trans hJ33 hJ31) hJ35) hJ29) hoJ21), trivial⟩ : _ ∧ _)
     refine ⟨fun _ => hS, ?_⟩
     replace R29 : rdSl ERune J29 (sv u29) (runesL x) := R29
     refine wa_q 10 rfl (by kernel_rfl) (q_build (bd_131_0_1_2_3_4_5 _ _ _ _ _ _ _ _ _ _ _ _) ⟨⟨rfl, rfl⟩, ⟨rfl, rfl⟩, ⟨rfl, rfl⟩, ⟨rfl, rfl⟩, ⟨rfl, rfl⟩, ⟨rfl, rfl⟩, trivial⟩) hS rfl rfl ?_
     refine wa_e 11 rfl (by kernel_rfl) (e_box M rfl) rfl rfl ?_
     rintro _ w46 ⟨b37, rfl, M⟩
     have hS := (⟨((M.less (hle.trans (hle.trans (hle.trans hJ33 hJ31) hJ35) hJ29) hoJ21).drop 0), trivial⟩ : _ ∧ _)
     refine ⟨fun _ => hS, ?_⟩
     refine wa_q 12 rfl (by kernel_rfl) (q_assign rfl) hS rfl rfl ?_
     refine wa_q 13 rfl (by kernel_rfl) (q_assign rfl) hS rfl rfl ?_
     refine wa_done (by kernel_rfl) ?_
     exact ⟨(J29, b37, u29, u31, u33, u35), ⟨(hle.trans (hle.trans (hle.trans hJ33 hJ31) hJ35) hJ29), R29, ((R31.mono hJ35).mono hJ29), (((R33.mono hJ31).mono hJ35).mono hJ29), (R35.mono hJ29), M⟩, ⟨rfl, rfl, trivial⟩, unw_take 14 rfl rfl⟩
   ·refine one_e 9 rfl (e_callC M (leaving_c b n hb.st hb.le (fun x hx => (hb.arcs x hx).1) hb.alen M.imm ⟨fu2, au2, rfl, ((Rf2.mono hJ21).mono hJ33), ((Ra2.mono hJ21).mono hJ33)⟩) Tryz.func63 rfl rfl) rfl rfl ?_
    rintro v35 w47 ⟨J35, hJ35, R35, M⟩
    obtain ⟨u35, rfl⟩ := rdMat_slice R35
    have hoJ35 := M.old
    have hS := (⟨(M.less (hle.trans hJ33 hJ35) hoJ21), trivial⟩ : _ ∧ _)
    refine ⟨fun _ => hS, ?_⟩
    refine wa_es [3, 5] (by kernel_rfl) (by decide) ⟨?_, ?_, trivial⟩
    ·refine one_e 3 rfl (e_cvRI (E := ERune) (s := x) M (fun _ => rfl) Tryz.underlying9 Tryz.underlying29 Tryz.underlying21 hx rfl) rfl rfl ?_
     rintro v29 w48 ⟨J29, hJ29, R29, M⟩
     obtain ⟨u29, rfl⟩ := rdSl_slice R29
     have hoJ29 := M.old
     have hS := (⟨(M.less (hle.trans (hle.trans hJ33 hJ35) hJ29) hoJ21), trivial⟩ : _ ∧ _)
     refine ⟨fun _ => hS, ?_⟩
     replace R29 : rdSl ERune J29 (sv u29) (runesL x) := R29
     refine wa_e 5 rfl (by kernel_rfl) (e_cvRI (E := ERune) (s := z) M (fun _ => rfl) Tryz.underlying9 Tryz.underlying29 Tryz.underlying21 hz rfl) rfl rfl ?_
     rintro v31 w49 ⟨J31, hJ31, R31, M⟩
     obtain ⟨u31, rfl⟩ := rdSl_slice R31
     have hoJ31 := M.old
     have hS := (⟨(M.less (hle.trans (hle.trans (hle.trans hJ33 hJ35) hJ29) hJ31) hoJ21), trivial⟩ : _ ∧ _)
     refine ⟨fun _ => hS, ?_⟩
     replace R31 : rdSl ERune J31 (sv u31) (runesL z) := R31
     refine wa_q 10 rfl (by kernel_rfl) (q_build (bd_131_0_1_2_3_4_5 _ _ _ _ _ _ _ _ _ _ _ _) ⟨⟨rfl, rfl⟩, ⟨rfl, rfl⟩, ⟨rfl, rfl⟩, ⟨rfl, rfl⟩, ⟨rfl, rfl⟩, ⟨rfl, rfl⟩, trivial⟩) hS rfl rfl ?_
     refine wa_e 11 rfl (by kernel_rfl) (e_box M rfl) rfl rfl ?_
     rintro _ w50 ⟨b37, rfl, M⟩
     have hS := (⟨((M.less (hle.trans (hle.trans (hle.trans hJ33 hJ35) hJ29) hJ31) hoJ21).drop 0), trivial⟩ : _ ∧ _)
     refine ⟨fun _ => hS, ?_⟩
     refine wa_q 12 rfl (by kernel_rfl) (q_assign rfl) hS rfl rfl ?_
     refine wa_q 13 rfl (by kernel_rfl) (q_assign rfl) hS rfl rfl ?_
     refine wa_done (by kernel_rfl) ?_
     exact ⟨(J31, b37, u29, u31, u33, u35), ⟨(hle.trans (hle.trans (hle.trans hJ33 hJ35) hJ29) hJ31), (R29.mono hJ31), R31, (((R33.mono hJ35).mono hJ29).mono hJ31), ((R35.mono hJ29).mono hJ31), M⟩, ⟨rfl, rfl, trivial⟩, unw_take 14 rfl rfl⟩
    ·refine one_e 5 rfl (e_cvRI (E := ERune) (s := z) M (fun _ => rfl) Tryz.underlying9 Tryz.underlying29 Tryz.underlying21 hz rfl) rfl rfl ?_
     rintro v31 w51 ⟨J31, hJ31, R31, M⟩
     obtain ⟨u31, rfl⟩ := rdSl_slice R31
     have hoJ31 := M.old
     have hS := (⟨(M.less (hle.trans (hle.trans hJ33 hJ35) hJ31) hoJ21), trivial⟩ : _ ∧ _)
     refine ⟨fun _ => hS, ?_⟩
     replace R31 : rdSl ERune J31 (sv u31) (runesL z) := R31
     refine wa_e 3 rfl (by kernel_rfl) (e_cvRI (E := ERune) (s := x) M (fun _ => rfl) Tryz.underlying9 Tryz.underlying29 Tryz.underlying21 hx rfl) rfl rfl ?_
     rintro v29 w52 ⟨J29, hJ29, R29, M⟩
     obtain ⟨u29, rfl⟩ := rdSl_slice R29
     have hoJ29 := M.old
     have hS := (⟨(M.less (hle.trans (hle.trans (hle.trans hJ33 hJ35) hJ31) hJ29) hoJ21), trivial⟩ : _ ∧ _)
     refine ⟨fun _ => hS, ?_⟩
     replace R29 : rdSl ERune J29 (sv u29) (runesL x) := R29
     refine wa_q 10 rfl (by kernel_rfl) (q_build (bd_131_0_1_2_3_4_5 _ _ _ _ _ _ _ _ _ _ _ _) ⟨⟨rfl, rfl⟩, ⟨rfl, rfl⟩, ⟨rfl, rfl⟩, ⟨rfl, rfl⟩, ⟨rfl, rfl⟩, ⟨rfl, rfl⟩, trivial⟩) hS rfl rfl ?_
     refine wa_e 11 rfl (by kernel_rfl) (e_box M rfl) rfl rfl ?_
     rintro _ w53 ⟨b37, rfl, M⟩
     have hS := (⟨((M.less (hle.trans (hle.trans (hle.trans hJ33 hJ35) hJ31) hJ29) hoJ21).drop 0), trivial⟩ : _ ∧ _)
     refine ⟨fun _ => hS, ?_⟩
     refine wa_q 12 rfl (by kernel_rfl) (q_assign rfl) hS rfl rfl ?_
     refine wa_q 13 rfl (by kernel_rfl) (q_assign rfl) hS rfl rfl ?_
     refine wa_done (by kernel_rfl) ?_
     exact ⟨(J29, b37, u29, u31, u33, u35), ⟨(hle.trans (hle.trans (hle.trans hJ33 hJ35) hJ31) hJ29), R29, (R31.mono hJ29), (((R33.mono hJ35).mono hJ31).mono hJ29), ((R35.mono hJ31).mono hJ29), M⟩, ⟨rfl, rfl, trivial⟩, unw_take 14 rfl rfl⟩
 rintro ⟨I6, b37, u29, u31, u33, u35⟩ jr6 w54 ⟨hI6, R29, R31, R33, R35, M⟩
 have hoI6 := M.old
 refine wc_ret ?_
 obtain ⟨I8, M, hI8, Hs⟩ := M.frzBox 0 rfl
 have hoI8 := M.old
 refine out2 rfl rfl rfl ⟨_, I8, rfl, M.grow, _, by rw [hbe, h0], fun _ => ⟨m, n, b37, ha, hb, rfl, fu1, au1, fu2, au2, u29, u31, u33, u35, Hs, (((Rf1.mono hJ21).mono hI6).mono hI8), (((Rf2.mono hJ21).mono hI6).mono hI8), (R29.mono hI8), (R31.mono hI8), (R33.mono hI8), (R35.mono hI8)⟩⟩
end Go.Proofs.YtmjieefhjmiagaaGreatDoor.G
