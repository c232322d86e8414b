/- Walks of the program's functions. -/
import Derived.Test.YtfepjcmjkaolgaaGTr3
import Derived.Test.YtfepjcmjkaolgaaWRe
set_option linter.all false
namespace Go.Proofs.Ytfepjcmjkaolgaa.G
open Go Go.RowKit
theorem final3_c (t : Tra) (x : Int) {v1 : Value} {I : Heap} {w : World} (hI : hle I (hp w)) (R1 : t.rd I v1) : Calls A 28 #[v1, .int .i64 x] w (Ret w I fun r _ => r = .bool (decide (x ∈ t.finals))) := by
 obtain ⟨fu1, au1, rfl, Rf1, Ra1⟩ := R1
 have hlf := Rf1.len_le
 have M := Mem.start hI
 refine enter Try.func28 rfl 20 Try.ntmps28 [_, _] rfl ?_
 refine wc_seq ?_
 refine wc_region ?_
 refine wl_e (e_box M rfl) rfl rfl ?_
 rintro _ w1 ⟨b2, rfl, M⟩
 refine wl_as M rfl rfl ?_
 refine wl_nil ?_
 refine wc_seq ?_
 refine wc_seq ?_
 refine wc_region ?_
 refine wl_as M rfl rfl ?_
 refine wl_nil ?_
 refine wc_block ?_
 refine wc_loop (α := Nat) [4, 5, 6, 7, 8, 9, 10, 11, 12, 13, 14, 15, 16, 17, 18, 19] (fun (k0 : Nat) => [(5, .int .i64 (k0 : Int))])
   (fun (k0 : Nat) w' => (k0 ≤ t.finals.length) ∧ (x ∉ t.finals.take k0) ∧ Mem w I I (box b2 25 [.int .i64 t.states, .int .i64 t.start, sv fu1, sv au1] :: []) w')
   (fun (k0 : Nat) => t.finals.length - k0) (0) ⟨rfl, trivial⟩ ?_ ?_
 ·refine ⟨Nat.zero_le _, (by simp), ?_⟩
  exact M
 rintro k0 jj0 w2 ⟨hk0, hno, M⟩
 refine wc_seq ?_
 refine wc_seq ?_
 refine wc_region ?_
 refine wl_mv M rfl rfl ?_
 refine wl_m M (q_fa fo_25_2 rfl) rfl rfl ?_
 refine wl_m M (q_ldb 0 Try.underlying22 rfl rfl rfl rfl) rfl rfl ?_
 refine wl_m M (q_lenR Rf1 Try.underlying22 rfl) rfl rfl ?_
 refine wl_m M (q_lss rfl rfl) rfl rfl ?_
 refine wl_nil ?_
 refine wc_dec rfl (fun ht10 => ?_) (fun ht10 => ?_)
 ·obtain ⟨x0, hx0⟩ : ∃ x_, t.finals[k0]? = some x_ := ⟨_, List.getElem?_eq_getElem (by omega)⟩
  refine wc_skip ?_
  refine wc_seq ?_
  refine wc_block ?_
  refine wc_seq ?_
  refine wc_region ?_
  refine wl_m M (q_fa fo_25_2 rfl) rfl rfl ?_
  refine wl_m M (q_ldb 0 Try.underlying22 rfl rfl rfl rfl) rfl rfl ?_
  refine wl_mv M rfl rfl ?_
  refine wl_ix (j := k0) M Rf1 Try.underlying22 rfl rfl hx0 rfl (fun b16 o16 p16 => ?_)
  refine wl_m M (q_ldp p16 rfl rfl) rfl rfl ?_
  refine wl_mv M rfl rfl ?_
  refine wl_m M (q_eql rfl rfl) rfl rfl ?_
  refine wl_nil ?_
  refine wc_dec rfl (fun ht19 => ?_) (fun ht19 => ?_)
  ·refine wc_seq ?_
   refine wc_region ?_
   refine wl_as M rfl rfl ?_
   refine wl_nil ?_
   refine wc_ret ?_
   exact out1 rfl rfl ⟨_, _, rfl, M.grow, by rw [decide_eq_true (List.mem_of_getElem? (ht19 ▸ hx0))]⟩
  refine wc_skip ?_
  refine wc_region ?_
  refine wl_mv M rfl rfl ?_
  refine wl_m M (q_add rfl rfl (IntWalk.i64_in _ (by omega))) rfl rfl ?_
  refine wl_as M rfl rfl ?_
  refine wl_nil ?_
  refine ⟨(k0 + 1), ?_, ⟨(by omega), (by rw [take_snoc hx0, List.mem_append, List.mem_singleton]; exact fun h => h.elim hno fun e => ht19 e.symm), M⟩, ⟨rfl, trivial⟩, unw_look rfl unw_base⟩
  show t.finals.length - (k0 + 1) < t.finals.length - k0
  omega
 have hke0 : k0 = t.finals.length := by omega
 rw [hke0, List.take_length] at hno
 refine wc_exit rfl ?_
 refine wc_seq ?_
 refine wc_region ?_
 refine wl_as M rfl rfl ?_
 refine wl_nil ?_
 refine wc_ret ?_
 exact out1 rfl rfl ⟨_, _, rfl, M.grow, by rw [decide_eq_false hno]⟩
set_option maxRecDepth 4000 in
set_option maxHeartbeats 1000000 in
theorem kept3_c {t : Tra} {m : Nat} (ha : t.Ok m) (hf : ∀ f ∈ t.finals, 0 ≤ f ∧ f < m) {v1 : Value} {I : Heap} {w : World} (hI : hle I (hp w)) (R1 : t.rd I v1) : Calls A 56 #[v1] w (Ret w I fun r I' => ∃ kl : List Bool, rdSl EBool I' r kl ∧ kl.length = m ∧ ∀ i, i < m → kl.getD i false = kpS t i) := by
 obtain ⟨fu1, au1, rfl, Rf1, Ra1⟩ := R1
 have hla := Ra1.len_le
 have hlf := Rf1.len_le
 have hst := ha.st
 have hmle := ha.le
 have M := Mem.start hI
 refine enter Try.func56 rfl 59 Try.ntmps56 [_] rfl ?_
 refine wc_seq ?_
 refine wc_region ?_
 refine wl_e (e_box M rfl) rfl rfl ?_
 rintro _ w1 ⟨b1, rfl, M⟩
 refine wl_as M rfl rfl ?_
 refine wl_nil ?_
 refine wc_seq ?_
 refine wc_join (α := Heap × SV × SV) [3, 4, 9, 10, 11, 12, 13, 14] (fun ((I5, u11, u14) : Heap × SV × SV) => [(3, sv u11), (4, sv u14)]) (fun ((I5, u11, u14) : Heap × SV × SV) w' => hle I I5 ∧ Mem w I I5 (row EBool (sv u11) (List.replicate m false) :: row EBool (sv u14) (List.replicate m false) :: box b1 25 [.int .i64 t.states, .int .i64 t.start, sv fu1, sv au1] :: []) w') ?_ ?_
 ·refine wc_draws (fun w' => Mem w I I (box b1 25 [.int .i64 t.states, .int .i64 t.start, sv fu1, sv au1] :: []) w' ∧ True) [] fol ?_
  replace M := M.drew
  have hS := (⟨M, trivial⟩ : _ ∧ _)
  refine wa_q 0 rfl (by kernel_rfl) (q_fa fo_25_0 rfl) hS rfl rfl ?_
  refine wa_q 1 rfl (by kernel_rfl) ((q_ldb 0 Try.underlying3 rfl rfl rfl rfl).mono fun _ h => h.1) hS rfl rfl ?_
  refine wa_q 3 rfl (by kernel_rfl) (q_fa fo_25_0 rfl) hS rfl rfl ?_
  refine wa_q 4 rfl (by kernel_rfl) ((q_ldb 0 Try.underlying3 rfl rfl rfl rfl).mono fun _ h => h.1) hS rfl rfl ?_
  refine wa_es [2, 5] (by kernel_rfl) (by decide) ⟨?_, ?_, trivial⟩
  ·refine one_e 2 rfl (e_make (E := EBool) (zv := false) (m := m) M Try.underlying89 z4 (by rw [hst]; rfl) (by rw [hst]; rfl) (by show _ * 1 ≤ _; omega)) rfl rfl ?_
   rintro _ w2 ⟨u11, rfl, M⟩
   have hS := (⟨(M.drop 0), trivial⟩ : _ ∧ _)
   refine ⟨fun _ => hS, ?_⟩
   refine wa_q 6 rfl (by kernel_rfl) (q_assign rfl) hS rfl rfl ?_
   refine wa_e 5 rfl (by kernel_rfl) (e_make (E := EBool) (zv := false) (m := m) M Try.underlying89 z4 (by rw [hst]; rfl) (by rw [hst]; rfl) (by show _ * 1 ≤ _; omega)) rfl rfl ?_
   rintro _ w3 ⟨u14, rfl, M⟩
   have hS := (⟨((M.drop 0).drop 0), trivial⟩ : _ ∧ _)
   refine ⟨fun _ => hS, ?_⟩
   refine wa_q 7 rfl (by kernel_rfl) (q_assign rfl) hS rfl rfl ?_
   refine wa_done (by kernel_rfl) ?_
   replace M := M.perm (List.Perm.swap _ _ _)
   exact ⟨(I, u11, u14), ⟨hle.refl _, M⟩, ⟨rfl, rfl, trivial⟩, unw_take 8 rfl rfl⟩
  ·refine one_e 5 rfl (e_make (E := EBool) (zv := false) (m := m) M Try.underlying89 z4 (by rw [hst]; rfl) (by rw [hst]; rfl) (by show _ * 1 ≤ _; omega)) rfl rfl ?_
   rintro _ w4 ⟨u14, rfl, M⟩
   have hS := (⟨(M.drop 0), trivial⟩ : _ ∧ _)
   refine ⟨fun _ => hS, ?_⟩
   refine wa_e 2 rfl (by kernel_rfl) (e_make (E := EBool) (zv := false) (m := m) M Try.underlying89 z4 (by rw [hst]; rfl) (by rw [hst]; rfl) (by show _ * 1 ≤ _; omega)) rfl rfl ?_
   rintro _ w5 ⟨u11, rfl, M⟩
   have hS := (⟨((M.drop 0).drop 0), trivial⟩ : _ ∧ _)
   refine ⟨fun _ => hS, ?_⟩
   refine wa_q 6 rfl (by kernel_rfl) (q_assign rfl) hS rfl rfl ?_
   refine wa_q 7 rfl (by kernel_rfl) (q_assign rfl) hS rfl rfl ?_
   refine wa_done (by kernel_rfl) ?_
   exact ⟨(I, u11, u14), ⟨hle.refl _, M⟩, ⟨rfl, rfl, trivial⟩, unw_take 8 rfl rfl⟩
 rintro ⟨I5, u11, u14⟩ jr1 w6 ⟨hI5, M⟩
 have hoI5 := M.old
 refine wc_seq ?_
 refine wc_region ?_
 refine wl_mv M rfl rfl ?_
 refine wl_m M (q_fa fo_25_1 rfl) rfl rfl ?_
 refine wl_m M (q_ldb 2 Try.underlying3 rfl rfl rfl rfl) rfl rfl ?_
 refine wl_ixw (j := t.start.toNat) 0 M rfl Try.underlying89 rfl (ixe (by have := ha.start; omega)) (by have := ha.start; rw [List.length_replicate]; omega) rfl (fun b18 o18 p18 => ?_)
 refine wl_e0 (e_str (u := true) 0 M rfl rfl rfl p18 (by have := ha.start; rw [List.length_replicate]; omega) rfl) rfl ?_
 intro _ w7 M
 try simp only [sC0, sCS] at M
 refine wl_nil ?_
 refine wc_seq ?_
 refine wc_seq ?_
 refine wc_region ?_
 refine wl_as M rfl rfl ?_
 refine wl_nil ?_
 refine wc_block ?_
 refine wc_loop (α := Nat × (List Bool)) [5, 19, 20, 21, 22, 23, 24, 25, 26, 27, 28, 29, 30, 31, 32] (fun ((k0, l_14_0) : Nat × (List Bool)) => [(5, .int .i64 (k0 : Int))])
   (fun ((k0, l_14_0) : Nat × (List Bool)) w' => (k0 ≤ t.finals.length) ∧ (l_14_0.length = m ∧ ∀ s, bt l_14_0 s ↔ s ∈ t.finals.take k0) ∧ Mem w I I5 (row EBool (sv u11) ((List.replicate m false).set t.start.toNat true) :: row EBool (sv u14) l_14_0 :: box b1 25 [.int .i64 t.states, .int .i64 t.start, sv fu1, sv au1] :: []) w')
   (fun ((k0, l_14_0) : Nat × (List Bool)) => t.finals.length - k0) (0, List.replicate m false) ⟨rfl, trivial⟩ ?_ ?_
 ·refine ⟨Nat.zero_le _, ⟨by simp, fun s => by simp [bt_rep]⟩, ?_⟩
  exact M
 rintro ⟨k0, l_14_0⟩ jj0 w8 ⟨hk0, he, M⟩
 have hoI5 := M.old
 refine wc_seq ?_
 refine wc_seq ?_
 refine wc_region ?_
 refine wl_mv M rfl rfl ?_
 refine wl_m M (q_fa fo_25_2 rfl) rfl rfl ?_
 refine wl_m M (q_ldb 2 Try.underlying22 rfl rfl rfl rfl) rfl rfl ?_
 refine wl_m M (q_lenR (Rf1.mono hI5) Try.underlying22 rfl) rfl rfl ?_
 refine wl_m M (q_lss rfl rfl) rfl rfl ?_
 refine wl_nil ?_
 refine wc_dec rfl (fun ht23 => ?_) (fun ht23 => ?_)
 ·obtain ⟨x0, hx0⟩ : ∃ x_, t.finals[k0]? = some x_ := ⟨_, List.getElem?_eq_getElem (by omega)⟩
  have hx0r := hf x0 (List.mem_of_getElem? hx0)
  refine wc_skip ?_
  refine wc_seq ?_
  refine wc_block ?_
  refine wc_region ?_
  refine wl_mv M rfl rfl ?_
  refine wl_m M (q_fa fo_25_2 rfl) rfl rfl ?_
  refine wl_m M (q_ldb 2 Try.underlying22 rfl rfl rfl rfl) rfl rfl ?_
  refine wl_mv M rfl rfl ?_
  refine wl_ix (j := k0) M (Rf1.mono hI5) Try.underlying22 rfl rfl hx0 rfl (fun b30 o30 p30 => ?_)
  refine wl_m M (q_ldp p30 rfl rfl) rfl rfl ?_
  refine wl_ixw (j := x0.toNat) 1 M rfl Try.underlying89 rfl (ixe (by omega)) (by rw [he.1]; omega) rfl (fun b32 o32 p32 => ?_)
  refine wl_e0 (e_str (u := true) 1 M rfl rfl rfl p32 (by rw [he.1]; omega) rfl) rfl ?_
  intro _ w9 M
  try simp only [sC0, sCS] at M
  refine wl_nil ?_
  refine wc_region ?_
  refine wl_mv M rfl rfl ?_
  refine wl_m M (q_add rfl rfl (IntWalk.i64_in _ (by omega))) rfl rfl ?_
  refine wl_as M rfl rfl ?_
  refine wl_nil ?_
  refine ⟨(k0 + 1, l_14_0.set x0.toNat true), ?_, ⟨(by omega), ⟨by simp [he.1], fun s => by rw [bt_set (by rw [he.1]; omega), he.2, take_snoc hx0]; simp [or_comm]⟩, M⟩, ⟨rfl, trivial⟩, unw_look rfl unw_base⟩
  show t.finals.length - (k0 + 1) < t.finals.length - k0
  omega
 have hke0 : k0 = t.finals.length := by omega
 refine wc_exit rfl ?_
 refine wc_seq ?_
 rw [hke0, List.take_length] at he
 have hst0 : ∀ s, bt ((List.replicate m false).set t.start.toNat true) s ↔ s ∈ [t.start] := fun s => by rw [bt_set (by rw [List.length_replicate]; exact ha.start)]; simp [bt_rep]
 obtain ⟨I21, M, hI21, Rq1⟩ := M.frzRow 0 rfl
 have hoI21 := M.old
 obtain ⟨I22, M, hI22, Rq2⟩ := M.frzRow 0 rfl
 have hoI22 := M.old
 refine wc_join (α := Heap × (List Bool) × (List Bool) × SV × SV) [6, 7, 33, 34, 35, 36, 37, 38] (fun ((I6, up, dn, u35, u38) : Heap × (List Bool) × (List Bool) × SV × SV) => [(6, sv u35), (7, sv u38)]) (fun ((I6, up, dn, u35, u38) : Heap × (List Bool) × (List Bool) × SV × SV) w' => hle I22 I6 ∧ (up.length = m ∧ ∀ s, bt up s ↔ Reach (stp t true) (· ∈ [t.start]) s) ∧ (dn.length = m ∧ ∀ s, bt dn s ↔ Reach (stp t false) (· ∈ t.finals) s) ∧ Mem w I I6 (row EBool (sv u35) up :: row EBool (sv u38) dn :: box b1 25 [.int .i64 t.states, .int .i64 t.start, sv fu1, sv au1] :: []) w') ?_ ?_
 ·refine wc_draws (fun w' => Mem w I I22 (box b1 25 [.int .i64 t.states, .int .i64 t.start, sv fu1, sv au1] :: []) w' ∧ True) [] fol ?_
  replace M := M.drew
  have hS := (⟨M, trivial⟩ : _ ∧ _)
  refine wa_q 0 rfl (by kernel_rfl) ((q_ldbA 0 Try.underlying25 rfl sz25 rfl rfl rfl rfl).mono fun _ h => h.1) hS rfl rfl ?_
  refine wa_q 1 rfl (by kernel_rfl) (q_move rfl) hS rfl rfl ?_
  refine wa_q 3 rfl (by kernel_rfl) ((q_ldbA 0 Try.underlying25 rfl sz25 rfl rfl rfl rfl).mono fun _ h => h.1) hS rfl rfl ?_
  refine wa_q 4 rfl (by kernel_rfl) (q_move rfl) hS rfl rfl ?_
  refine wa_e 2 rfl (by kernel_rfl) (e_callR Try.func58 rfl (vs := [.agg #[.int .i64 t.states, .int .i64 t.start, sv fu1, sv au1], sv u11, .bool false]) rfl (reach3_c (t := t) hmle ha.arcs (by simp) false ⟨_, _, rfl, (((Rf1.mono hI5).mono hI21).mono hI22), (((Ra1.mono hI5).mono hI21).mono hI22)⟩ (Rq1.mono hI22) M)) rfl rfl ?_
  rintro _ w10 ⟨u35, up, rfl, hup, M⟩
  replace hup : up.length = m ∧ ∀ s, bt up s ↔ Reach (stp t true) (· ∈ [t.start]) s := ⟨hup.1, fun s => by rw [hup.2]; exact reach_ext (fun _ _ => Iff.rfl) hst0⟩
  try simp only [sC0, sCS] at M
  have hS := (⟨(M.drop 0), trivial⟩ : _ ∧ _)
  refine ⟨fun _ => hS, ?_⟩
  refine wa_e 5 rfl (by kernel_rfl) (e_callR Try.func58 rfl (vs := [.agg #[.int .i64 t.states, .int .i64 t.start, sv fu1, sv au1], sv u14, .bool true]) rfl (reach3_c (t := t) hmle ha.arcs he.1 true ⟨_, _, rfl, (((Rf1.mono hI5).mono hI21).mono hI22), (((Ra1.mono hI5).mono hI21).mono hI22)⟩ Rq2 M)) rfl rfl ?_
  rintro _ w11 ⟨u38, dn, rfl, hdn, M⟩
  replace hdn : dn.length = m ∧ ∀ s, bt dn s ↔ Reach (stp t false) (· ∈ t.finals) s := ⟨hdn.1, fun s => by rw [hdn.2]; exact reach_ext (fun _ _ => Iff.rfl) he.2⟩
  try simp only [sC0, sCS] at M
  have hS := (⟨((M.drop 0).drop 0), trivial⟩ : _ ∧ _)
  refine ⟨fun _ => hS, ?_⟩
  refine wa_q 6 rfl (by kernel_rfl) (q_assign rfl) hS rfl rfl ?_
  refine wa_q 7 rfl (by kernel_rfl) (q_assign rfl) hS rfl rfl ?_
  refine wa_done (by kernel_rfl) ?_
  replace M := M.perm (List.Perm.swap _ _ _)
  exact ⟨(I22, up, dn, u35, u38), ⟨hle.refl _, hup, hdn, M⟩, ⟨rfl, rfl, trivial⟩, unw_take 8 rfl rfl⟩
 rintro ⟨I6, up, dn, u35, u38⟩ jr7 w12 ⟨hI6, hup, hdn, M⟩
 have hoI6 := M.old
 refine wc_seq ?_
 refine wc_seq ?_
 refine wc_region ?_
 refine wl_as M rfl rfl ?_
 refine wl_nil ?_
 refine wc_block ?_
 refine wc_loop (α := Nat × (List Bool)) [8, 39, 40, 41, 42, 43, 44, 45, 46, 47, 48, 49, 50, 51, 52, 53, 54, 55, 56, 57] (fun ((k2, l_35_2) : Nat × (List Bool)) => [(8, .int .i64 (k2 : Int))])
   (fun ((k2, l_35_2) : Nat × (List Bool)) w' => (k2 ≤ m) ∧ (l_35_2.length = m ∧ (∀ i, i < k2 → l_35_2.getD i false = kpS t i) ∧ ∀ i, k2 ≤ i → l_35_2.getD i false = up.getD i false) ∧ Mem w I I6 (row EBool (sv u35) l_35_2 :: row EBool (sv u38) dn :: box b1 25 [.int .i64 t.states, .int .i64 t.start, sv fu1, sv au1] :: []) w')
   (fun ((k2, l_35_2) : Nat × (List Bool)) => m - k2) (0, up) ⟨rfl, trivial⟩ ?_ ?_
 ·refine ⟨Nat.zero_le _, ⟨hup.1, fun i hi => absurd hi (Nat.not_lt_zero _), fun i _ => rfl⟩, ?_⟩
  exact M
 rintro ⟨k2, l_35_2⟩ jj2 w13 ⟨hk2, hk, M⟩
 have hoI6 := M.old
 refine wc_seq ?_
 refine wc_seq ?_
 refine wc_region ?_
 refine wl_mv M rfl rfl ?_
 refine wl_m M (q_fa fo_25_0 rfl) rfl rfl ?_
 refine wl_m M (q_ldb 2 Try.underlying3 rfl rfl rfl rfl) rfl rfl ?_
 refine wl_m M (q_lss rfl rfl) rfl rfl ?_
 refine wl_nil ?_
 refine wc_dec rfl (fun ht42 => ?_) (fun ht42 => ?_)
 ·refine wc_skip ?_
  refine wc_seq ?_
  refine wc_block ?_
  refine wc_region ?_
  refine wl_mv M rfl rfl ?_
  refine wl_mv M rfl rfl ?_
  refine wl_mv M rfl rfl ?_
  refine wl_mv M rfl rfl ?_
  refine wl_ixr (j := k2) 0 M rfl Try.underlying89 rfl (ixe (by omega)) (getD_at (d := false) (by rw [hk.1]; omega)) rfl (fun b49 o49 p49 => ?_)
  refine wl_m M (q_ldp p49 rfl rfl) rfl rfl ?_
  refine wl_mv M rfl rfl ?_
  rcases Bool.eq_false_or_eq_true ((l_35_2.getD k2 false)) with hg51 | hg51
  ·refine wl_m M (q_guard 6 rfl rfl rfl hg51 (q_move rfl)) rfl rfl ?_
   refine wl_m M (q_guard 6 rfl rfl rfl hg51 (q_move rfl)) rfl rfl ?_
   refine wl_ixrG (j := k2) 6 rfl rfl rfl hg51 1 M rfl Try.underlying89 rfl (ixe (by omega)) (getD_at (d := false) (by rw [hdn.1]; omega)) rfl (fun b54 o54 p54 => ?_)
   refine wl_m M (q_guard 6 rfl rfl rfl hg51 (q_ldp p54 rfl rfl)) rfl rfl ?_
   refine wl_m M (q_pickT rfl hg51 rfl) rfl rfl ?_
   refine wl_ixw (j := k2) 0 M rfl Try.underlying89 rfl (ixe (by omega)) (by rw [hk.1]; omega) rfl (fun b57 o57 p57 => ?_)
   refine wl_e0 (e_str (u := (dn.getD k2 false)) 0 M rfl rfl rfl p57 (by rw [hk.1]; omega) rfl) rfl ?_
   intro _ w14 M
   try simp only [sC0, sCS] at M
   refine wl_nil ?_
   refine wc_region ?_
   refine wl_mv M rfl rfl ?_
   refine wl_m M (q_add rfl rfl (IntWalk.i64_in _ (by omega))) rfl rfl ?_
   refine wl_as M rfl rfl ?_
   refine wl_nil ?_
   refine ⟨(k2 + 1, l_35_2.set k2 (dn.getD k2 false)), ?_, ⟨(by omega), (kep_set hk (by omega) (by have h9 := kpB_S hup.2 hdn.2 k2; rw [kpB, ← hk.2.2 k2 (Nat.le_refl _), hg51] at h9; simpa using h9)), M⟩, ⟨rfl, trivial⟩, unw_look rfl unw_base⟩
   show m - (k2 + 1) < m - k2
   omega
  refine wl_m M (q_off 6 rfl rfl rfl hg51) rfl rfl ?_
  refine wl_m M (q_off 6 rfl rfl rfl hg51) rfl rfl ?_
  refine wl_m M (q_off 6 rfl rfl rfl hg51) rfl rfl ?_
  refine wl_m M (q_off 6 rfl rfl rfl hg51) rfl rfl ?_
  refine wl_m M (q_pickF rfl hg51 rfl) rfl rfl ?_
  refine wl_ixw (j := k2) 0 M rfl Try.underlying89 rfl (ixe (by omega)) (by rw [hk.1]; omega) rfl (fun b57 o57 p57 => ?_)
  refine wl_e0 (e_str (u := false) 0 M rfl rfl rfl p57 (by rw [hk.1]; omega) rfl) rfl ?_
  intro _ w15 M
  try simp only [sC0, sCS] at M
  refine wl_nil ?_
  refine wc_region ?_
  refine wl_mv M rfl rfl ?_
  refine wl_m M (q_add rfl rfl (IntWalk.i64_in _ (by omega))) rfl rfl ?_
  refine wl_as M rfl rfl ?_
  refine wl_nil ?_
  refine ⟨(k2 + 1, l_35_2.set k2 false), ?_, ⟨(by omega), (kep_set hk (by omega) (by have h9 := kpB_S hup.2 hdn.2 k2; rw [kpB, ← hk.2.2 k2 (Nat.le_refl _), hg51] at h9; simpa using h9)), M⟩, ⟨rfl, trivial⟩, unw_look rfl unw_base⟩
  show m - (k2 + 1) < m - k2
  omega
 have hke2 : k2 = m := by omega
 rw [hke2] at hk
 refine wc_exit rfl ?_
 refine wc_seq ?_
 refine wc_region ?_
 refine wl_mv M rfl rfl ?_
 refine wl_as M rfl rfl ?_
 refine wl_nil ?_
 refine wc_ret ?_
 obtain ⟨K1, M, hK1, Rk1⟩ := M.frzRow 0 rfl
 exact out1 rfl rfl ⟨_, K1, rfl, (M.grow : Grow w I _ K1), _, Rk1, hk.1, hk.2.1⟩
theorem empty3_c (t : Tra) {v1 : Value} {I : Heap} {w : World} (hI : hle I (hp w)) (R1 : t.rd I v1) : Calls A 55 #[v1] w (Ret w I fun r _ => r = .bool (emptyS t)) := by
 obtain ⟨fu1, au1, rfl, Rf1, Ra1⟩ := R1
 have M := Mem.start hI
 refine enter Try.func55 rfl 15 Try.ntmps55 [_] rfl ?_
 refine wc_seq ?_
 refine wc_region ?_
 refine wl_e (e_box M rfl) rfl rfl ?_
 rintro _ w1 ⟨b1, rfl, M⟩
 refine wl_as M rfl rfl ?_
 refine wl_nil ?_
 refine wc_seq ?_
 refine wc_join (α := Unit) [2, 3, 4, 5, 6, 7, 8, 9, 10, 11, 12, 13, 14] (fun _ => [(2, .bool ((!(validT t)) || (!(kpS t t.start.toNat))))]) (fun _ w' => Mem w I I (box b1 25 [.int .i64 t.states, .int .i64 t.start, sv fu1, sv au1] :: []) w') ?_ ?_
 ·refine wc_draws (fun w' => Mem w I I (box b1 25 [.int .i64 t.states, .int .i64 t.start, sv fu1, sv au1] :: []) w' ∧ True) [] fol ?_
  replace M := M.drew
  have hS := (⟨M, trivial⟩ : _ ∧ _)
  refine wa_q 0 rfl (by kernel_rfl) ((q_ldbA 0 Try.underlying25 rfl sz25 rfl rfl rfl rfl).mono fun _ h => h.1) hS rfl rfl ?_
  refine wa_e 1 rfl (by kernel_rfl) (e_callC M (valid3_c t M.imm ⟨_, _, rfl, Rf1, Ra1⟩) Try.func10 rfl rfl) rfl rfl ?_
  rintro _ w2 ⟨J4, hJ4, rfl, M⟩
  have hS := (⟨(M.less hJ4 (fun _ _ => rfl)), trivial⟩ : _ ∧ _)
  refine ⟨fun _ => hS, ?_⟩
  replace M := M.less hJ4 (fun _ _ => rfl)
  refine wa_q 2 rfl (by kernel_rfl) (q_not rfl) hS rfl rfl ?_
  refine wa_q 3 rfl (by kernel_rfl) (q_move rfl) hS rfl rfl ?_
  rcases Bool.eq_false_or_eq_true (!(validT t)) with hg6 | hg6
  ·refine wa_q 4 rfl (by kernel_rfl) (q_off 3 rfl rfl rfl hg6) hS rfl rfl ?_
   refine wa_q 6 rfl (by kernel_rfl) (q_off 3 rfl rfl rfl hg6) hS rfl rfl ?_
   refine wa_q 7 rfl (by kernel_rfl) (q_off 3 rfl rfl rfl hg6) hS rfl rfl ?_
   refine wa_q 5 rfl (by kernel_rfl) (q_off 3 rfl rfl rfl hg6) hS rfl rfl ?_
   refine wa_q 8 rfl (by kernel_rfl) (q_off 3 rfl rfl rfl hg6) hS rfl rfl ?_
   refine wa_q 9 rfl (by kernel_rfl) (q_off 3 rfl rfl rfl hg6) hS rfl rfl ?_
   refine wa_q 10 rfl (by kernel_rfl) (q_off 3 rfl rfl rfl hg6) hS rfl rfl ?_
   refine wa_q 11 rfl (by kernel_rfl) (q_pickT rfl hg6 rfl) hS rfl rfl ?_
   refine wa_q 12 rfl (by kernel_rfl) (q_assign rfl) hS rfl rfl ?_
   refine wa_done (by kernel_rfl) ?_
   exact ⟨(), M, ⟨(show some (Value.bool true) = some (Value.bool ((!(validT t)) || (!(kpS t t.start.toNat)))) from by first | (simp only [hg6, Bool.true_or, Bool.false_or, Bool.true_and, Bool.false_and, Bool.or_true, Bool.or_false, Bool.and_true, Bool.and_false]; done) | simp_all), trivial⟩, unw_take 13 rfl rfl⟩
  refine wa_q 4 rfl (by kernel_rfl) ((q_guard 3 rfl rfl rfl hg6 (q_ldbA 0 Try.underlying25 rfl sz25 rfl rfl rfl rfl)).mono fun _ h => h.1) hS rfl rfl ?_
  refine wa_q 6 rfl (by kernel_rfl) (q_guard 3 rfl rfl rfl hg6 (q_fa fo_25_1 rfl)) hS rfl rfl ?_
  refine wa_q 7 rfl (by kernel_rfl) ((q_guard 3 rfl rfl rfl hg6 (q_ldb 0 Try.underlying3 rfl rfl rfl rfl)).mono fun _ h => h.1) hS rfl rfl ?_
  obtain ⟨m, ha, hrf⟩ := valid_rng (t := t) (by simpa using hg6)
  have hs0 := ha.start
  refine wa_e 5 rfl (by kernel_rfl) (e_guard 3 rfl rfl rfl hg6 (e_callC M (kept3_c ha hrf M.imm ⟨_, _, rfl, Rf1, Ra1⟩) Try.func56 rfl rfl)) rfl rfl ?_
  rintro v8 w3 ⟨J8, hJ8, ⟨kl, R8, hkl⟩, M⟩
  obtain ⟨u8, rfl⟩ := rdSl_slice R8
  have hoJ8 := M.old
  have hS := (⟨(M.less hJ8 (fun _ _ => rfl)), trivial⟩ : _ ∧ _)
  refine ⟨fun _ => hS, ?_⟩
  refine wa_ix1G (j := t.start.toNat) 3 rfl rfl rfl hg6 8 M hS R8 rfl (by kernel_rfl) Try.underlying89 rfl (ixe (by omega)) (kep_at hkl (by omega)) rfl (fun b11 o11 p11 => ?_)
  refine wa_q1 9 rfl (by kernel_rfl) (q_guard 3 rfl rfl rfl hg6 (q_ldp p11 rfl rfl)) M rfl rfl (fun _ => hS) ?_
  refine wa_q 10 rfl (by kernel_rfl) (q_guard 3 rfl rfl rfl hg6 (q_not rfl)) hS rfl rfl ?_
  refine wa_q 11 rfl (by kernel_rfl) (q_pickF rfl hg6 rfl) hS rfl rfl ?_
  refine wa_q 12 rfl (by kernel_rfl) (q_assign rfl) hS rfl rfl ?_
  refine wa_done (by kernel_rfl) ?_
  replace M := M.less hJ8 (fun _ _ => rfl)
  exact ⟨(), M, ⟨(show some (Value.bool (!(kpS t t.start.toNat))) = some (Value.bool ((!(validT t)) || (!(kpS t t.start.toNat)))) from by first | (simp only [hg6, Bool.true_or, Bool.false_or, Bool.true_and, Bool.false_and, Bool.or_true, Bool.or_false, Bool.and_true, Bool.and_false]; done) | simp_all), trivial⟩, unw_take 13 rfl rfl⟩
 rintro _ jr1 w4 M
 refine wc_ret ?_
 exact out1 rfl rfl ⟨_, _, rfl, M.grow, by rw [empty3]⟩
set_option maxRecDepth 4000 in
set_option maxHeartbeats 1000000 in
theorem trim3_c (t : Tra) {v1 : Value} {I : Heap} {w : World} (hI : hle I (hp w)) (R1 : t.rd I v1) : Calls A 24 #[v1] w (Ret w I fun r I' => (TrimP t).rd I' r) := by
 obtain ⟨fu1, au1, rfl, Rf1, Ra1⟩ := R1
 have hla := Ra1.len_le
 have M := Mem.start hI
 refine enter Try.func24 rfl 144 Try.ntmps24 [_] rfl ?_
 refine wc_seq ?_
 refine wc_region ?_
 refine wl_e (e_box M rfl) rfl rfl ?_
 rintro _ w1 ⟨b1, rfl, M⟩
 refine wl_e (e_alloc M z25) rfl rfl ?_
 rintro _ w2 ⟨b2, rfl, M⟩
 refine wl_nil ?_
 refine wc_seq ?_
 refine wc_seq ?_
 refine wc_region ?_
 refine wl_m M (q_ldbA 1 Try.underlying25 rfl sz25 rfl rfl rfl rfl) rfl rfl ?_
 refine wl_e (e_callC M (valid3_c t M.imm ⟨_, _, rfl, Rf1, Ra1⟩) Try.func10 rfl rfl) rfl rfl ?_
 rintro _ w3 ⟨J11, hJ11, rfl, M⟩
 replace M := M.less hJ11 (fun _ _ => rfl)
 refine wl_m M (q_not rfl) rfl rfl ?_
 refine wl_nil ?_
 refine wc_cond rfl (fun ht12 => ?_) (fun ht12 => ?_)
 ·refine wc_seq ?_
  refine wc_region ?_
  refine wl_m M (q_build (bd_25) trivial) rfl rfl ?_
  refine wl_e0 (e_stW 0 M rfl rfl rfl sz25 rfl rfl) rfl ?_
  intro _ w4 M
  try simp only [sC0, sCS] at M
  refine wl_nil ?_
  refine wc_ret ?_
  exact outc rfl rfl (load_boxA M 0 Try.underlying25 rfl sz25 rfl rfl rfl) ⟨_, _, rfl, M.grow, by rw [trimP_bad ht12]; exact ⟨nilV, nilV, rfl, rdSl_nil _, rdSl_nil _⟩⟩
 have hv : validT t = true := by simpa using ht12
 obtain ⟨m, ha, hrf⟩ := valid_rng hv
 have hs0 := ha.start
 have hst := ha.st
 have hmle := ha.le
 have hal := ha.alen
 refine wc_skip ?_
 refine wc_seq ?_
 refine wc_seq ?_
 refine wc_region ?_
 refine wl_m M (q_ldbA 1 Try.underlying25 rfl sz25 rfl rfl rfl rfl) rfl rfl ?_
 refine wl_e (e_callC M (empty3_c t M.imm ⟨_, _, rfl, Rf1, Ra1⟩) Try.func55 rfl rfl) rfl rfl ?_
 rintro _ w5 ⟨J15, hJ15, rfl, M⟩
 replace M := M.less hJ15 (fun _ _ => rfl)
 refine wl_nil ?_
 refine wc_cond rfl (fun ht15 => ?_) (fun ht15 => ?_)
 ·refine wc_seq ?_
  refine wc_region ?_
  refine wl_m M (q_build (bd_25_0 _) ⟨⟨rfl, rfl⟩, trivial⟩) rfl rfl ?_
  refine wl_e0 (e_stW 0 M rfl rfl rfl sz25 rfl rfl) rfl ?_
  intro _ w6 M
  try simp only [sC0, sCS] at M
  refine wl_nil ?_
  refine wc_ret ?_
  exact outc rfl rfl (load_boxA M 0 Try.underlying25 rfl sz25 rfl rfl rfl) ⟨_, _, rfl, M.grow, by rw [trimP_one ha.start hv ht15]; exact ⟨nilV, nilV, rfl, rdSl_nil _, rdSl_nil _⟩⟩
 have hkst : kpS t t.start.toNat = true := by rw [empty_kp ha.start.1 hv] at ht15; simpa using ht15
 refine wc_skip ?_
 refine wc_seq ?_
 refine wc_region ?_
 refine wl_m M (q_ldbA 1 Try.underlying25 rfl sz25 rfl rfl rfl rfl) rfl rfl ?_
 refine wl_e (e_callC M (kept3_c ha hrf M.imm ⟨_, _, rfl, Rf1, Ra1⟩) Try.func56 rfl rfl) rfl rfl ?_
 rintro v18 w7 ⟨J18, hJ18, ⟨kl, R18, hkl⟩, M⟩
 obtain ⟨u18, rfl⟩ := rdSl_slice R18
 have hoJ18 := M.old
 refine wl_as M rfl rfl ?_
 refine wl_nil ?_
 refine wc_seq ?_
 refine wc_region ?_
 refine wl_m M (q_fa fo_25_0 rfl) rfl rfl ?_
 refine wl_m M (q_ldb 1 Try.underlying3 rfl rfl rfl rfl) rfl rfl ?_
 refine wl_e (e_make (E := EInt) (zv := 0) (m := m) M Try.underlying22 z3 (by rw [hst]; rfl) (by rw [hst]; rfl) (by show _ * 8 ≤ _; omega)) rfl rfl ?_
 rintro _ w8 ⟨u21, rfl, M⟩
 refine wl_as M rfl rfl ?_
 refine wl_nil ?_
 refine wc_seq ?_
 refine wc_region ?_
 refine wl_m M (q_build (bd_25) trivial) rfl rfl ?_
 refine wl_e (e_alloc M z25) rfl rfl ?_
 rintro _ w9 ⟨b5, rfl, M⟩
 refine wl_e0 (e_stW 0 M rfl rfl rfl sz25 rfl rfl) rfl ?_
 intro _ w10 M
 try simp only [sC0, sCS] at M
 refine wl_nil ?_
 refine wc_seq ?_
 refine wc_seq ?_
 replace M := M.nilRow EInt
 replace M := M.nilRow EArc
 refine wc_region ?_
 refine wl_as M rfl rfl ?_
 refine wl_nil ?_
 refine wc_block ?_
 refine wc_loop (α := Nat × SV × (List Int) × (List Int)) [6, 23, 24, 25, 26, 27, 28, 29, 30, 31, 32, 33, 34, 35, 36, 37, 38, 39, 40, 41, 42, 43, 44, 45, 46, 47, 48, 49, 50, 51, 52, 53] (fun ((k0, u_f_0, l_f_0, l_21_0) : Nat × SV × (List Int) × (List Int)) => [(6, .int .i64 (k0 : Int))])
   (fun ((k0, u_f_0, l_f_0, l_21_0) : Nat × SV × (List Int) × (List Int)) w' => (k0 ≤ m) ∧ (l_21_0 = nuR (kpS t) m k0) ∧ (l_f_0 = finR t k0) ∧ Mem w I J18 (row EArc (sv nilV) [] :: row EInt (sv u_f_0) l_f_0 :: box b5 25 [.int .i64 (rk (kpS t) k0 : Int), .int .i64 0, sv u_f_0, sv nilV] :: row EInt (sv u21) l_21_0 :: box b2 25 [.int .i64 0, .int .i64 0, .slice none 0 0, .slice none 0 0] :: box b1 25 [.int .i64 t.states, .int .i64 t.start, sv fu1, sv au1] :: []) w')
   (fun ((k0, u_f_0, l_f_0, l_21_0) : Nat × SV × (List Int) × (List Int)) => m - k0) (0, nilV, [], List.replicate m 0) ⟨rfl, trivial⟩ ?_ ?_
 ·refine ⟨Nat.zero_le _, (by simp [nuR]), rfl, ?_⟩
  exact M
 rintro ⟨k0, u_f_0, l_f_0, l_21_0⟩ jj0 w11 ⟨hk0, hnu, hff, M⟩
 have hoJ18 := M.old
 refine wc_seq ?_
 refine wc_seq ?_
 refine wc_region ?_
 refine wl_mv M rfl rfl ?_
 refine wl_m M (q_fa fo_25_0 rfl) rfl rfl ?_
 refine wl_m M (q_ldb 5 Try.underlying3 rfl rfl rfl rfl) rfl rfl ?_
 refine wl_m M (q_lss rfl rfl) rfl rfl ?_
 refine wl_nil ?_
 refine wc_dec rfl (fun ht26 => ?_) (fun ht26 => ?_)
 ·have hrl := rk_le (kpS t) k0
  have hk0m : k0 < m := by have := ht26; omega
  refine wc_skip ?_
  refine wc_seq ?_
  refine wc_block ?_
  refine wc_seq ?_
  refine wc_region ?_
  refine wl_mv M rfl rfl ?_
  refine wl_mv M rfl rfl ?_
  refine wl_m M (q_fa fo_25_0 rfl) rfl rfl ?_
  refine wl_m M (q_ldb 2 Try.underlying3 rfl rfl rfl rfl) rfl rfl ?_
  refine wl_ixw (j := k0) 3 M rfl Try.underlying22 rfl (ixe (by omega)) (by rw [hnu, nuR_len (by omega)]; omega) rfl (fun b33 o33 p33 => ?_)
  refine wl_e0 (e_str (u := (rk (kpS t) k0 : Int)) 3 M rfl rfl rfl p33 (by rw [hnu, nuR_len (by omega)]; omega) rfl) rfl ?_
  intro _ w12 M
  try simp only [sC0, sCS] at M
  refine wl_nil ?_
  refine wc_seq ?_
  refine wc_region ?_
  refine wl_mv M rfl rfl ?_
  refine wl_mv M rfl rfl ?_
  refine wl_ix (j := k0) M R18 Try.underlying89 rfl (ixe (by omega)) (kep_at hkl (by omega)) rfl (fun b36 o36 p36 => ?_)
  refine wl_m M (q_ldp p36 rfl rfl) rfl rfl ?_
  refine wl_nil ?_
  refine wc_cond rfl (fun ht37 => ?_) (fun ht37 => ?_)
  ·refine wc_seq ?_
   refine wc_region ?_
   refine wl_m M (q_fa fo_25_0 rfl) rfl rfl ?_
   refine wl_m M (q_ldb 2 Try.underlying3 rfl rfl rfl rfl) rfl rfl ?_
   refine wl_m M (q_add rfl rfl (IntWalk.i64_in _ (by omega))) rfl rfl ?_
   refine wl_m M (q_fa fo_25_0 rfl) rfl rfl ?_
   refine wl_e0 (e_stb 2 M rfl rfl rfl sz3 rfl rfl) rfl ?_
   intro _ w13 M
   try simp only [sC0, sCS] at M
   refine wl_nil ?_
   refine wc_seq ?_
   refine wc_region ?_
   refine wl_m M (q_ldbA 5 Try.underlying25 rfl sz25 rfl rfl rfl rfl) rfl rfl ?_
   refine wl_mv M rfl rfl ?_
   refine wl_e (e_callC M (final3_c t (k0 : Int) M.imm ⟨_, _, rfl, (Rf1.mono hJ18), (Ra1.mono hJ18)⟩) Try.func28 rfl rfl) rfl rfl ?_
   rintro _ w14 ⟨J44, hJ44, rfl, M⟩
   replace M := M.less hJ44 hoJ18
   refine wl_nil ?_
   refine wc_cond rfl (fun ht44 => ?_) (fun ht44 => ?_)
   ·refine wc_draws (fun w' => Mem w I J18 (row EArc (sv nilV) [] :: box b5 25 [.int .i64 ((rk (kpS t) k0 : Int) + 1), .int .i64 0, sv u_f_0, sv nilV] :: row EInt (sv u21) (l_21_0.set k0 (rk (kpS t) k0 : Int)) :: box b2 25 [.int .i64 0, .int .i64 0, .slice none 0 0, .slice none 0 0] :: box b1 25 [.int .i64 t.states, .int .i64 t.start, sv fu1, sv au1] :: []) w' ∧ True) [9] fol ?_
    replace M := M.drew
    have hS := (⟨(M.drop 1), trivial⟩ : _ ∧ _)
    refine wa_q 0 rfl (by kernel_rfl) (q_fa fo_25_2 rfl) hS rfl rfl ?_
    refine wa_q 1 rfl (by kernel_rfl) ((q_ldb 1 Try.underlying22 rfl rfl rfl rfl).mono fun _ h => h.1) hS rfl rfl ?_
    refine wa_q 2 rfl (by kernel_rfl) (q_move rfl) hS rfl rfl ?_
    refine wa_q 3 rfl (by kernel_rfl) (q_move rfl) hS rfl rfl ?_
    refine wa_ixS (j := k0) 4 hS (fun _ h => h.1.rd (i := 2) rfl) rfl (by kernel_rfl) Try.underlying22 rfl (ixe (by omega)) (by rw [hnu, nuR_set (by omega)]; exact nuR_at (by omega)) rfl (fun b49 o49 p49 => ?_)
    refine wa_q 5 rfl (by kernel_rfl) (q_ldp p49 rfl rfl) hS rfl rfl ?_
    refine wa_e 6 rfl (by kernel_rfl) (e_bsI (E := EInt) (xs := [(rk (kpS t) k0 : Int)]) M (bs_22_1 _) ⟨⟨rfl, rfl⟩, trivial⟩ rfl rfl (by decide)) rfl rfl ?_
    rintro _ w15 ⟨u51, J51, rfl, hJ51, R51, M⟩
    have hoJ51 := M.old
    have hS := (⟨((M.less hJ51 hoJ18).drop 1), trivial⟩ : _ ∧ _)
    refine ⟨fun _ => hS, ?_⟩
    refine wa_e 7 rfl (by kernel_rfl) (e_app 1 M rfl R51 Try.underlying22 rfl rfl (by have := finR_len (t := t) (k := k0); rw [hff]; show (_ + 1) * 8 ≤ _; omega)) rfl rfl ?_
    rintro _ w16 ⟨u52, rfl, M⟩
    try simp only [sC0, sCS] at M
    have hS := (⟨((M.less hJ51 hoJ18).drop 1), trivial⟩ : _ ∧ _)
    refine ⟨fun _ => hS, ?_⟩
    replace M := M.less hJ51 hoJ18
    refine wa_q 8 rfl (by kernel_rfl) (q_fa fo_25_2 rfl) hS rfl rfl ?_
    refine wa_e0 9 rfl (by kernel_rfl) (e_stb 2 M rfl rfl rfl sz22 rfl rfl) rfl ?_
    intro _ w17 M
    try simp only [sC0, sCS] at M
    refine ⟨nofun, ?_⟩
    refine wa_done (by kernel_rfl) ?_
    refine wc_region ?_
    refine wl_mv M rfl rfl ?_
    refine wl_m M (q_add rfl rfl (IntWalk.i64_in _ (by omega))) rfl rfl ?_
    refine wl_as M rfl rfl ?_
    refine wl_nil ?_
    rw [rk_hit ht37] at M
    refine ⟨(k0 + 1, u52, l_f_0 ++ [(rk (kpS t) k0 : Int)], l_21_0.set k0 (rk (kpS t) k0 : Int)), ?_, ⟨(by omega), (by rw [hnu, nuR_set (by omega)]), (by rw [hff, finR_yes ht37 ht44]), M⟩, ⟨rfl, trivial⟩, unw_look rfl unw_base⟩
    show m - (k0 + 1) < m - k0
    omega
   refine wc_skip ?_
   refine wc_region ?_
   refine wl_mv M rfl rfl ?_
   refine wl_m M (q_add rfl rfl (IntWalk.i64_in _ (by omega))) rfl rfl ?_
   refine wl_as M rfl rfl ?_
   refine wl_nil ?_
   rw [rk_hit ht37] at M
   refine ⟨(k0 + 1, u_f_0, l_f_0, l_21_0.set k0 (rk (kpS t) k0 : Int)), ?_, ⟨(by omega), (by rw [hnu, nuR_set (by omega)]), (by rw [hff, finR_no (by rw [ht44, Bool.and_false])]), M⟩, ⟨rfl, trivial⟩, unw_look rfl unw_base⟩
   show m - (k0 + 1) < m - k0
   omega
  rw [← rk_skip ht37] at M
  refine wc_skip ?_
  refine wc_region ?_
  refine wl_mv M rfl rfl ?_
  refine wl_m M (q_add rfl rfl (IntWalk.i64_in _ (by omega))) rfl rfl ?_
  refine wl_as M rfl rfl ?_
  refine wl_nil ?_
  refine ⟨(k0 + 1, u_f_0, l_f_0, l_21_0.set k0 (rk (kpS t) (k0 + 1) : Int)), ?_, ⟨(by omega), (by rw [hnu, rk_skip ht37, nuR_set (by omega)]), (by rw [hff, finR_no (by rw [ht37, Bool.false_and])]), M⟩, ⟨rfl, trivial⟩, unw_look rfl unw_base⟩
  show m - (k0 + 1) < m - k0
  omega
 have hke0 : k0 = m := by omega
 rw [hke0] at hnu hff M
 refine wc_exit rfl ?_
 refine wc_seq ?_
 refine wc_region ?_
 refine wl_mv M rfl rfl ?_
 refine wl_m M (q_fa fo_25_1 rfl) rfl rfl ?_
 refine wl_m M (q_ldb 5 Try.underlying3 rfl rfl rfl rfl) rfl rfl ?_
 refine wl_ixr (j := t.start.toNat) 3 M rfl Try.underlying22 rfl (ixe (by omega)) (by rw [hnu]; exact nuR_at (by omega)) rfl (fun b57 o57 p57 => ?_)
 refine wl_m M (q_ldp p57 rfl rfl) rfl rfl ?_
 refine wl_m M (q_fa fo_25_1 rfl) rfl rfl ?_
 refine wl_e0 (e_stb 2 M rfl rfl rfl sz3 rfl rfl) rfl ?_
 intro _ w18 M
 try simp only [sC0, sCS] at M
 refine wl_nil ?_
 refine wc_seq ?_
 refine wc_seq ?_
 refine wc_region ?_
 refine wl_as M rfl rfl ?_
 refine wl_nil ?_
 refine wc_block ?_
 refine wc_loop (α := Nat × SV × (List Arc)) [7, 8, 9, 60, 61, 62, 63, 64, 65, 66, 67, 68, 69, 70, 71, 72, 73, 74, 75, 76, 77, 78, 79, 80, 81, 82, 83, 84, 85, 86, 87, 88, 89, 90, 91, 92, 93, 94, 95, 96, 97, 98, 99, 100, 101, 102, 103, 104, 105, 106, 107, 108, 109, 110, 111, 112, 113, 114, 115, 116, 117, 118, 119, 120, 121, 122, 123, 124, 125, 126, 127, 128, 129, 130, 131, 132, 133, 134, 135, 136, 137, 138, 139, 140, 141, 142] (fun ((k2, u_a_2, l_a_2) : Nat × SV × (List Arc)) => [(7, .int .i64 (k2 : Int))])
   (fun ((k2, u_a_2, l_a_2) : Nat × SV × (List Arc)) w' => (k2 ≤ t.arcs.length) ∧ (l_a_2 = canon ((t.arcs.take k2).flatMap (arcS t))) ∧ Mem w I J18 (row EArc (sv u_a_2) l_a_2 :: row EInt (sv u_f_0) l_f_0 :: box b5 25 [.int .i64 (rk (kpS t) m : Int), .int .i64 (rk (kpS t) t.start.toNat : Int), sv u_f_0, sv u_a_2] :: row EInt (sv u21) l_21_0 :: box b2 25 [.int .i64 0, .int .i64 0, .slice none 0 0, .slice none 0 0] :: box b1 25 [.int .i64 t.states, .int .i64 t.start, sv fu1, sv au1] :: []) w')
   (fun ((k2, u_a_2, l_a_2) : Nat × SV × (List Arc)) => t.arcs.length - k2) (0, nilV, []) ⟨rfl, trivial⟩ ?_ ?_
 ·refine ⟨Nat.zero_le _, (by simp [canon_nil]), ?_⟩
  exact M
 rintro ⟨k2, u_a_2, l_a_2⟩ jj2 w19 ⟨hk2, haa, M⟩
 have hoJ18 := M.old
 refine wc_seq ?_
 refine wc_seq ?_
 refine wc_region ?_
 refine wl_mv M rfl rfl ?_
 refine wl_m M (q_fa fo_25_3 rfl) rfl rfl ?_
 refine wl_m M (q_ldb 5 Try.underlying23 rfl rfl rfl rfl) rfl rfl ?_
 refine wl_m M (q_lenR (Ra1.mono hJ18) Try.underlying23 rfl) rfl rfl ?_
 refine wl_m M (q_lss rfl rfl) rfl rfl ?_
 refine wl_nil ?_
 refine wc_dec rfl (fun ht64 => ?_) (fun ht64 => ?_)
 ·obtain ⟨x2, hx2⟩ : ∃ x_, t.arcs[k2]? = some x_ := ⟨_, List.getElem?_eq_getElem (by omega)⟩
  have hx2r := ha.arcs x2 (List.mem_of_getElem? hx2)
  have hsr := canon_sorted ((t.arcs.take k2).flatMap (arcS t))
  rw [← haa] at hsr
  have hlc : l_a_2.length ≤ t.arcs.length := by have h8 := canon_len ((t.arcs.take k2).flatMap (arcS t)); have h9 := take_flat_len (arcS_len t) t.arcs k2; rw [← haa] at h8; omega
  refine wc_skip ?_
  refine wc_seq ?_
  refine wc_block ?_
  refine wc_seq ?_
  refine wc_region ?_
  refine wl_m M (q_fa fo_25_3 rfl) rfl rfl ?_
  refine wl_m M (q_ldb 5 Try.underlying23 rfl rfl rfl rfl) rfl rfl ?_
  refine wl_mv M rfl rfl ?_
  refine wl_ix (j := k2) M (Ra1.mono hJ18) Try.underlying23 rfl rfl hx2 rfl (fun b70 o70 p70 => ?_)
  refine wl_m M (q_ldp p70 rfl rfl) rfl rfl ?_
  refine wl_e (e_alloc M z50) rfl rfl ?_
  rintro _ w20 ⟨b8, rfl, M⟩
  refine wl_e0 (e_stW 0 M rfl rfl rfl sz50 rfl rfl) rfl ?_
  intro _ w21 M
  try simp only [sC0, sCS] at M
  refine wl_nil ?_
  refine wc_seq ?_
  refine wc_seq ?_
  refine wc_join (α := Unit) [72, 73, 74, 75, 76, 77, 78, 79, 80, 81, 82, 83, 84, 85] (fun _ => [(85, .bool ((!(kpS t x2.src.toNat)) || (!(kpS t x2.dst.toNat))))]) (fun _ w' => Mem w I J18 (box b8 50 [.int .i64 x2.src, .int .i64 x2.dst, .int .i32 x2.inp, .int .i32 x2.out] :: row EArc (sv u_a_2) l_a_2 :: row EInt (sv u_f_0) l_f_0 :: box b5 25 [.int .i64 (rk (kpS t) m : Int), .int .i64 (rk (kpS t) t.start.toNat : Int), sv u_f_0, sv u_a_2] :: row EInt (sv u21) l_21_0 :: box b2 25 [.int .i64 0, .int .i64 0, .slice none 0 0, .slice none 0 0] :: box b1 25 [.int .i64 t.states, .int .i64 t.start, sv fu1, sv au1] :: []) w') ?_ ?_
  ·refine wc_region ?_
   refine wl_mv M rfl rfl ?_
   refine wl_m M (q_fa fo_50_0 rfl) rfl rfl ?_
   refine wl_m M (q_ldb 0 Try.underlying3 rfl rfl rfl rfl) rfl rfl ?_
   refine wl_ix (j := x2.src.toNat) M R18 Try.underlying89 rfl (ixe (by omega)) (kep_at hkl (by omega)) rfl (fun b75 o75 p75 => ?_)
   refine wl_m M (q_ldp p75 rfl rfl) rfl rfl ?_
   refine wl_m M (q_not rfl) rfl rfl ?_
   refine wl_mv M rfl rfl ?_
   rcases Bool.eq_false_or_eq_true (!(kpS t x2.src.toNat)) with hg78 | hg78
   ·refine wl_m M (q_off 6 rfl rfl rfl hg78) rfl rfl ?_
    refine wl_m M (q_off 6 rfl rfl rfl hg78) rfl rfl ?_
    refine wl_m M (q_off 6 rfl rfl rfl hg78) rfl rfl ?_
    refine wl_m M (q_off 6 rfl rfl rfl hg78) rfl rfl ?_
    refine wl_m M (q_off 6 rfl rfl rfl hg78) rfl rfl ?_
    refine wl_m M (q_off 6 rfl rfl rfl hg78) rfl rfl ?_
    refine wl_m M (q_pickT rfl hg78 rfl) rfl rfl ?_
    refine wl_nil ?_
    exact ⟨(), M, ⟨(show some (Value.bool true) = some (Value.bool ((!(kpS t x2.src.toNat)) || (!(kpS t x2.dst.toNat)))) from by first | (simp only [hg78, Bool.true_or, Bool.false_or, Bool.true_and, Bool.false_and, Bool.or_true, Bool.or_false, Bool.and_true, Bool.and_false]; done) | simp_all), trivial⟩, unw_take 14 rfl rfl⟩
   refine wl_m M (q_guard 6 rfl rfl rfl hg78 (q_move rfl)) rfl rfl ?_
   refine wl_m M (q_guard 6 rfl rfl rfl hg78 (q_fa fo_50_1 rfl)) rfl rfl ?_
   refine wl_m M (q_guard 6 rfl rfl rfl hg78 (q_ldb 0 Try.underlying3 rfl rfl rfl rfl)) rfl rfl ?_
   refine wl_ixG (j := x2.dst.toNat) 6 rfl rfl rfl hg78 M R18 Try.underlying89 rfl (ixe (by omega)) (kep_at hkl (by omega)) rfl (fun b82 o82 p82 => ?_)
   refine wl_m M (q_guard 6 rfl rfl rfl hg78 (q_ldp p82 rfl rfl)) rfl rfl ?_
   refine wl_m M (q_guard 6 rfl rfl rfl hg78 (q_not rfl)) rfl rfl ?_
   refine wl_m M (q_pickF rfl hg78 rfl) rfl rfl ?_
   refine wl_nil ?_
   exact ⟨(), M, ⟨(show some (Value.bool (!(kpS t x2.dst.toNat))) = some (Value.bool ((!(kpS t x2.src.toNat)) || (!(kpS t x2.dst.toNat)))) from by first | (simp only [hg78, Bool.true_or, Bool.false_or, Bool.true_and, Bool.false_and, Bool.or_true, Bool.or_false, Bool.and_true, Bool.and_false]; done) | simp_all), trivial⟩, unw_take 14 rfl rfl⟩
  rintro _ jr21 w22 M
  refine wc_cond rfl (fun ht85 => ?_) (fun ht85 => ?_)
  ·refine wc_exit rfl ?_
   refine wc_region ?_
   refine wl_mv M rfl rfl ?_
   refine wl_m M (q_add rfl rfl (IntWalk.i64_in _ (by omega))) rfl rfl ?_
   refine wl_as M rfl rfl ?_
   refine wl_nil ?_
   replace M := M.drop 0
   refine ⟨(k2 + 1, u_a_2, l_a_2), ?_, ⟨(by omega), (by rw [take_flat hx2, haa, arcS_no ht85, List.append_nil]), M⟩, ⟨rfl, trivial⟩, unw_look rfl (unw_hav rfl (unw_look rfl unw_base))⟩
   show t.arcs.length - (k2 + 1) < t.arcs.length - k2
   omega
  refine wc_skip ?_
  refine wc_seq ?_
  refine wc_join (α := Heap) [86, 87, 88, 89, 90, 91, 92, 93, 94, 95, 96, 97] (fun ((I6) : Heap) => []) (fun ((I6) : Heap) w' => hle J18 I6 ∧ Mem w I I6 (box b8 50 [.int .i64 (rk (kpS t) x2.src.toNat : Int), .int .i64 (rk (kpS t) x2.dst.toNat : Int), .int .i32 x2.inp, .int .i32 x2.out] :: row EArc (sv u_a_2) l_a_2 :: row EInt (sv u_f_0) l_f_0 :: box b5 25 [.int .i64 (rk (kpS t) m : Int), .int .i64 (rk (kpS t) t.start.toNat : Int), sv u_f_0, sv u_a_2] :: row EInt (sv u21) l_21_0 :: box b2 25 [.int .i64 0, .int .i64 0, .slice none 0 0, .slice none 0 0] :: box b1 25 [.int .i64 t.states, .int .i64 t.start, sv fu1, sv au1] :: []) w') ?_ ?_
  ·refine wc_draws (fun w' => Mem w I J18 (row EArc (sv u_a_2) l_a_2 :: row EInt (sv u_f_0) l_f_0 :: box b5 25 [.int .i64 (rk (kpS t) m : Int), .int .i64 (rk (kpS t) t.start.toNat : Int), sv u_f_0, sv u_a_2] :: row EInt (sv u21) l_21_0 :: box b2 25 [.int .i64 0, .int .i64 0, .slice none 0 0, .slice none 0 0] :: box b1 25 [.int .i64 t.states, .int .i64 t.start, sv fu1, sv au1] :: []) w' ∧ True) [13] fol ?_
   replace M := M.drew
   have hS := (⟨(M.drop 0), trivial⟩ : _ ∧ _)
   refine wa_q 0 rfl (by kernel_rfl) (q_move rfl) hS rfl rfl ?_
   refine wa_q 1 rfl (by kernel_rfl) (q_fa fo_50_0 rfl) hS rfl rfl ?_
   refine wa_q 5 rfl (by kernel_rfl) (q_move rfl) hS rfl rfl ?_
   refine wa_q 6 rfl (by kernel_rfl) (q_fa fo_50_1 rfl) hS rfl rfl ?_
   refine wa_es [2, 7] (by kernel_rfl) (by decide) ⟨?_, ?_, trivial⟩
   ·refine one_e 2 rfl (e_ldb 0 M Try.underlying3 rfl rfl rfl rfl) rfl rfl ?_
    rintro _ w23 ⟨rfl, M⟩
    have hS := (⟨(M.drop 0), trivial⟩ : _ ∧ _)
    refine ⟨fun _ => hS, ?_⟩
    refine wa_ixS (j := x2.src.toNat) 3 hS (fun _ h => h.1.rd (i := 3) rfl) rfl (by kernel_rfl) Try.underlying22 rfl (ixe (by omega)) (by rw [hnu]; exact nuR_at (by omega)) rfl (fun b89 o89 p89 => ?_)
    refine wa_q 4 rfl (by kernel_rfl) (q_ldp p89 rfl rfl) hS rfl rfl ?_
    refine wa_e 7 rfl (by kernel_rfl) (e_ldb 0 M Try.underlying3 rfl rfl rfl rfl) rfl rfl ?_
    rintro _ w24 ⟨rfl, M⟩
    have hS := (⟨(M.drop 0), trivial⟩ : _ ∧ _)
    refine ⟨fun _ => hS, ?_⟩
    refine wa_ixS (j := x2.dst.toNat) 8 hS (fun _ h => h.1.rd (i := 3) rfl) rfl (by kernel_rfl) Try.underlying22 rfl (ixe (by omega)) (by rw [hnu]; exact nuR_at (by omega)) rfl (fun b94 o94 p94 => ?_)
    refine wa_q 9 rfl (by kernel_rfl) (q_ldp p94 rfl rfl) hS rfl rfl ?_
    refine wa_q 10 rfl (by kernel_rfl) (q_fa fo_50_0 rfl) hS rfl rfl ?_
    refine wa_e0 11 rfl (by kernel_rfl) (e_stb 0 M rfl rfl rfl sz3 rfl rfl) rfl ?_
    intro _ w25 M
    try simp only [sC0, sCS] at M
    have hS := (⟨(M.drop 0), trivial⟩ : _ ∧ _)
    refine ⟨fun _ => hS, ?_⟩
    refine wa_q 12 rfl (by kernel_rfl) (q_fa fo_50_1 rfl) hS rfl rfl ?_
    refine wa_e0 13 rfl (by kernel_rfl) (e_stb 0 M rfl rfl rfl sz3 rfl rfl) rfl ?_
    intro _ w26 M
    try simp only [sC0, sCS] at M
    refine ⟨nofun, ?_⟩
    refine wa_done (by kernel_rfl) ?_
    exact ⟨(J18), ⟨hle.refl _, M⟩, trivial, unw_take 12 rfl rfl⟩
   ·refine one_e 7 rfl (e_ldb 0 M Try.underlying3 rfl rfl rfl rfl) rfl rfl ?_
    rintro _ w27 ⟨rfl, M⟩
    have hS := (⟨(M.drop 0), trivial⟩ : _ ∧ _)
    refine ⟨fun _ => hS, ?_⟩
    refine wa_ixS (j := x2.dst.toNat) 8 hS (fun _ h => h.1.rd (i := 3) rfl) rfl (by kernel_rfl) Try.underlying22 rfl (ixe (by omega)) (by rw [hnu]; exact nuR_at (by omega)) rfl (fun b94 o94 p94 => ?_)
    refine wa_q 9 rfl (by kernel_rfl) (q_ldp p94 rfl rfl) hS rfl rfl ?_
    refine wa_e 2 rfl (by kernel_rfl) (e_ldb 0 M Try.underlying3 rfl rfl rfl rfl) rfl rfl ?_
    rintro _ w28 ⟨rfl, M⟩
    have hS := (⟨(M.drop 0), trivial⟩ : _ ∧ _)
    refine ⟨fun _ => hS, ?_⟩
    refine wa_ixS (j := x2.src.toNat) 3 hS (fun _ h => h.1.rd (i := 3) rfl) rfl (by kernel_rfl) Try.underlying22 rfl (ixe (by omega)) (by rw [hnu]; exact nuR_at (by omega)) rfl (fun b89 o89 p89 => ?_)
    refine wa_q 4 rfl (by kernel_rfl) (q_ldp p89 rfl rfl) hS rfl rfl ?_
    refine wa_q 10 rfl (by kernel_rfl) (q_fa fo_50_0 rfl) hS rfl rfl ?_
    refine wa_e0 11 rfl (by kernel_rfl) (e_stb 0 M rfl rfl rfl sz3 rfl rfl) rfl ?_
    intro _ w29 M
    try simp only [sC0, sCS] at M
    have hS := (⟨(M.drop 0), trivial⟩ : _ ∧ _)
    refine ⟨fun _ => hS, ?_⟩
    refine wa_q 12 rfl (by kernel_rfl) (q_fa fo_50_1 rfl) hS rfl rfl ?_
    refine wa_e0 13 rfl (by kernel_rfl) (e_stb 0 M rfl rfl rfl sz3 rfl rfl) rfl ?_
    intro _ w30 M
    try simp only [sC0, sCS] at M
    refine ⟨nofun, ?_⟩
    refine wa_done (by kernel_rfl) ?_
    exact ⟨(J18), ⟨hle.refl _, M⟩, trivial, unw_take 12 rfl rfl⟩
  rintro I6 jr22 w31 ⟨hI6, M⟩
  have hoI6 := M.old
  refine wc_seq ?_
  refine wc_region ?_
  refine wl_as M rfl rfl ?_
  refine wl_nil ?_
  refine wc_seq ?_
  refine wc_block ?_
  refine wc_loop (α := Nat) [9, 98, 99, 100, 101, 102, 103, 104, 105, 106, 107, 108, 109, 110, 111, 112, 113] (fun (kk : Nat) => [(9, .int .i64 (kk : Int))])
    (fun (kk : Nat) w' => (kk ≤ l_a_2.length ∧ ∀ y ∈ l_a_2.take kk, ltArc y (arcN t x2)) ∧ Mem w I I6 (box b8 50 [.int .i64 (rk (kpS t) x2.src.toNat : Int), .int .i64 (rk (kpS t) x2.dst.toNat : Int), .int .i32 x2.inp, .int .i32 x2.out] :: row EArc (sv u_a_2) l_a_2 :: row EInt (sv u_f_0) l_f_0 :: box b5 25 [.int .i64 (rk (kpS t) m : Int), .int .i64 (rk (kpS t) t.start.toNat : Int), sv u_f_0, sv u_a_2] :: row EInt (sv u21) l_21_0 :: box b2 25 [.int .i64 0, .int .i64 0, .slice none 0 0, .slice none 0 0] :: box b1 25 [.int .i64 t.states, .int .i64 t.start, sv fu1, sv au1] :: []) w')
    (fun (kk : Nat) => l_a_2.length - kk) (0) ⟨rfl, trivial⟩ ?_ ?_
  ·refine ⟨⟨Nat.zero_le _, by simp⟩, ?_⟩
   exact M
  rintro kk jj4 w32 ⟨hkk, M⟩
  have hoI6 := M.old
  refine wc_seq ?_
  refine wc_seq ?_
  refine wc_join (α := Unit) [98, 99, 100, 101, 102, 103, 104, 105, 106, 107, 108, 109, 110, 111] (fun _ => [(111, .bool ((decide ((kk : Int) < (l_a_2.length : Int))) && (ltOf ordA (l_a_2.getD kk (Arc.mk 0 0 0 0)) (arcN t x2))))]) (fun _ w' => Mem w I I6 (box b8 50 [.int .i64 (rk (kpS t) x2.src.toNat : Int), .int .i64 (rk (kpS t) x2.dst.toNat : Int), .int .i32 x2.inp, .int .i32 x2.out] :: row EArc (sv u_a_2) l_a_2 :: row EInt (sv u_f_0) l_f_0 :: box b5 25 [.int .i64 (rk (kpS t) m : Int), .int .i64 (rk (kpS t) t.start.toNat : Int), sv u_f_0, sv u_a_2] :: row EInt (sv u21) l_21_0 :: box b2 25 [.int .i64 0, .int .i64 0, .slice none 0 0, .slice none 0 0] :: box b1 25 [.int .i64 t.states, .int .i64 t.start, sv fu1, sv au1] :: []) w') ?_ ?_
  ·refine wc_draws (fun w' => Mem w I I6 (box b8 50 [.int .i64 (rk (kpS t) x2.src.toNat : Int), .int .i64 (rk (kpS t) x2.dst.toNat : Int), .int .i32 x2.inp, .int .i32 x2.out] :: row EArc (sv u_a_2) l_a_2 :: row EInt (sv u_f_0) l_f_0 :: box b5 25 [.int .i64 (rk (kpS t) m : Int), .int .i64 (rk (kpS t) t.start.toNat : Int), sv u_f_0, sv u_a_2] :: row EInt (sv u21) l_21_0 :: box b2 25 [.int .i64 0, .int .i64 0, .slice none 0 0, .slice none 0 0] :: box b1 25 [.int .i64 t.states, .int .i64 t.start, sv fu1, sv au1] :: []) w' ∧ True) [] fol ?_
   replace M := M.drew
   have hS := (⟨M, trivial⟩ : _ ∧ _)
   refine wa_q 0 rfl (by kernel_rfl) (q_move rfl) hS rfl rfl ?_
   refine wa_q 1 rfl (by kernel_rfl) (q_fa fo_25_3 rfl) hS rfl rfl ?_
   refine wa_q 2 rfl (by kernel_rfl) ((q_ldb 3 Try.underlying23 rfl rfl rfl rfl).mono fun _ h => h.1) hS rfl rfl ?_
   refine wa_q 3 rfl (by kernel_rfl) ((q_lenr 1 M rfl Try.underlying23 rfl).mono fun _ h => h.1) hS rfl rfl ?_
   refine wa_q 4 rfl (by kernel_rfl) (q_lss rfl rfl) hS rfl rfl ?_
   refine wa_q 5 rfl (by kernel_rfl) (q_move rfl) hS rfl rfl ?_
   rcases Bool.eq_false_or_eq_true (decide ((kk : Int) < (l_a_2.length : Int))) with hg103 | hg103
   ·refine wa_q 6 rfl (by kernel_rfl) (q_guard 5 rfl rfl rfl hg103 (q_fa fo_25_3 rfl)) hS rfl rfl ?_
    refine wa_q 7 rfl (by kernel_rfl) ((q_guard 5 rfl rfl rfl hg103 (q_ldb 3 Try.underlying23 rfl rfl rfl rfl)).mono fun _ h => h.1) hS rfl rfl ?_
    refine wa_q 8 rfl (by kernel_rfl) (q_guard 5 rfl rfl rfl hg103 (q_move rfl)) hS rfl rfl ?_
    have hkl4 : kk < l_a_2.length := by have := of_decide_eq_true hg103; omega
    refine wa_ixSG (j := kk) 5 rfl rfl rfl hg103 9 hS (fun _ h => h.1.rd (i := 1) rfl) rfl (by kernel_rfl) Try.underlying23 rfl (ixe (by omega)) (getD_at (d := (Arc.mk 0 0 0 0)) hkl4) rfl (fun b107 o107 p107 => ?_)
    refine wa_q 10 rfl (by kernel_rfl) (q_guard 5 rfl rfl rfl hg103 (q_ldp p107 rfl rfl)) hS rfl rfl ?_
    refine wa_q 11 rfl (by kernel_rfl) ((q_guard 5 rfl rfl rfl hg103 (q_ldbA 0 Try.underlying50 rfl sz50 rfl rfl rfl rfl)).mono fun _ h => h.1) hS rfl rfl ?_
    refine wa_e 12 rfl (by kernel_rfl) (e_guard 5 rfl rfl rfl hg103 (e_callC M (less3_c (l_a_2.getD kk (Arc.mk 0 0 0 0)) (arcN t x2) M.imm) Try.func57 rfl rfl)) rfl rfl ?_
    rintro _ w33 ⟨J110, hJ110, rfl, M⟩
    have hS := (⟨(M.less hJ110 hoI6), trivial⟩ : _ ∧ _)
    refine ⟨fun _ => hS, ?_⟩
    replace M := M.less hJ110 hoI6
    refine wa_q 13 rfl (by kernel_rfl) (q_pickT rfl hg103 rfl) hS rfl rfl ?_
    refine wa_done (by kernel_rfl) ?_
    exact ⟨(), M, ⟨(show some (Value.bool (ltOf ordA (l_a_2.getD kk (Arc.mk 0 0 0 0)) (arcN t x2))) = some (Value.bool ((decide ((kk : Int) < (l_a_2.length : Int))) && (ltOf ordA (l_a_2.getD kk (Arc.mk 0 0 0 0)) (arcN t x2)))) from by first | (simp only [hg103, Bool.true_or, Bool.false_or, Bool.true_and, Bool.false_and, Bool.or_true, Bool.or_false, Bool.and_true, Bool.and_false]; done) | simp_all), trivial⟩, unw_take 14 rfl rfl⟩
   refine wa_q 6 rfl (by kernel_rfl) (q_off 5 rfl rfl rfl hg103) hS rfl rfl ?_
   refine wa_q 7 rfl (by kernel_rfl) (q_off 5 rfl rfl rfl hg103) hS rfl rfl ?_
   refine wa_q 8 rfl (by kernel_rfl) (q_off 5 rfl rfl rfl hg103) hS rfl rfl ?_
   refine wa_q 9 rfl (by kernel_rfl) (q_off 5 rfl rfl rfl hg103) hS rfl rfl ?_
   refine wa_q 10 rfl (by kernel_rfl) (q_off 5 rfl rfl rfl hg103) hS rfl rfl ?_
   refine wa_q 11 rfl (by kernel_rfl) (q_off 5 rfl rfl rfl hg103) hS rfl rfl ?_
   refine wa_q 12 rfl (by kernel_rfl) (q_off 5 rfl rfl rfl hg103) hS rfl rfl ?_
   refine wa_q 13 rfl (by kernel_rfl) (q_pickF rfl hg103 rfl) hS rfl rfl ?_
   refine wa_done (by kernel_rfl) ?_
   exact ⟨(), M, ⟨(show some (Value.bool false) = some (Value.bool ((decide ((kk : Int) < (l_a_2.length : Int))) && (ltOf ordA (l_a_2.getD kk (Arc.mk 0 0 0 0)) (arcN t x2)))) from by first | (simp only [hg103, Bool.true_or, Bool.false_or, Bool.true_and, Bool.false_and, Bool.or_true, Bool.or_false, Bool.and_true, Bool.and_false]; done) | simp_all), trivial⟩, unw_take 14 rfl rfl⟩
  rintro _ jr24 w34 M
  refine wc_cond rfl (fun ht111 => ?_) (fun ht111 => ?_)
  ·have hb111 := Bool.and_eq_true_iff.1 ht111
   have hk111 : kk < l_a_2.length := by have := of_decide_eq_true hb111.1; omega
   refine wc_skip ?_
   refine wc_block ?_
   refine wc_region ?_
   refine wl_mv M rfl rfl ?_
   refine wl_m M (q_add rfl rfl (IntWalk.i64_in _ (by omega))) rfl rfl ?_
   refine wl_as M rfl rfl ?_
   refine wl_nil ?_
   refine ⟨(kk + 1), ?_, ⟨⟨by omega, mem_take_snoc (getD_at (d := (Arc.mk 0 0 0 0)) (by omega)) hkk.2 ((ltA _ _).1 hb111.2)⟩, M⟩, ⟨rfl, trivial⟩, unw_look rfl (unw_hav rfl (unw_look rfl unw_base))⟩
   show l_a_2.length - (kk + 1) < l_a_2.length - kk
   omega
  refine wc_exit rfl ?_
  refine wc_seq ?_
  refine wc_join (α := Unit) [114, 115, 116, 117, 118, 119, 120, 121, 122, 123, 124, 125, 126, 127] (fun _ => [(127, .bool ((decide ((kk : Int) = (l_a_2.length : Int))) || (!decide ((l_a_2.getD kk (Arc.mk 0 0 0 0)) = (arcN t x2)))))]) (fun _ w' => Mem w I I6 (box b8 50 [.int .i64 (rk (kpS t) x2.src.toNat : Int), .int .i64 (rk (kpS t) x2.dst.toNat : Int), .int .i32 x2.inp, .int .i32 x2.out] :: row EArc (sv u_a_2) l_a_2 :: row EInt (sv u_f_0) l_f_0 :: box b5 25 [.int .i64 (rk (kpS t) m : Int), .int .i64 (rk (kpS t) t.start.toNat : Int), sv u_f_0, sv u_a_2] :: row EInt (sv u21) l_21_0 :: box b2 25 [.int .i64 0, .int .i64 0, .slice none 0 0, .slice none 0 0] :: box b1 25 [.int .i64 t.states, .int .i64 t.start, sv fu1, sv au1] :: []) w') ?_ ?_
  ·refine wc_draws (fun w' => Mem w I I6 (box b8 50 [.int .i64 (rk (kpS t) x2.src.toNat : Int), .int .i64 (rk (kpS t) x2.dst.toNat : Int), .int .i32 x2.inp, .int .i32 x2.out] :: row EArc (sv u_a_2) l_a_2 :: row EInt (sv u_f_0) l_f_0 :: box b5 25 [.int .i64 (rk (kpS t) m : Int), .int .i64 (rk (kpS t) t.start.toNat : Int), sv u_f_0, sv u_a_2] :: row EInt (sv u21) l_21_0 :: box b2 25 [.int .i64 0, .int .i64 0, .slice none 0 0, .slice none 0 0] :: box b1 25 [.int .i64 t.states, .int .i64 t.start, sv fu1, sv au1] :: []) w' ∧ True) [] fol ?_
   replace M := M.drew
   have hS := (⟨M, trivial⟩ : _ ∧ _)
   refine wa_q 0 rfl (by kernel_rfl) (q_move rfl) hS rfl rfl ?_
   refine wa_q 1 rfl (by kernel_rfl) (q_fa fo_25_3 rfl) hS rfl rfl ?_
   refine wa_q 2 rfl (by kernel_rfl) ((q_ldb 3 Try.underlying23 rfl rfl rfl rfl).mono fun _ h => h.1) hS rfl rfl ?_
   refine wa_q 3 rfl (by kernel_rfl) ((q_lenr 1 M rfl Try.underlying23 rfl).mono fun _ h => h.1) hS rfl rfl ?_
   refine wa_q 4 rfl (by kernel_rfl) (q_eql rfl rfl) hS rfl rfl ?_
   refine wa_q 5 rfl (by kernel_rfl) (q_move rfl) hS rfl rfl ?_
   rcases Bool.eq_false_or_eq_true (decide ((kk : Int) = (l_a_2.length : Int))) with hg119 | hg119
   ·refine wa_q 6 rfl (by kernel_rfl) (q_off 5 rfl rfl rfl hg119) hS rfl rfl ?_
    refine wa_q 7 rfl (by kernel_rfl) (q_off 5 rfl rfl rfl hg119) hS rfl rfl ?_
    refine wa_q 8 rfl (by kernel_rfl) (q_off 5 rfl rfl rfl hg119) hS rfl rfl ?_
    refine wa_q 9 rfl (by kernel_rfl) (q_off 5 rfl rfl rfl hg119) hS rfl rfl ?_
    refine wa_q 10 rfl (by kernel_rfl) (q_off 5 rfl rfl rfl hg119) hS rfl rfl ?_
    refine wa_q 11 rfl (by kernel_rfl) (q_off 5 rfl rfl rfl hg119) hS rfl rfl ?_
    refine wa_q 12 rfl (by kernel_rfl) (q_off 5 rfl rfl rfl hg119) hS rfl rfl ?_
    refine wa_q 13 rfl (by kernel_rfl) (q_pickT rfl hg119 rfl) hS rfl rfl ?_
    refine wa_done (by kernel_rfl) ?_
    exact ⟨(), M, ⟨(show some (Value.bool true) = some (Value.bool ((decide ((kk : Int) = (l_a_2.length : Int))) || (!decide ((l_a_2.getD kk (Arc.mk 0 0 0 0)) = (arcN t x2))))) from by first | (simp only [hg119, Bool.true_or, Bool.false_or, Bool.true_and, Bool.false_and, Bool.or_true, Bool.or_false, Bool.and_true, Bool.and_false]; done) | simp_all), trivial⟩, unw_take 14 rfl rfl⟩
   refine wa_q 6 rfl (by kernel_rfl) (q_guard 5 rfl rfl rfl hg119 (q_fa fo_25_3 rfl)) hS rfl rfl ?_
   refine wa_q 7 rfl (by kernel_rfl) ((q_guard 5 rfl rfl rfl hg119 (q_ldb 3 Try.underlying23 rfl rfl rfl rfl)).mono fun _ h => h.1) hS rfl rfl ?_
   refine wa_q 8 rfl (by kernel_rfl) (q_guard 5 rfl rfl rfl hg119 (q_move rfl)) hS rfl rfl ?_
   have hkl6 : kk < l_a_2.length := by have := of_decide_eq_false hg119; omega
   refine wa_ixSG (j := kk) 5 rfl rfl rfl hg119 9 hS (fun _ h => h.1.rd (i := 1) rfl) rfl (by kernel_rfl) Try.underlying23 rfl (ixe (by omega)) (getD_at (d := (Arc.mk 0 0 0 0)) hkl6) rfl (fun b123 o123 p123 => ?_)
   refine wa_q 10 rfl (by kernel_rfl) (q_guard 5 rfl rfl rfl hg119 (q_ldp p123 rfl rfl)) hS rfl rfl ?_
   refine wa_q 11 rfl (by kernel_rfl) ((q_guard 5 rfl rfl rfl hg119 (q_ldbA 0 Try.underlying50 rfl sz50 rfl rfl rfl rfl)).mono fun _ h => h.1) hS rfl rfl ?_
   refine wa_q 12 rfl (by kernel_rfl) (q_guard 5 rfl rfl rfl hg119 (q_neqK QArcE (l_a_2.getD kk (Arc.mk 0 0 0 0)) (arcN t x2) rfl rfl rfl)) hS rfl rfl ?_
   refine wa_q 13 rfl (by kernel_rfl) (q_pickF rfl hg119 rfl) hS rfl rfl ?_
   refine wa_done (by kernel_rfl) ?_
   exact ⟨(), M, ⟨(show some (Value.bool (!decide ((l_a_2.getD kk (Arc.mk 0 0 0 0)) = (arcN t x2)))) = some (Value.bool ((decide ((kk : Int) = (l_a_2.length : Int))) || (!decide ((l_a_2.getD kk (Arc.mk 0 0 0 0)) = (arcN t x2))))) from by first | (simp only [hg119, Bool.true_or, Bool.false_or, Bool.true_and, Bool.false_and, Bool.or_true, Bool.or_false, Bool.and_true, Bool.and_false]; done) | simp_all), trivial⟩, unw_take 14 rfl rfl⟩
  rintro _ jr26 w35 M
  refine wc_cond rfl (fun ht127 => ?_) (fun ht127 => ?_)
  ·obtain ⟨I9, M, hI9, Rz⟩ := M.frzRow 1 rfl
   have hoI9 := M.old
   refine wc_join (α := Heap × SV) [128, 129, 130, 131, 132, 133, 134, 135, 136, 137, 138, 139, 140, 141, 142] (fun ((I8, u141) : Heap × SV) => []) (fun ((I8, u141) : Heap × SV) w' => hle I9 I8 ∧ Mem w I I8 (row EArc (sv u141) ([] ++ l_a_2.take kk ++ [(arcN t x2)] ++ l_a_2.drop kk) :: box b8 50 [.int .i64 (rk (kpS t) x2.src.toNat : Int), .int .i64 (rk (kpS t) x2.dst.toNat : Int), .int .i32 x2.inp, .int .i32 x2.out] :: row EInt (sv u_f_0) l_f_0 :: box b5 25 [.int .i64 (rk (kpS t) m : Int), .int .i64 (rk (kpS t) t.start.toNat : Int), sv u_f_0, sv u141] :: row EInt (sv u21) l_21_0 :: box b2 25 [.int .i64 0, .int .i64 0, .slice none 0 0, .slice none 0 0] :: box b1 25 [.int .i64 t.states, .int .i64 t.start, sv fu1, sv au1] :: []) w') ?_ ?_
   ·refine wc_draws (fun w' => Mem w I I9 (box b8 50 [.int .i64 (rk (kpS t) x2.src.toNat : Int), .int .i64 (rk (kpS t) x2.dst.toNat : Int), .int .i32 x2.inp, .int .i32 x2.out] :: row EInt (sv u_f_0) l_f_0 :: box b5 25 [.int .i64 (rk (kpS t) m : Int), .int .i64 (rk (kpS t) t.start.toNat : Int), sv u_f_0, sv u_a_2] :: row EInt (sv u21) l_21_0 :: box b2 25 [.int .i64 0, .int .i64 0, .slice none 0 0, .slice none 0 0] :: box b1 25 [.int .i64 t.states, .int .i64 t.start, sv fu1, sv au1] :: []) w' ∧ True) [15] fol ?_
    replace M := M.drew
    have hS := (⟨M, trivial⟩ : _ ∧ _)
    refine wa_q 1 rfl (by kernel_rfl) (q_fa fo_25_3 rfl) hS rfl rfl ?_
    refine wa_q 2 rfl (by kernel_rfl) ((q_ldb 2 Try.underlying23 rfl rfl rfl rfl).mono fun _ h => h.1) hS rfl rfl ?_
    refine wa_q 3 rfl (by kernel_rfl) (q_move rfl) hS rfl rfl ?_
    have R132 := rdTake (k := kk) Rz hkk.1
    refine wa_q 4 rfl (by kernel_rfl) (q_takeV (E := EArc) (k := kk) Try.underlying23 rfl rfl (Nat.le_trans hkk.1 (rd_cap3 Rz))) hS rfl rfl ?_
    refine wa_q 6 rfl (by kernel_rfl) ((q_ldbA 0 Try.underlying50 rfl sz50 rfl rfl rfl rfl).mono fun _ h => h.1) hS rfl rfl ?_
    refine wa_q 9 rfl (by kernel_rfl) (q_fa fo_25_3 rfl) hS rfl rfl ?_
    refine wa_q 10 rfl (by kernel_rfl) ((q_ldb 2 Try.underlying23 rfl rfl rfl rfl).mono fun _ h => h.1) hS rfl rfl ?_
    refine wa_q 11 rfl (by kernel_rfl) (q_move rfl) hS rfl rfl ?_
    have R140 := rdCut (k := kk) Rz hkk.1
    refine wa_q 12 rfl (by kernel_rfl) (q_cutV (E := EArc) (k := kk) Try.underlying23 rfl rfl (by rw [rd_len Rz]; exact hkk.1)) hS rfl rfl ?_
    refine wa_es [0, 7] (by kernel_rfl) (by decide) ⟨?_, ?_, trivial⟩
    ·refine one_e 0 rfl (e_bsR (E := EArc) (xs := []) M (bs_23_0) trivial rfl rfl (by decide)) rfl rfl ?_
     rintro _ w36 ⟨u128, rfl, M⟩
     have hS := (⟨(M.drop 0), trivial⟩ : _ ∧ _)
     refine ⟨fun _ => hS, ?_⟩
     refine wa_es [5, 7] (by kernel_rfl) (by decide) ⟨?_, ?_, trivial⟩
     ·refine one_e 5 rfl (e_app 0 M rfl R132 Try.underlying23 rfl rfl (by show (_ + _) * 24 ≤ _; rw [List.length_take, List.length_nil]; omega)) rfl rfl ?_
      rintro _ w37 ⟨u133, rfl, M⟩
      try simp only [sC0, sCS] at M
      have hS := (⟨(M.drop 0), trivial⟩ : _ ∧ _)
      refine ⟨fun _ => hS, ?_⟩
      refine wa_e 7 rfl (by kernel_rfl) (e_bsI (E := EArc) (xs := [(arcN t x2)]) M (bs_23_1 _ _ _ _) ⟨⟨rfl, rfl⟩, trivial⟩ rfl rfl (by decide)) rfl rfl ?_
      rintro _ w38 ⟨u135, J135, rfl, hJ135, R135, M⟩
      have hoJ135 := M.old
      have hS := (⟨((M.less hJ135 hoI9).drop 0), trivial⟩ : _ ∧ _)
      refine ⟨fun _ => hS, ?_⟩
      refine wa_e 8 rfl (by kernel_rfl) (e_app 0 M rfl R135 Try.underlying23 rfl rfl (by show (_ + 1) * 24 ≤ _; rw [List.length_append, List.length_take, List.length_nil]; omega)) rfl rfl ?_
      rintro _ w39 ⟨u136, rfl, M⟩
      try simp only [sC0, sCS] at M
      have hS := (⟨((M.less hJ135 hoI9).drop 0), trivial⟩ : _ ∧ _)
      refine ⟨fun _ => hS, ?_⟩
      replace M := M.less hJ135 hoI9
      refine wa_e 13 rfl (by kernel_rfl) (e_app 0 M rfl R140 Try.underlying23 rfl rfl (by show (_ + _) * 24 ≤ _; simp only [List.length_append, List.length_take, List.length_nil, List.length_drop, List.length_cons]; omega)) rfl rfl ?_
      rintro _ w40 ⟨u141, rfl, M⟩
      try simp only [sC0, sCS] at M
      have hS := (⟨(M.drop 0), trivial⟩ : _ ∧ _)
      refine ⟨fun _ => hS, ?_⟩
      refine wa_q 14 rfl (by kernel_rfl) (q_fa fo_25_3 rfl) hS rfl rfl ?_
      refine wa_e0 15 rfl (by kernel_rfl) (e_stb 3 M rfl rfl rfl sz23 rfl rfl) rfl ?_
      intro _ w41 M
      try simp only [sC0, sCS] at M
      refine ⟨nofun, ?_⟩
      refine wa_done (by kernel_rfl) ?_
      exact ⟨(I9, u141), ⟨hle.refl _, M⟩, trivial, unw_take 15 rfl rfl⟩
     ·refine one_e 7 rfl (e_bsI (E := EArc) (xs := [(arcN t x2)]) M (bs_23_1 _ _ _ _) ⟨⟨rfl, rfl⟩, trivial⟩ rfl rfl (by decide)) rfl rfl ?_
      rintro _ w42 ⟨u135, J135, rfl, hJ135, R135, M⟩
      have hoJ135 := M.old
      have hS := (⟨((M.less hJ135 hoI9).drop 0), trivial⟩ : _ ∧ _)
      refine ⟨fun _ => hS, ?_⟩
      refine wa_e 5 rfl (by kernel_rfl) (e_app 0 M rfl (R132.mono hJ135) Try.underlying23 rfl rfl (by show (_ + _) * 24 ≤ _; rw [List.length_take, List.length_nil]; omega)) rfl rfl ?_
      rintro _ w43 ⟨u133, rfl, M⟩
      try simp only [sC0, sCS] at M
      have hS := (⟨((M.less hJ135 hoI9).drop 0), trivial⟩ : _ ∧ _)
      refine ⟨fun _ => hS, ?_⟩
      refine wa_e 8 rfl (by kernel_rfl) (e_app 0 M rfl R135 Try.underlying23 rfl rfl (by show (_ + 1) * 24 ≤ _; rw [List.length_append, List.length_take, List.length_nil]; omega)) rfl rfl ?_
      rintro _ w44 ⟨u136, rfl, M⟩
      try simp only [sC0, sCS] at M
      have hS := (⟨((M.less hJ135 hoI9).drop 0), trivial⟩ : _ ∧ _)
      refine ⟨fun _ => hS, ?_⟩
      replace M := M.less hJ135 hoI9
      refine wa_e 13 rfl (by kernel_rfl) (e_app 0 M rfl R140 Try.underlying23 rfl rfl (by show (_ + _) * 24 ≤ _; simp only [List.length_append, List.length_take, List.length_nil, List.length_drop, List.length_cons]; omega)) rfl rfl ?_
      rintro _ w45 ⟨u141, rfl, M⟩
      try simp only [sC0, sCS] at M
      have hS := (⟨(M.drop 0), trivial⟩ : _ ∧ _)
      refine ⟨fun _ => hS, ?_⟩
      refine wa_q 14 rfl (by kernel_rfl) (q_fa fo_25_3 rfl) hS rfl rfl ?_
      refine wa_e0 15 rfl (by kernel_rfl) (e_stb 3 M rfl rfl rfl sz23 rfl rfl) rfl ?_
      intro _ w46 M
      try simp only [sC0, sCS] at M
      refine ⟨nofun, ?_⟩
      refine wa_done (by kernel_rfl) ?_
      exact ⟨(I9, u141), ⟨hle.refl _, M⟩, trivial, unw_take 15 rfl rfl⟩
    ·refine one_e 7 rfl (e_bsI (E := EArc) (xs := [(arcN t x2)]) M (bs_23_1 _ _ _ _) ⟨⟨rfl, rfl⟩, trivial⟩ rfl rfl (by decide)) rfl rfl ?_
     rintro _ w47 ⟨u135, J135, rfl, hJ135, R135, M⟩
     have hoJ135 := M.old
     have hS := (⟨(M.less hJ135 hoI9), trivial⟩ : _ ∧ _)
     refine ⟨fun _ => hS, ?_⟩
     refine wa_e 0 rfl (by kernel_rfl) (e_bsR (E := EArc) (xs := []) M (bs_23_0) trivial rfl rfl (by decide)) rfl rfl ?_
     rintro _ w48 ⟨u128, rfl, M⟩
     have hS := (⟨((M.less hJ135 hoI9).drop 0), trivial⟩ : _ ∧ _)
     refine ⟨fun _ => hS, ?_⟩
     refine wa_e 5 rfl (by kernel_rfl) (e_app 0 M rfl (R132.mono hJ135) Try.underlying23 rfl rfl (by show (_ + _) * 24 ≤ _; rw [List.length_take, List.length_nil]; omega)) rfl rfl ?_
     rintro _ w49 ⟨u133, rfl, M⟩
     try simp only [sC0, sCS] at M
     have hS := (⟨((M.less hJ135 hoI9).drop 0), trivial⟩ : _ ∧ _)
     refine ⟨fun _ => hS, ?_⟩
     refine wa_e 8 rfl (by kernel_rfl) (e_app 0 M rfl R135 Try.underlying23 rfl rfl (by show (_ + 1) * 24 ≤ _; rw [List.length_append, List.length_take, List.length_nil]; omega)) rfl rfl ?_
     rintro _ w50 ⟨u136, rfl, M⟩
     try simp only [sC0, sCS] at M
     have hS := (⟨((M.less hJ135 hoI9).drop 0), trivial⟩ : _ ∧ _)
     refine ⟨fun _ => hS, ?_⟩
     replace M := M.less hJ135 hoI9
     refine wa_e 13 rfl (by kernel_rfl) (e_app 0 M rfl R140 Try.underlying23 rfl rfl (by show (_ + _) * 24 ≤ _; simp only [List.length_append, List.length_take, List.length_nil, List.length_drop, List.length_cons]; omega)) rfl rfl ?_
     rintro _ w51 ⟨u141, rfl, M⟩
     try simp only [sC0, sCS] at M
     have hS := (⟨(M.drop 0), trivial⟩ : _ ∧ _)
     refine ⟨fun _ => hS, ?_⟩
     refine wa_q 14 rfl (by kernel_rfl) (q_fa fo_25_3 rfl) hS rfl rfl ?_
     refine wa_e0 15 rfl (by kernel_rfl) (e_stb 3 M rfl rfl rfl sz23 rfl rfl) rfl ?_
     intro _ w52 M
     try simp only [sC0, sCS] at M
     refine ⟨nofun, ?_⟩
     refine wa_done (by kernel_rfl) ?_
     exact ⟨(I9, u141), ⟨hle.refl _, M⟩, trivial, unw_take 15 rfl rfl⟩
   rintro ⟨I8, u141⟩ jr27 w53 ⟨hI8, M⟩
   have hoI8 := M.old
   refine wc_region ?_
   refine wl_mv M rfl rfl ?_
   refine wl_m M (q_add rfl rfl (IntWalk.i64_in _ (by omega))) rfl rfl ?_
   refine wl_as M rfl rfl ?_
   refine wl_nil ?_
   replace M := M.less (hle.trans (hle.trans hI6 hI9) hI8) hoJ18
   replace M := M.drop 1
   refine ⟨(k2 + 1, u141, ([] ++ l_a_2.take kk ++ [(arcN t x2)] ++ l_a_2.drop kk)), ?_, ⟨(by omega), (by rw [take_flat hx2, arcS_yes ht85, ← insert_canon (x := (arcN t x2)) (k := kk) (by rw [← haa]; exact hkk.1) (by rw [← haa]; exact above_of hsr (arc3_stop hkk.1 ht111 ht127)) (by rw [← haa]; exact hkk.2), ← haa, List.nil_append]), M⟩, ⟨rfl, trivial⟩, unw_look rfl (unw_hav rfl (unw_look rfl (unw_hav rfl (unw_look rfl (unw_hav rfl (unw_look rfl (unw_hav rfl (unw_look rfl (unw_hav rfl (unw_look rfl (unw_hav rfl (unw_look rfl unw_base))))))))))))⟩
   show t.arcs.length - (k2 + 1) < t.arcs.length - k2
   omega
  refine wc_skip ?_
  refine wc_region ?_
  refine wl_mv M rfl rfl ?_
  refine wl_m M (q_add rfl rfl (IntWalk.i64_in _ (by omega))) rfl rfl ?_
  refine wl_as M rfl rfl ?_
  refine wl_nil ?_
  replace M := M.less hI6 hoJ18
  replace M := M.drop 0
  refine ⟨(k2 + 1, u_a_2, l_a_2), ?_, ⟨(by omega), (by rw [take_flat hx2, arcS_yes ht85, ← canon_has (by rw [← haa]; exact arc3_same hkk.1 ht127)]; exact haa), M⟩, ⟨rfl, trivial⟩, unw_look rfl (unw_hav rfl (unw_look rfl (unw_hav rfl (unw_look rfl (unw_hav rfl (unw_look rfl (unw_hav rfl (unw_look rfl (unw_hav rfl (unw_look rfl unw_base))))))))))⟩
  show t.arcs.length - (k2 + 1) < t.arcs.length - k2
  omega
 have hke2 : k2 = t.arcs.length := by omega
 rw [hke2, List.take_length] at haa
 refine wc_exit rfl ?_
 refine wc_seq ?_
 refine wc_region ?_
 refine wl_m M (q_ldbA 2 Try.underlying25 rfl sz25 rfl rfl rfl rfl) rfl rfl ?_
 refine wl_e0 (e_stW 4 M rfl rfl rfl sz25 rfl rfl) rfl ?_
 intro _ w54 M
 try simp only [sC0, sCS] at M
 refine wl_nil ?_
 refine wc_ret ?_
 obtain ⟨K1, M, hK1, Rk1⟩ := M.frzRow 1 rfl
 obtain ⟨K2, M, hK2, Rk2⟩ := M.frzRow 0 rfl
 rw [hff] at Rk1; rw [haa] at Rk2
 have hrd : (TrimP t).rd K2 (.agg ([.int .i64 (rk (kpS t) m : Int), .int .i64 (rk (kpS t) t.start.toNat : Int), sv u_f_0, sv u_a_2] : List Value).toArray) := by
   rw [trim3_of hv hst hkst]; exact ⟨_, _, rfl, Rk1.mono hK2, Rk2⟩
 have hld := load_boxA (o := 0) (b := b2) (T0 := 25) (cs := [.int .i64 (rk (kpS t) m : Int), .int .i64 (rk (kpS t) t.start.toNat : Int), sv u_f_0, sv u_a_2]) (vs := [.int .i64 (rk (kpS t) m : Int), .int .i64 (rk (kpS t) t.start.toNat : Int), sv u_f_0, sv u_a_2]) M 2 Try.underlying25 rfl sz25 rfl rfl rfl
 exact outc rfl rfl hld ⟨_, K2, rfl, (M.grow : Grow w I _ K2), hrd⟩
end Go.Proofs.Ytfepjcmjkaolgaa.G
