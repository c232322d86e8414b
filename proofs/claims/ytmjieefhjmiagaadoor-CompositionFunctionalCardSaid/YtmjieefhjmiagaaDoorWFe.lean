/- Walks of the program's functions. -/
import Derived.Test.YtmjieefhjmiagaaDoorGFnr
import Derived.Test.YtmjieefhjmiagaaDoorWA
set_option linter.all false
namespace Go.Proofs.YtmjieefhjmiagaaDoor.G
open Go Go.RowKit
set_option maxRecDepth 4000 in
set_option maxHeartbeats 1000000 in
theorem growR_c {t : Tra} {m : Nat} (ht : t.Ok m) {l : List Int} (hl : l.length ≤ 40) {F : List Bool} (hFl : F.length = m * (l.length + 1)) (bk : Bool) {v1 : Value} {u uF : SV} {I : Heap} {w : World} (hI : hle I (hp w)) (R1 : t.rd I v1) (Rl : rdSl ERune I (sv u) l) (RF : rdSl EBool I (sv uF) F) :
    Calls A 81 #[v1, sv u, sv uF, .bool bk] w (Ret w I fun r I' => ∃ G : List Bool, rdSl EBool I' r G ∧ GrowOk (gD t l bk) F G) := by
 obtain ⟨fu1, au1, rfl, Rf1, Ra1⟩ := R1
 have hU : m * (l.length + 1) ≤ 512 * 41 := Nat.mul_le_mul ht.le (by omega)
 have hal := ht.alen
 have M := Mem.start hI
 refine enter Tryd.func81 rfl 98 Tryd.ntmps81 [_, _, _, _] rfl ?_
 refine wc_seq ?_
 refine wc_region ?_
 refine wl_e (e_box M rfl) rfl rfl ?_
 rintro _ w1 ⟨b4, rfl, M⟩
 refine wl_as M rfl rfl ?_
 refine wl_nil ?_
 refine wc_seq ?_
 refine wc_region ?_
 refine wl_mv M rfl rfl ?_
 refine wl_m M (q_lenR Rl Tryd.underlying84 rfl) rfl rfl ?_
 refine wl_m M (q_add (z := ((l.length + 1 : Nat) : Int)) rfl rfl (by rw [show (l.length : Int) + 1 = ((l.length + 1 : Nat) : Int) by simp]; exact IntWalk.i64_in _ (by omega))) rfl rfl ?_
 refine wl_as M rfl rfl ?_
 refine wl_nil ?_
 refine wc_seq ?_
 refine wc_region ?_
 refine wl_e (e_bsR (E := EBool) (xs := []) M (bs_108_0) trivial rfl rfl (by decide)) rfl rfl ?_
 rintro _ w2 ⟨u21, rfl, M⟩
 refine wl_mv M rfl rfl ?_
 refine wl_e (e_app 0 M rfl RF Tryd.underlying108 rfl rfl (by show (_ + _) * 1 ≤ _; simp only [List.length_nil]; omega)) rfl rfl ?_
 rintro _ w3 ⟨u23, rfl, M⟩
 simp only [sC0, sCS] at M
 refine wl_as M rfl rfl ?_
 refine wl_nil ?_
 refine wc_seq ?_
 refine wc_seq ?_
 refine wc_region ?_
 refine wl_as M rfl rfl ?_
 refine wl_nil ?_
 refine wc_block ?_
 refine wc_loop (α := Bool × (List Bool)) [11, 13, 14, 15, 16, 17, 24, 25, 26, 27, 28, 29, 30, 31, 32, 33, 34, 35, 36, 37, 38, 39, 40, 41, 42, 43, 44, 45, 46, 47, 48, 49, 50, 51, 52, 53, 54, 55, 56, 57, 58, 59, 60, 61, 62, 63, 64, 65, 66, 67, 68, 69, 70, 71, 72, 73, 74, 75, 76, 77, 78, 79, 80, 81, 82, 83, 84, 85, 86, 87, 88, 89, 90, 91, 92, 93, 94, 95, 96] (fun ((ag0, l_21_0) : Bool × (List Bool)) => [(11, .bool ag0)])
   (fun ((ag0, l_21_0) : Bool × (List Bool)) w' => (l_21_0.length = F.length ∧ (∀ s, on l_21_0 s → gR (gD t l bk) F s) ∧ (∀ s, on F s → on l_21_0 s)) ∧ (ag0 = false → ∀ e ∈ gD t l bk, on l_21_0 e.1 → on l_21_0 e.2) ∧ Mem w I I (row EBool (sv u23) l_21_0 :: box b4 25 [.int .i64 t.states, .int .i64 t.start, sv fu1, sv au1] :: []) w')
   (fun ((ag0, l_21_0) : Bool × (List Bool)) => 2 * (l_21_0.count false) + ag0.toNat) (true, [] ++ F) ⟨rfl, trivial⟩ ?_ ?_
 ·refine ⟨⟨by simp, fun s hs => gR_base (by simpa using hs), fun s hs => by simpa using hs⟩, nofun, ?_⟩
  exact M
 rintro ⟨ag0, l_21_0⟩ jj0 w4 ⟨h2, h3, M⟩
 refine wc_seq ?_
 refine wc_seq ?_
 refine wc_region ?_
 refine wl_mv M rfl rfl ?_
 refine wl_nil ?_
 refine wc_cond rfl (fun ht24 => ?_) (fun ht24 => ?_)
 ·refine wc_skip ?_
  refine wc_block ?_
  refine wc_seq ?_
  refine wc_region ?_
  refine wl_as M rfl rfl ?_
  refine wl_nil ?_
  refine wc_seq ?_
  refine wc_region ?_
  refine wl_m M (q_fa fo_25_3 rfl) rfl rfl ?_
  refine wl_m M (q_ldb 1 Tryd.underlying23 rfl rfl rfl rfl) rfl rfl ?_
  refine wl_m M (q_lenR Ra1 Tryd.underlying23 rfl) rfl rfl ?_
  refine wl_mv M rfl rfl ?_
  refine wl_nil ?_
  refine wc_block ?_
  refine wc_loop (α := Nat × Bool × (List Bool)) [11, 13, 14, 15, 16, 17, 28, 29, 30, 31, 32, 33, 34, 35, 36, 37, 38, 39, 40, 41, 42, 43, 44, 45, 46, 47, 48, 49, 50, 51, 52, 53, 54, 55, 56, 57, 58, 59, 60, 61, 62, 63, 64, 65, 66, 67, 68, 69, 70, 71, 72, 73, 74, 75, 76, 77, 78, 79, 80, 81, 82, 83, 84, 85, 86, 87, 88, 89, 90, 91, 92, 93, 94, 95, 96] (fun ((k2, ag2, l_21_2) : Nat × Bool × (List Bool)) => [(11, .bool ag2), (28, .int .i64 (k2 : Int))])
    (fun ((k2, ag2, l_21_2) : Nat × Bool × (List Bool)) w' => (k2 ≤ t.arcs.length) ∧ (PassN (gR (gD t l bk) F) (on F) F.length l_21_0 ((t.arcs.take k2).flatMap (gA l bk)) l_21_2 ag2) ∧ Mem w I I (row EBool (sv u23) l_21_2 :: box b4 25 [.int .i64 t.states, .int .i64 t.start, sv fu1, sv au1] :: []) w')
    (fun ((k2, ag2, l_21_2) : Nat × Bool × (List Bool)) => t.arcs.length - k2) (0, false, l_21_0) ⟨rfl, rfl, trivial⟩ ?_ ?_
  ·refine ⟨Nat.zero_le _, (PassN.start h2.1 h2.2.1 h2.2.2), ?_⟩
   exact M
  rintro ⟨k2, ag2, l_21_2⟩ jj2 w5 ⟨hk2, hp, M⟩
  refine wc_seq ?_
  refine wc_region ?_
  refine wl_m M (q_lss rfl rfl) rfl rfl ?_
  refine wl_nil ?_
  refine wc_seq ?_
  refine wc_dec rfl (fun ht29 => ?_) (fun ht29 => ?_)
  ·obtain ⟨x2, hx2⟩ : ∃ x_, t.arcs[k2]? = some x_ := ⟨_, List.getElem?_eq_getElem (by omega)⟩
   have hll2 := (Ra1).len_le
   have hxm := List.mem_of_getElem? hx2
   have hxr := ht.arcs x2 hxm
   have hsr : ((x2.src.toNat : Nat) : Int) = x2.src := Int.toNat_of_nonneg hxr.1.1
   have hdr : ((x2.dst.toNat : Nat) : Int) = x2.dst := Int.toNat_of_nonneg hxr.2.1
   have hs1 : x2.src.toNat < m := by omega
   have hd1 : x2.dst.toNat < m := by omega
   have hm512 := ht.le
   have hsb : x2.src.toNat * (l.length + 1) ≤ 512 * 41 := Nat.mul_le_mul (by omega) (by omega)
   have hdb : x2.dst.toNat * (l.length + 1) ≤ 512 * 41 := Nat.mul_le_mul (by omega) (by omega)
   refine wc_skip ?_
   refine wc_seq ?_
   refine wc_block ?_
   refine wc_seq ?_
   refine wc_region ?_
   refine wl_ix (j := k2) M Ra1 Tryd.underlying23 rfl rfl hx2 rfl (fun b30 o30 p30 => ?_)
   refine wl_m M (q_ldp p30 rfl rfl) rfl rfl ?_
   refine wl_e (e_alloc M z48) rfl rfl ?_
   rintro _ w6 ⟨b13, rfl, M⟩
   refine wl_e0 (e_stW 0 M rfl rfl rfl sz48 rfl rfl) rfl ?_
   intro _ w7 M
   simp only [sC0, sCS] at M
   refine wl_nil ?_
   refine wc_seq ?_
   refine wc_seq ?_
   refine wc_join (α := Unit) [32, 33, 34, 35, 36, 37, 38] (fun _ => [(38, .bool ((!bk) && (!decide (x2.out = 0))))]) (fun _ w' => Mem w I I (box b13 48 [.int .i64 x2.src, .int .i64 x2.dst, .int .i32 x2.inp, .int .i32 x2.out] :: row EBool (sv u23) l_21_2 :: box b4 25 [.int .i64 t.states, .int .i64 t.start, sv fu1, sv au1] :: []) w') ?_ ?_
   ·refine wc_region ?_
    refine wl_mv M rfl rfl ?_
    refine wl_m M (q_not rfl) rfl rfl ?_
    refine wl_mv M rfl rfl ?_
    rcases Bool.eq_false_or_eq_true (!bk) with hg34 | hg34
    ·refine wl_m M (q_guard 2 rfl rfl rfl hg34 (q_fa fo_48_3 rfl)) rfl rfl ?_
     refine wl_m M (q_guard 2 rfl rfl rfl hg34 (q_ldb 0 Tryd.underlying21 rfl rfl rfl rfl)) rfl rfl ?_
     refine wl_m M (q_guard 2 rfl rfl rfl hg34 (q_neq rfl rfl)) rfl rfl ?_
     refine wl_m M (q_pickT rfl hg34 rfl) rfl rfl ?_
     refine wl_nil ?_
     exact ⟨(), M, ⟨(show some (Value.bool (!decide (x2.out = 0))) = some (Value.bool ((!bk) && (!decide (x2.out = 0)))) from by first | (simp only [hg34, Bool.true_or, Bool.false_or, Bool.true_and, Bool.false_and, Bool.or_true, Bool.or_false, Bool.and_true, Bool.and_false]; done) | (simp_all; done) | (simp_all; omega)), trivial⟩, unw_take 7 rfl rfl⟩
    refine wl_m M (q_off 2 rfl rfl rfl hg34) rfl rfl ?_
    refine wl_m M (q_off 2 rfl rfl rfl hg34) rfl rfl ?_
    refine wl_m M (q_off 2 rfl rfl rfl hg34) rfl rfl ?_
    refine wl_m M (q_pickF rfl hg34 rfl) rfl rfl ?_
    refine wl_nil ?_
    exact ⟨(), M, ⟨(show some (Value.bool false) = some (Value.bool ((!bk) && (!decide (x2.out = 0)))) from by first | (simp only [hg34, Bool.true_or, Bool.false_or, Bool.true_and, Bool.false_and, Bool.or_true, Bool.or_false, Bool.and_true, Bool.and_false]; done) | (simp_all; done) | (simp_all; omega)), trivial⟩, unw_take 7 rfl rfl⟩
   rintro _ jr9 w8 M
   refine wc_cond rfl (fun ht38 => ?_) (fun ht38 => ?_)
   ·refine wc_exit rfl ?_
    refine wc_region ?_
    refine wl_m M (q_add rfl rfl (IntWalk.i64_in _ (by omega))) rfl rfl ?_
    refine wl_mv M rfl rfl ?_
    refine wl_nil ?_
    replace M := M.drop 0
    refine ⟨(k2 + 1, ag2, l_21_2), ?_, ⟨(by omega), (by rw [take_flat hx2, gA, if_pos ht38, List.append_nil]; exact hp), M⟩, ⟨rfl, rfl, trivial⟩, unw_look rfl (unw_hav rfl (unw_look rfl unw_base))⟩
    show t.arcs.length - (k2 + 1) < t.arcs.length - k2
    omega
   have hbo : bk = true ∨ x2.out = 0 := by cases bk <;> simp_all
   refine wc_skip ?_
   refine wc_seq ?_
   refine wc_region ?_
   refine wl_as M rfl rfl ?_
   refine wl_nil ?_
   refine wc_block ?_
   refine wc_loop (α := Nat × Bool × (List Bool)) [11, 14, 15, 16, 17, 39, 40, 41, 42, 43, 44, 45, 46, 47, 48, 49, 50, 51, 52, 53, 54, 55, 56, 57, 58, 59, 60, 61, 62, 63, 64, 65, 66, 67, 68, 69, 70, 71, 72, 73, 74, 75, 76, 77, 78, 79, 80, 81, 82, 83, 84, 85, 86, 87, 88, 89, 90, 91, 92, 93, 94, 95] (fun ((k4, ag4, l_21_4) : Nat × Bool × (List Bool)) => [(11, .bool ag4), (14, .int .i64 (k4 : Int))])
     (fun ((k4, ag4, l_21_4) : Nat × Bool × (List Bool)) w' => (k4 ≤ l.length + 1) ∧ (PassN (gR (gD t l bk) F) (on F) F.length l_21_0 ((t.arcs.take k2).flatMap (gA l bk) ++ (List.range k4).flatMap (gE l bk x2)) l_21_4 ag4) ∧ Mem w I I (box b13 48 [.int .i64 x2.src, .int .i64 x2.dst, .int .i32 x2.inp, .int .i32 x2.out] :: row EBool (sv u23) l_21_4 :: box b4 25 [.int .i64 t.states, .int .i64 t.start, sv fu1, sv au1] :: []) w')
     (fun ((k4, ag4, l_21_4) : Nat × Bool × (List Bool)) => l.length + 1 - k4) (0, ag2, l_21_2) ⟨rfl, rfl, trivial⟩ ?_ ?_
   ·refine ⟨Nat.zero_le _, (by simpa using hp), ?_⟩
    exact M
   rintro ⟨k4, ag4, l_21_4⟩ jj4 w9 ⟨hk4, hp4, M⟩
   refine wc_seq ?_
   refine wc_seq ?_
   refine wc_region ?_
   refine wl_mv M rfl rfl ?_
   refine wl_mv M rfl rfl ?_
   refine wl_m M (q_lss rfl rfl) rfl rfl ?_
   refine wl_nil ?_
   refine wc_dec rfl (fun ht41 => ?_) (fun ht41 => ?_)
   ·refine wc_skip ?_
    refine wc_seq ?_
    refine wc_block ?_
    refine wc_seq ?_
    refine wc_region ?_
    refine wl_mv M rfl rfl ?_
    refine wl_as M rfl rfl ?_
    refine wl_nil ?_
    refine wc_seq ?_
    refine wc_seq ?_
    refine wc_region ?_
    refine wl_m M (q_fa fo_48_2 rfl) rfl rfl ?_
    refine wl_m M (q_ldb 0 Tryd.underlying21 rfl rfl rfl rfl) rfl rfl ?_
    refine wl_m M (q_neq rfl rfl) rfl rfl ?_
    refine wl_nil ?_
    refine wc_cond rfl (fun ht47 => ?_) (fun ht47 => ?_)
    ·refine wc_region ?_
     refine wl_mv M rfl rfl ?_
     refine wl_m M (q_add rfl rfl (IntWalk.i64_in _ (by omega))) rfl rfl ?_
     refine wl_as M rfl rfl ?_
     refine wl_nil ?_
     refine wc_seq ?_
     refine wc_seq ?_
     refine wc_join (α := Unit) [50, 51, 52, 53, 54, 55, 56, 57, 58, 59, 60, 61, 62, 63, 64, 65, 66] (fun _ => [(66, .bool ((decide (((l.length + 1 : Nat) : Int) ≤ ((k4 : Int) + 1))) || ((!decide (x2.inp = 0)) && (!decide ((l.getD k4 0) = x2.inp)))))]) (fun _ w' => Mem w I I (box b13 48 [.int .i64 x2.src, .int .i64 x2.dst, .int .i32 x2.inp, .int .i32 x2.out] :: row EBool (sv u23) l_21_4 :: box b4 25 [.int .i64 t.states, .int .i64 t.start, sv fu1, sv au1] :: []) w') ?_ ?_
     ·refine wc_draws (fun w' => Mem w I I (box b13 48 [.int .i64 x2.src, .int .i64 x2.dst, .int .i32 x2.inp, .int .i32 x2.out] :: row EBool (sv u23) l_21_4 :: box b4 25 [.int .i64 t.states, .int .i64 t.start, sv fu1, sv au1] :: []) w' ∧ True) [] fol ?_
      replace M := M.drew
      have hS := (⟨M, trivial⟩ : _ ∧ _)
      refine wa_q 0 rfl (by kernel_rfl) (q_move rfl) hS rfl rfl ?_
      refine wa_q 1 rfl (by kernel_rfl) (q_move rfl) hS rfl rfl ?_
      refine wa_q 2 rfl (by kernel_rfl) (q_geq rfl rfl) hS rfl rfl ?_
      refine wa_q 3 rfl (by kernel_rfl) (q_move rfl) hS rfl rfl ?_
      rcases Bool.eq_false_or_eq_true (decide (((l.length + 1 : Nat) : Int) ≤ ((k4 : Int) + 1))) with hg53 | hg53
      ·refine wa_q 4 rfl (by kernel_rfl) (q_off 3 rfl rfl rfl hg53) hS rfl rfl ?_
       refine wa_q 5 rfl (by kernel_rfl) (q_off 3 rfl rfl rfl hg53) hS rfl rfl ?_
       refine wa_q 6 rfl (by kernel_rfl) (q_off 3 rfl rfl rfl hg53) hS rfl rfl ?_
       refine wa_q 7 rfl (by kernel_rfl) (q_off 3 rfl rfl rfl hg53) hS rfl rfl ?_
       refine wa_q 8 rfl (by kernel_rfl) (q_offu 7 rfl rfl rfl) hS rfl rfl ?_
       refine wa_q 9 rfl (by kernel_rfl) (q_offu 7 rfl rfl rfl) hS rfl rfl ?_
       refine wa_q 10 rfl (by kernel_rfl) (q_offu 7 rfl rfl rfl) hS rfl rfl ?_
       refine wa_q 11 rfl (by kernel_rfl) (q_offu 7 rfl rfl rfl) hS rfl rfl ?_
       refine wa_q 12 rfl (by kernel_rfl) (q_offu 7 rfl rfl rfl) hS rfl rfl ?_
       refine wa_q 13 rfl (by kernel_rfl) (q_offu 7 rfl rfl rfl) hS rfl rfl ?_
       refine wa_q 14 rfl (by kernel_rfl) (q_offu 7 rfl rfl rfl) hS rfl rfl ?_
       refine wa_q 15 rfl (by kernel_rfl) (q_off 3 rfl rfl rfl hg53) hS rfl rfl ?_
       refine wa_q 16 rfl (by kernel_rfl) (q_pickT rfl hg53 rfl) hS rfl rfl ?_
       refine wa_done (by kernel_rfl) ?_
       exact ⟨(), M, ⟨(show some (Value.bool true) = some (Value.bool ((decide (((l.length + 1 : Nat) : Int) ≤ ((k4 : Int) + 1))) || ((!decide (x2.inp = 0)) && (!decide ((l.getD k4 0) = x2.inp))))) from by first | (simp only [hg53, Bool.true_or, Bool.false_or, Bool.true_and, Bool.false_and, Bool.or_true, Bool.or_false, Bool.and_true, Bool.and_false]; done) | (simp_all; done) | (simp_all; omega)), trivial⟩, unw_take 17 rfl rfl⟩
      refine wa_q 4 rfl (by kernel_rfl) (q_guard 3 rfl rfl rfl hg53 (q_fa fo_48_2 rfl)) hS rfl rfl ?_
      refine wa_q 5 rfl (by kernel_rfl) ((q_guard 3 rfl rfl rfl hg53 (q_ldb 0 Tryd.underlying21 rfl rfl rfl rfl)).mono fun _ h => h.1) hS rfl rfl ?_
      refine wa_q 6 rfl (by kernel_rfl) (q_guard 3 rfl rfl rfl hg53 (q_neq rfl rfl)) hS rfl rfl ?_
      refine wa_q 7 rfl (by kernel_rfl) (q_guard 3 rfl rfl rfl hg53 (q_move rfl)) hS rfl rfl ?_
      rcases Bool.eq_false_or_eq_true (!decide (x2.inp = 0)) with hg57 | hg57
      ·refine wa_q 8 rfl (by kernel_rfl) (q_guard 7 rfl rfl rfl hg57 (q_move rfl)) hS rfl rfl ?_
       refine wa_q 9 rfl (by kernel_rfl) (q_guard 7 rfl rfl rfl hg57 (q_move rfl)) hS rfl rfl ?_
       have hkl := ht47
       have hkl9 : k4 < l.length := by have := of_decide_eq_false hg53; omega
       refine wa_ixSG (j := k4) 7 rfl rfl rfl hg57 10 hS (fun _ h => Rl.mono h.1.imm) rfl (by kernel_rfl) Tryd.underlying84 rfl rfl (getD_at (d := 0) hkl9) rfl (fun b60 o60 p60 => ?_)
       refine wa_q 11 rfl (by kernel_rfl) (q_guard 7 rfl rfl rfl hg57 (q_ldp p60 rfl rfl)) hS rfl rfl ?_
       refine wa_q 12 rfl (by kernel_rfl) (q_guard 7 rfl rfl rfl hg57 (q_fa fo_48_2 rfl)) hS rfl rfl ?_
       refine wa_q 13 rfl (by kernel_rfl) ((q_guard 7 rfl rfl rfl hg57 (q_ldb 0 Tryd.underlying21 rfl rfl rfl rfl)).mono fun _ h => h.1) hS rfl rfl ?_
       refine wa_q 14 rfl (by kernel_rfl) (q_guard 7 rfl rfl rfl hg57 (q_neq rfl rfl)) hS rfl rfl ?_
       refine wa_q 15 rfl (by kernel_rfl) (q_guard 3 rfl rfl rfl hg53 (q_pickT rfl hg57 rfl)) hS rfl rfl ?_
       refine wa_q 16 rfl (by kernel_rfl) (q_pickF rfl hg53 rfl) hS rfl rfl ?_
       refine wa_done (by kernel_rfl) ?_
       exact ⟨(), M, ⟨(show some (Value.bool (!decide ((l.getD k4 0) = x2.inp))) = some (Value.bool ((decide (((l.length + 1 : Nat) : Int) ≤ ((k4 : Int) + 1))) || ((!decide (x2.inp = 0)) && (!decide ((l.getD k4 0) = x2.inp))))) from by first | (simp only [hg53, hg57, Bool.true_or, Bool.false_or, Bool.true_and, Bool.false_and, Bool.or_true, Bool.or_false, Bool.and_true, Bool.and_false]; done) | (simp_all; done) | (simp_all; omega)), trivial⟩, unw_take 17 rfl rfl⟩
      refine wa_q 8 rfl (by kernel_rfl) (q_off 7 rfl rfl rfl hg57) hS rfl rfl ?_
      refine wa_q 9 rfl (by kernel_rfl) (q_off 7 rfl rfl rfl hg57) hS rfl rfl ?_
      refine wa_q 10 rfl (by kernel_rfl) (q_off 7 rfl rfl rfl hg57) hS rfl rfl ?_
      refine wa_q 11 rfl (by kernel_rfl) (q_off 7 rfl rfl rfl hg57) hS rfl rfl ?_
      refine wa_q 12 rfl (by kernel_rfl) (q_off 7 rfl rfl rfl hg57) hS rfl rfl ?_
      refine wa_q 13 rfl (by kernel_rfl) (q_off 7 rfl rfl rfl hg57) hS rfl rfl ?_
      refine wa_q 14 rfl (by kernel_rfl) (q_off 7 rfl rfl rfl hg57) hS rfl rfl ?_
      refine wa_q 15 rfl (by kernel_rfl) (q_guard 3 rfl rfl rfl hg53 (q_pickF rfl hg57 rfl)) hS rfl rfl ?_
      refine wa_q 16 rfl (by kernel_rfl) (q_pickF rfl hg53 rfl) hS rfl rfl ?_
      refine wa_done (by kernel_rfl) ?_
      exact ⟨(), M, ⟨(show some (Value.bool false) = some (Value.bool ((decide (((l.length + 1 : Nat) : Int) ≤ ((k4 : Int) + 1))) || ((!decide (x2.inp = 0)) && (!decide ((l.getD k4 0) = x2.inp))))) from by first | (simp only [hg53, hg57, Bool.true_or, Bool.false_or, Bool.true_and, Bool.false_and, Bool.or_true, Bool.or_false, Bool.and_true, Bool.and_false]; done) | (simp_all; done) | (simp_all; omega)), trivial⟩, unw_take 17 rfl rfl⟩
     rintro _ jr16 w10 M
     refine wc_cond rfl (fun ht66 => ?_) (fun ht66 => ?_)
     ·have hnf : fitB l (k4 : Int) x2.inp = false := fit_no2 (nd_t ht47) ht66 rfl rfl
      refine wc_exit rfl ?_
      refine wc_region ?_
      refine wl_mv M rfl rfl ?_
      refine wl_m M (q_add rfl rfl (IntWalk.i64_in _ (by omega))) rfl rfl ?_
      refine wl_as M rfl rfl ?_
      refine wl_nil ?_
      refine ⟨(k4 + 1, ag4, l_21_4), ?_, ⟨(by omega), (by rw [range_flat, ← List.append_assoc]; exact hp4.skip _ (by rw [gE, if_neg (by rw [hnf]; decide)]; simp)), M⟩, ⟨rfl, rfl, trivial⟩, unw_look rfl (unw_hav rfl (unw_look rfl unw_base))⟩
      show l.length + 1 - (k4 + 1) < l.length + 1 - k4
      omega
     obtain ⟨hfit, heat, hkl⟩ := fit_yes2 (l := l) (i := k4) (nd_t ht47) ht66 rfl rfl
     have hj1 := nI_lt (w := l.length + 1) (i := k4) hs1 (by omega)
     have hj2 := nI_lt (w := l.length + 1) (i := k4 + 1) hd1 (by omega)
     refine wc_skip ?_
     refine wc_seq ?_
     refine wc_draws (fun w' => Mem w I I (box b13 48 [.int .i64 x2.src, .int .i64 x2.dst, .int .i32 x2.inp, .int .i32 x2.out] :: row EBool (sv u23) l_21_4 :: box b4 25 [.int .i64 t.states, .int .i64 t.start, sv fu1, sv au1] :: []) w' ∧ True) [] fol ?_
     replace M := M.drew
     have hS := (⟨M, trivial⟩ : _ ∧ _)
     refine wa_q 0 rfl (by kernel_rfl) (q_fa fo_48_0 rfl) hS rfl rfl ?_
     refine wa_q 1 rfl (by kernel_rfl) ((q_ldb 0 Tryd.underlying3 rfl rfl rfl rfl).mono fun _ h => h.1) hS rfl rfl ?_
     refine wa_q 2 rfl (by kernel_rfl) (q_move rfl) hS rfl rfl ?_
     refine wa_q 3 rfl (by kernel_rfl) (q_mul (z := ((x2.src.toNat * (l.length + 1) : Nat) : Int)) rfl rfl (by rw [show x2.src * ((l.length + 1 : Nat) : Int) = ((x2.src.toNat * (l.length + 1) : Nat) : Int) by rw [Int.natCast_mul, hsr]]; exact IntWalk.i64_in _ (by omega))) hS rfl rfl ?_
     refine wa_q 4 rfl (by kernel_rfl) (q_move rfl) hS rfl rfl ?_
     refine wa_q 5 rfl (by kernel_rfl) (q_add (z := ((x2.src.toNat * (l.length + 1) + k4 : Nat) : Int)) rfl rfl (by rw [show ((x2.src.toNat * (l.length + 1) : Nat) : Int) + (k4 : Int) = ((x2.src.toNat * (l.length + 1) + k4 : Nat) : Int) by simp]; exact IntWalk.i64_in _ (by omega))) hS rfl rfl ?_
     refine wa_q 6 rfl (by kernel_rfl) (q_fa fo_48_1 rfl) hS rfl rfl ?_
     refine wa_q 7 rfl (by kernel_rfl) ((q_ldb 0 Tryd.underlying3 rfl rfl rfl rfl).mono fun _ h => h.1) hS rfl rfl ?_
     refine wa_q 8 rfl (by kernel_rfl) (q_move rfl) hS rfl rfl ?_
     refine wa_q 9 rfl (by kernel_rfl) (q_mul (z := ((x2.dst.toNat * (l.length + 1) : Nat) : Int)) rfl rfl (by rw [show x2.dst * ((l.length + 1 : Nat) : Int) = ((x2.dst.toNat * (l.length + 1) : Nat) : Int) by rw [Int.natCast_mul, hdr]]; exact IntWalk.i64_in _ (by omega))) hS rfl rfl ?_
     refine wa_q 10 rfl (by kernel_rfl) (q_move rfl) hS rfl rfl ?_
     refine wa_q 11 rfl (by kernel_rfl) (q_add (z := ((x2.dst.toNat * (l.length + 1) + (k4 + 1) : Nat) : Int)) rfl rfl (by rw [show ((x2.dst.toNat * (l.length + 1) : Nat) : Int) + ((k4 : Int) + 1) = ((x2.dst.toNat * (l.length + 1) + (k4 + 1) : Nat) : Int) by simp]; exact IntWalk.i64_in _ (by omega))) hS rfl rfl ?_
     refine wa_q 12 rfl (by kernel_rfl) (q_assign rfl) hS rfl rfl ?_
     refine wa_q 13 rfl (by kernel_rfl) (q_assign rfl) hS rfl rfl ?_
     refine wa_done (by kernel_rfl) ?_
     refine wc_seq ?_
     refine wc_seq ?_
     refine wc_region ?_
     refine wl_mv M rfl rfl ?_
     refine wl_nil ?_
     refine wc_cond rfl (fun ht79 => ?_) (fun ht79 => ?_)
     ·have hgE : gE l bk x2 k4 = [(x2.dst.toNat * (l.length + 1) + (k4 + 1), x2.src.toNat * (l.length + 1) + k4)] := by rw [gE, if_pos hfit, if_pos ht79, heat]
      have hX : x2.dst.toNat * (l.length + 1) + (k4 + 1) < F.length := by rw [hFl]; exact hj2
      have hY : x2.src.toNat * (l.length + 1) + k4 < F.length := by rw [hFl]; exact hj1
      have hmem : (x2.dst.toNat * (l.length + 1) + (k4 + 1), x2.src.toNat * (l.length + 1) + k4) ∈ gD t l bk := List.mem_flatMap.2 ⟨x2, hxm, mem_gA.2 ⟨hbo, k4, by omega, by rw [hgE]; simp⟩⟩
      refine wc_region ?_
      refine wl_mv M rfl rfl ?_
      refine wl_mv M rfl rfl ?_
      refine wl_as M rfl rfl ?_
      refine wl_as M rfl rfl ?_
      refine wl_nil ?_
      refine wc_seq ?_
      refine wc_join (α := Unit) [82, 83, 84, 85, 86, 87, 88, 89, 90, 91, 92] (fun _ => [(92, .bool ((l_21_4.getD (x2.dst.toNat * (l.length + 1) + (k4 + 1)) false) && (!(l_21_4.getD (x2.src.toNat * (l.length + 1) + k4) false))))]) (fun _ w' => Mem w I I (box b13 48 [.int .i64 x2.src, .int .i64 x2.dst, .int .i32 x2.inp, .int .i32 x2.out] :: row EBool (sv u23) l_21_4 :: box b4 25 [.int .i64 t.states, .int .i64 t.start, sv fu1, sv au1] :: []) w') ?_ ?_
      ·refine wc_region ?_
       refine wl_mv M rfl rfl ?_
       refine wl_mv M rfl rfl ?_
       refine wl_ixr (j := (x2.dst.toNat * (l.length + 1) + (k4 + 1))) 1 M rfl Tryd.underlying108 rfl rfl (getD_at (d := false) (by rw [hp4.len]; exact hX)) rfl (fun b84 o84 p84 => ?_)
       refine wl_m M (q_ldp p84 rfl rfl) rfl rfl ?_
       refine wl_mv M rfl rfl ?_
       rcases Bool.eq_false_or_eq_true ((l_21_4.getD (x2.dst.toNat * (l.length + 1) + (k4 + 1)) false)) with hg86 | hg86
       ·refine wl_m M (q_guard 4 rfl rfl rfl hg86 (q_move rfl)) rfl rfl ?_
        refine wl_m M (q_guard 4 rfl rfl rfl hg86 (q_move rfl)) rfl rfl ?_
        refine wl_ixrG (j := (x2.src.toNat * (l.length + 1) + k4)) 4 rfl rfl rfl hg86 1 M rfl Tryd.underlying108 rfl rfl (getD_at (d := false) (by rw [hp4.len]; exact hY)) rfl (fun b89 o89 p89 => ?_)
        refine wl_m M (q_guard 4 rfl rfl rfl hg86 (q_ldp p89 rfl rfl)) rfl rfl ?_
        refine wl_m M (q_guard 4 rfl rfl rfl hg86 (q_not rfl)) rfl rfl ?_
        refine wl_m M (q_pickT rfl hg86 rfl) rfl rfl ?_
        refine wl_nil ?_
        exact ⟨(), M, ⟨(show some (Value.bool (!(l_21_4.getD (x2.src.toNat * (l.length + 1) + k4) false))) = some (Value.bool ((l_21_4.getD (x2.dst.toNat * (l.length + 1) + (k4 + 1)) false) && (!(l_21_4.getD (x2.src.toNat * (l.length + 1) + k4) false)))) from by first | (simp only [hg86, Bool.true_or, Bool.false_or, Bool.true_and, Bool.false_and, Bool.or_true, Bool.or_false, Bool.and_true, Bool.and_false]; done) | (simp_all; done) | (simp_all; omega)), trivial⟩, unw_take 11 rfl rfl⟩
       refine wl_m M (q_off 4 rfl rfl rfl hg86) rfl rfl ?_
       refine wl_m M (q_off 4 rfl rfl rfl hg86) rfl rfl ?_
       refine wl_m M (q_off 4 rfl rfl rfl hg86) rfl rfl ?_
       refine wl_m M (q_off 4 rfl rfl rfl hg86) rfl rfl ?_
       refine wl_m M (q_off 4 rfl rfl rfl hg86) rfl rfl ?_
       refine wl_m M (q_pickF rfl hg86 rfl) rfl rfl ?_
       refine wl_nil ?_
       exact ⟨(), M, ⟨(show some (Value.bool false) = some (Value.bool ((l_21_4.getD (x2.dst.toNat * (l.length + 1) + (k4 + 1)) false) && (!(l_21_4.getD (x2.src.toNat * (l.length + 1) + k4) false)))) from by first | (simp only [hg86, Bool.true_or, Bool.false_or, Bool.true_and, Bool.false_and, Bool.or_true, Bool.or_false, Bool.and_true, Bool.and_false]; done) | (simp_all; done) | (simp_all; omega)), trivial⟩, unw_take 11 rfl rfl⟩
      rintro _ jr20 w11 M
      refine wc_cond rfl (fun ht92 => ?_) (fun ht92 => ?_)
      ·refine wc_seq ?_
       refine wc_region ?_
       refine wl_mv M rfl rfl ?_
       refine wl_mv M rfl rfl ?_
       refine wl_ixw (j := (x2.src.toNat * (l.length + 1) + k4)) 1 M rfl Tryd.underlying108 rfl rfl (by rw [hp4.len]; exact hY) rfl (fun b95 o95 p95 => ?_)
       refine wl_e0 (e_str (u := true) 1 M rfl rfl rfl p95 (by rw [hp4.len]; exact hY) rfl) rfl ?_
       intro _ w12 M
       simp only [sC0, sCS] at M
       refine wl_nil ?_
       refine wc_region ?_
       refine wl_as M rfl rfl ?_
       refine wl_nil ?_
       refine wc_region ?_
       refine wl_mv M rfl rfl ?_
       refine wl_m M (q_add rfl rfl (IntWalk.i64_in _ (by omega))) rfl rfl ?_
       refine wl_as M rfl rfl ?_
       refine wl_nil ?_
       refine ⟨(k4 + 1, true, l_21_4.set (x2.src.toNat * (l.length + 1) + k4) true), ?_, ⟨(by omega), (by simp only [Bool.and_eq_true, Bool.not_eq_true'] at ht92; exact hp4.hit _ (on_getD.2 ht92.1) (by rw [getD_at (d := false) (by rw [hp4.len]; exact hY), ht92.2]) (fun h_ => gR_step (e := (x2.dst.toNat * (l.length + 1) + (k4 + 1), x2.src.toNat * (l.length + 1) + k4)) hmem h_)), M⟩, ⟨rfl, rfl, trivial⟩, unw_look rfl (unw_hav rfl (unw_look rfl (unw_hav rfl (unw_look rfl unw_base))))⟩
       show l.length + 1 - (k4 + 1) < l.length + 1 - k4
       omega
      refine wc_skip ?_
      refine wc_region ?_
      refine wl_mv M rfl rfl ?_
      refine wl_m M (q_add rfl rfl (IntWalk.i64_in _ (by omega))) rfl rfl ?_
      refine wl_as M rfl rfl ?_
      refine wl_nil ?_
      refine ⟨(k4 + 1, ag4, l_21_4), ?_, ⟨(by omega), (by rw [range_flat, ← List.append_assoc]; refine hp4.skip _ (fun e_ he_ ho_ => ?_); rw [hgE] at he_; rw [List.mem_singleton.1 he_] at ho_ ⊢; exact skip_on ht92 ho_), M⟩, ⟨rfl, rfl, trivial⟩, unw_look rfl (unw_hav rfl (unw_look rfl (unw_hav rfl (unw_look rfl unw_base))))⟩
      show l.length + 1 - (k4 + 1) < l.length + 1 - k4
      omega
     have hgE : gE l bk x2 k4 = [(x2.src.toNat * (l.length + 1) + k4, x2.dst.toNat * (l.length + 1) + (k4 + 1))] := by rw [gE, if_pos hfit, if_neg (by rw [ht79]; decide), heat]
     have hX : x2.src.toNat * (l.length + 1) + k4 < F.length := by rw [hFl]; exact hj1
     have hY : x2.dst.toNat * (l.length + 1) + (k4 + 1) < F.length := by rw [hFl]; exact hj2
     have hmem : (x2.src.toNat * (l.length + 1) + k4, x2.dst.toNat * (l.length + 1) + (k4 + 1)) ∈ gD t l bk := List.mem_flatMap.2 ⟨x2, hxm, mem_gA.2 ⟨hbo, k4, by omega, by rw [hgE]; simp⟩⟩
     refine wc_skip ?_
     refine wc_seq ?_
     refine wc_join (α := Unit) [82, 83, 84, 85, 86, 87, 88, 89, 90, 91, 92] (fun _ => [(92, .bool ((l_21_4.getD (x2.src.toNat * (l.length + 1) + k4) false) && (!(l_21_4.getD (x2.dst.toNat * (l.length + 1) + (k4 + 1)) false))))]) (fun _ w' => Mem w I I (box b13 48 [.int .i64 x2.src, .int .i64 x2.dst, .int .i32 x2.inp, .int .i32 x2.out] :: row EBool (sv u23) l_21_4 :: box b4 25 [.int .i64 t.states, .int .i64 t.start, sv fu1, sv au1] :: []) w') ?_ ?_
     ·refine wc_region ?_
      refine wl_mv M rfl rfl ?_
      refine wl_mv M rfl rfl ?_
      refine wl_ixr (j := (x2.src.toNat * (l.length + 1) + k4)) 1 M rfl Tryd.underlying108 rfl rfl (getD_at (d := false) (by rw [hp4.len]; exact hX)) rfl (fun b84 o84 p84 => ?_)
      refine wl_m M (q_ldp p84 rfl rfl) rfl rfl ?_
      refine wl_mv M rfl rfl ?_
      rcases Bool.eq_false_or_eq_true ((l_21_4.getD (x2.src.toNat * (l.length + 1) + k4) false)) with hg86 | hg86
      ·refine wl_m M (q_guard 4 rfl rfl rfl hg86 (q_move rfl)) rfl rfl ?_
       refine wl_m M (q_guard 4 rfl rfl rfl hg86 (q_move rfl)) rfl rfl ?_
       refine wl_ixrG (j := (x2.dst.toNat * (l.length + 1) + (k4 + 1))) 4 rfl rfl rfl hg86 1 M rfl Tryd.underlying108 rfl rfl (getD_at (d := false) (by rw [hp4.len]; exact hY)) rfl (fun b89 o89 p89 => ?_)
       refine wl_m M (q_guard 4 rfl rfl rfl hg86 (q_ldp p89 rfl rfl)) rfl rfl ?_
       refine wl_m M (q_guard 4 rfl rfl rfl hg86 (q_not rfl)) rfl rfl ?_
       refine wl_m M (q_pickT rfl hg86 rfl) rfl rfl ?_
       refine wl_nil ?_
       exact ⟨(), M, ⟨(show some (Value.bool (!(l_21_4.getD (x2.dst.toNat * (l.length + 1) + (k4 + 1)) false))) = some (Value.bool ((l_21_4.getD (x2.src.toNat * (l.length + 1) + k4) false) && (!(l_21_4.getD (x2.dst.toNat * (l.length + 1) + (k4 + 1)) false)))) from by first | (simp only [hg86, Bool.true_or, Bool.false_or, Bool.true_and, Bool.false_and, Bool.or_true, Bool.or_false, Bool.and_true, Bool.and_false]; done) | (simp_all; done) | (simp_all; omega)), trivial⟩, unw_take 11 rfl rfl⟩
      refine wl_m M (q_off 4 rfl rfl rfl hg86) rfl rfl ?_
      refine wl_m M (q_off 4 rfl rfl rfl hg86) rfl rfl ?_
      refine wl_m M (q_off 4 rfl rfl rfl hg86) rfl rfl ?_
      refine wl_m M (q_off 4 rfl rfl rfl hg86) rfl rfl ?_
      refine wl_m M (q_off 4 rfl rfl rfl hg86) rfl rfl ?_
      refine wl_m M (q_pickF rfl hg86 rfl) rfl rfl ?_
      refine wl_nil ?_
      exact ⟨(), M, ⟨(show some (Value.bool false) = some (Value.bool ((l_21_4.getD (x2.src.toNat * (l.length + 1) + k4) false) && (!(l_21_4.getD (x2.dst.toNat * (l.length + 1) + (k4 + 1)) false)))) from by first | (simp only [hg86, Bool.true_or, Bool.false_or, Bool.true_and, Bool.false_and, Bool.or_true, Bool.or_false, Bool.and_true, Bool.and_false]; done) | (simp_all; done) | (simp_all; omega)), trivial⟩, unw_take 11 rfl rfl⟩
     rintro _ jr20 w13 M
     refine wc_cond rfl (fun ht92 => ?_) (fun ht92 => ?_)
     ·refine wc_seq ?_
      refine wc_region ?_
      refine wl_mv M rfl rfl ?_
      refine wl_mv M rfl rfl ?_
      refine wl_ixw (j := (x2.dst.toNat * (l.length + 1) + (k4 + 1))) 1 M rfl Tryd.underlying108 rfl rfl (by rw [hp4.len]; exact hY) rfl (fun b95 o95 p95 => ?_)
      refine wl_e0 (e_str (u := true) 1 M rfl rfl rfl p95 (by rw [hp4.len]; exact hY) rfl) rfl ?_
      intro _ w14 M
      simp only [sC0, sCS] at M
      refine wl_nil ?_
      refine wc_region ?_
      refine wl_as M rfl rfl ?_
      refine wl_nil ?_
      refine wc_region ?_
      refine wl_mv M rfl rfl ?_
      refine wl_m M (q_add rfl rfl (IntWalk.i64_in _ (by omega))) rfl rfl ?_
      refine wl_as M rfl rfl ?_
      refine wl_nil ?_
      refine ⟨(k4 + 1, true, l_21_4.set (x2.dst.toNat * (l.length + 1) + (k4 + 1)) true), ?_, ⟨(by omega), (by simp only [Bool.and_eq_true, Bool.not_eq_true'] at ht92; exact hp4.hit _ (on_getD.2 ht92.1) (by rw [getD_at (d := false) (by rw [hp4.len]; exact hY), ht92.2]) (fun h_ => gR_step (e := (x2.src.toNat * (l.length + 1) + k4, x2.dst.toNat * (l.length + 1) + (k4 + 1))) hmem h_)), M⟩, ⟨rfl, rfl, trivial⟩, unw_look rfl (unw_hav rfl (unw_look rfl (unw_hav rfl (unw_look rfl unw_base))))⟩
      show l.length + 1 - (k4 + 1) < l.length + 1 - k4
      omega
     refine wc_skip ?_
     refine wc_region ?_
     refine wl_mv M rfl rfl ?_
     refine wl_m M (q_add rfl rfl (IntWalk.i64_in _ (by omega))) rfl rfl ?_
     refine wl_as M rfl rfl ?_
     refine wl_nil ?_
     refine ⟨(k4 + 1, ag4, l_21_4), ?_, ⟨(by omega), (by rw [range_flat, ← List.append_assoc]; refine hp4.skip _ (fun e_ he_ ho_ => ?_); rw [hgE] at he_; rw [List.mem_singleton.1 he_] at ho_ ⊢; exact skip_on ht92 ho_), M⟩, ⟨rfl, rfl, trivial⟩, unw_look rfl (unw_hav rfl (unw_look rfl (unw_hav rfl (unw_look rfl unw_base))))⟩
     show l.length + 1 - (k4 + 1) < l.length + 1 - k4
     omega
    refine wc_skip ?_
    refine wc_seq ?_
    refine wc_seq ?_
    refine wc_join (α := Unit) [50, 51, 52, 53, 54, 55, 56, 57, 58, 59, 60, 61, 62, 63, 64, 65, 66] (fun _ => [(66, .bool ((decide (((l.length + 1 : Nat) : Int) ≤ (k4 : Int))) || ((!decide (x2.inp = 0)) && (!decide ((l.getD k4 0) = x2.inp)))))]) (fun _ w' => Mem w I I (box b13 48 [.int .i64 x2.src, .int .i64 x2.dst, .int .i32 x2.inp, .int .i32 x2.out] :: row EBool (sv u23) l_21_4 :: box b4 25 [.int .i64 t.states, .int .i64 t.start, sv fu1, sv au1] :: []) w') ?_ ?_
    ·refine wc_draws (fun w' => Mem w I I (box b13 48 [.int .i64 x2.src, .int .i64 x2.dst, .int .i32 x2.inp, .int .i32 x2.out] :: row EBool (sv u23) l_21_4 :: box b4 25 [.int .i64 t.states, .int .i64 t.start, sv fu1, sv au1] :: []) w' ∧ True) [] fol ?_
     replace M := M.drew
     have hS := (⟨M, trivial⟩ : _ ∧ _)
     refine wa_q 0 rfl (by kernel_rfl) (q_move rfl) hS rfl rfl ?_
     refine wa_q 1 rfl (by kernel_rfl) (q_move rfl) hS rfl rfl ?_
     refine wa_q 2 rfl (by kernel_rfl) (q_geq rfl rfl) hS rfl rfl ?_
     refine wa_q 3 rfl (by kernel_rfl) (q_move rfl) hS rfl rfl ?_
     rcases Bool.eq_false_or_eq_true (decide (((l.length + 1 : Nat) : Int) ≤ (k4 : Int))) with hg53 | hg53
     ·refine wa_q 4 rfl (by kernel_rfl) (q_off 3 rfl rfl rfl hg53) hS rfl rfl ?_
      refine wa_q 5 rfl (by kernel_rfl) (q_off 3 rfl rfl rfl hg53) hS rfl rfl ?_
      refine wa_q 6 rfl (by kernel_rfl) (q_off 3 rfl rfl rfl hg53) hS rfl rfl ?_
      refine wa_q 7 rfl (by kernel_rfl) (q_off 3 rfl rfl rfl hg53) hS rfl rfl ?_
      refine wa_q 8 rfl (by kernel_rfl) (q_offu 7 rfl rfl rfl) hS rfl rfl ?_
      refine wa_q 9 rfl (by kernel_rfl) (q_offu 7 rfl rfl rfl) hS rfl rfl ?_
      refine wa_q 10 rfl (by kernel_rfl) (q_offu 7 rfl rfl rfl) hS rfl rfl ?_
      refine wa_q 11 rfl (by kernel_rfl) (q_offu 7 rfl rfl rfl) hS rfl rfl ?_
      refine wa_q 12 rfl (by kernel_rfl) (q_offu 7 rfl rfl rfl) hS rfl rfl ?_
      refine wa_q 13 rfl (by kernel_rfl) (q_offu 7 rfl rfl rfl) hS rfl rfl ?_
      refine wa_q 14 rfl (by kernel_rfl) (q_offu 7 rfl rfl rfl) hS rfl rfl ?_
      refine wa_q 15 rfl (by kernel_rfl) (q_off 3 rfl rfl rfl hg53) hS rfl rfl ?_
      refine wa_q 16 rfl (by kernel_rfl) (q_pickT rfl hg53 rfl) hS rfl rfl ?_
      refine wa_done (by kernel_rfl) ?_
      exact ⟨(), M, ⟨(show some (Value.bool true) = some (Value.bool ((decide (((l.length + 1 : Nat) : Int) ≤ (k4 : Int))) || ((!decide (x2.inp = 0)) && (!decide ((l.getD k4 0) = x2.inp))))) from by first | (simp only [hg53, Bool.true_or, Bool.false_or, Bool.true_and, Bool.false_and, Bool.or_true, Bool.or_false, Bool.and_true, Bool.and_false]; done) | (simp_all; done) | (simp_all; omega)), trivial⟩, unw_take 17 rfl rfl⟩
     refine wa_q 4 rfl (by kernel_rfl) (q_guard 3 rfl rfl rfl hg53 (q_fa fo_48_2 rfl)) hS rfl rfl ?_
     refine wa_q 5 rfl (by kernel_rfl) ((q_guard 3 rfl rfl rfl hg53 (q_ldb 0 Tryd.underlying21 rfl rfl rfl rfl)).mono fun _ h => h.1) hS rfl rfl ?_
     refine wa_q 6 rfl (by kernel_rfl) (q_guard 3 rfl rfl rfl hg53 (q_neq rfl rfl)) hS rfl rfl ?_
     refine wa_q 7 rfl (by kernel_rfl) (q_guard 3 rfl rfl rfl hg53 (q_move rfl)) hS rfl rfl ?_
     rcases Bool.eq_false_or_eq_true (!decide (x2.inp = 0)) with hg57 | hg57
     ·refine wa_q 8 rfl (by kernel_rfl) (q_guard 7 rfl rfl rfl hg57 (q_move rfl)) hS rfl rfl ?_
      refine wa_q 9 rfl (by kernel_rfl) (q_guard 7 rfl rfl rfl hg57 (q_move rfl)) hS rfl rfl ?_
      have hkl9 : k4 < l.length := by have := of_decide_eq_false hg53; rw [ht47] at hg57; cases hg57
      refine wa_ixSG (j := k4) 7 rfl rfl rfl hg57 10 hS (fun _ h => Rl.mono h.1.imm) rfl (by kernel_rfl) Tryd.underlying84 rfl rfl (getD_at (d := 0) hkl9) rfl (fun b60 o60 p60 => ?_)
      refine wa_q 11 rfl (by kernel_rfl) (q_guard 7 rfl rfl rfl hg57 (q_ldp p60 rfl rfl)) hS rfl rfl ?_
      refine wa_q 12 rfl (by kernel_rfl) (q_guard 7 rfl rfl rfl hg57 (q_fa fo_48_2 rfl)) hS rfl rfl ?_
      refine wa_q 13 rfl (by kernel_rfl) ((q_guard 7 rfl rfl rfl hg57 (q_ldb 0 Tryd.underlying21 rfl rfl rfl rfl)).mono fun _ h => h.1) hS rfl rfl ?_
      refine wa_q 14 rfl (by kernel_rfl) (q_guard 7 rfl rfl rfl hg57 (q_neq rfl rfl)) hS rfl rfl ?_
      refine wa_q 15 rfl (by kernel_rfl) (q_guard 3 rfl rfl rfl hg53 (q_pickT rfl hg57 rfl)) hS rfl rfl ?_
      refine wa_q 16 rfl (by kernel_rfl) (q_pickF rfl hg53 rfl) hS rfl rfl ?_
      refine wa_done (by kernel_rfl) ?_
      exact ⟨(), M, ⟨(show some (Value.bool (!decide ((l.getD k4 0) = x2.inp))) = some (Value.bool ((decide (((l.length + 1 : Nat) : Int) ≤ (k4 : Int))) || ((!decide (x2.inp = 0)) && (!decide ((l.getD k4 0) = x2.inp))))) from by first | (simp only [hg53, hg57, Bool.true_or, Bool.false_or, Bool.true_and, Bool.false_and, Bool.or_true, Bool.or_false, Bool.and_true, Bool.and_false]; done) | (simp_all; done) | (simp_all; omega)), trivial⟩, unw_take 17 rfl rfl⟩
     refine wa_q 8 rfl (by kernel_rfl) (q_off 7 rfl rfl rfl hg57) hS rfl rfl ?_
     refine wa_q 9 rfl (by kernel_rfl) (q_off 7 rfl rfl rfl hg57) hS rfl rfl ?_
     refine wa_q 10 rfl (by kernel_rfl) (q_off 7 rfl rfl rfl hg57) hS rfl rfl ?_
     refine wa_q 11 rfl (by kernel_rfl) (q_off 7 rfl rfl rfl hg57) hS rfl rfl ?_
     refine wa_q 12 rfl (by kernel_rfl) (q_off 7 rfl rfl rfl hg57) hS rfl rfl ?_
     refine wa_q 13 rfl (by kernel_rfl) (q_off 7 rfl rfl rfl hg57) hS rfl rfl ?_
     refine wa_q 14 rfl (by kernel_rfl) (q_off 7 rfl rfl rfl hg57) hS rfl rfl ?_
     refine wa_q 15 rfl (by kernel_rfl) (q_guard 3 rfl rfl rfl hg53 (q_pickF rfl hg57 rfl)) hS rfl rfl ?_
     refine wa_q 16 rfl (by kernel_rfl) (q_pickF rfl hg53 rfl) hS rfl rfl ?_
     refine wa_done (by kernel_rfl) ?_
     exact ⟨(), M, ⟨(show some (Value.bool false) = some (Value.bool ((decide (((l.length + 1 : Nat) : Int) ≤ (k4 : Int))) || ((!decide (x2.inp = 0)) && (!decide ((l.getD k4 0) = x2.inp))))) from by first | (simp only [hg53, hg57, Bool.true_or, Bool.false_or, Bool.true_and, Bool.false_and, Bool.or_true, Bool.or_false, Bool.and_true, Bool.and_false]; done) | (simp_all; done) | (simp_all; omega)), trivial⟩, unw_take 17 rfl rfl⟩
    rintro _ jr16 w15 M
    refine wc_cond rfl (fun ht66 => ?_) (fun ht66 => ?_)
    ·have hnf : fitB l (k4 : Int) x2.inp = false := absurd ht66 (by rw [nd_f ht47]; simp; omega)
     refine wc_exit rfl ?_
     refine wc_region ?_
     refine wl_mv M rfl rfl ?_
     refine wl_m M (q_add rfl rfl (IntWalk.i64_in _ (by omega))) rfl rfl ?_
     refine wl_as M rfl rfl ?_
     refine wl_nil ?_
     refine ⟨(k4 + 1, ag4, l_21_4), ?_, ⟨(by omega), (by rw [range_flat, ← List.append_assoc]; exact hp4.skip _ (by rw [gE, if_neg (by rw [hnf]; decide)]; simp)), M⟩, ⟨rfl, rfl, trivial⟩, unw_look rfl (unw_hav rfl (unw_look rfl unw_base))⟩
     show l.length + 1 - (k4 + 1) < l.length + 1 - k4
     omega
    obtain ⟨hfit, heat⟩ := fit_eps2 (l := l) (i := k4) (nd_f ht47)
    have hj1 := nI_lt (w := l.length + 1) (i := k4) hs1 (by omega)
    have hj2 := nI_lt (w := l.length + 1) (i := k4) hd1 (by omega)
    refine wc_skip ?_
    refine wc_seq ?_
    refine wc_draws (fun w' => Mem w I I (box b13 48 [.int .i64 x2.src, .int .i64 x2.dst, .int .i32 x2.inp, .int .i32 x2.out] :: row EBool (sv u23) l_21_4 :: box b4 25 [.int .i64 t.states, .int .i64 t.start, sv fu1, sv au1] :: []) w' ∧ True) [] fol ?_
    replace M := M.drew
    have hS := (⟨M, trivial⟩ : _ ∧ _)
    refine wa_q 0 rfl (by kernel_rfl) (q_fa fo_48_0 rfl) hS rfl rfl ?_
    refine wa_q 1 rfl (by kernel_rfl) ((q_ldb 0 Tryd.underlying3 rfl rfl rfl rfl).mono fun _ h => h.1) hS rfl rfl ?_
    refine wa_q 2 rfl (by kernel_rfl) (q_move rfl) hS rfl rfl ?_
    refine wa_q 3 rfl (by kernel_rfl) (q_mul (z := ((x2.src.toNat * (l.length + 1) : Nat) : Int)) rfl rfl (by rw [show x2.src * ((l.length + 1 : Nat) : Int) = ((x2.src.toNat * (l.length + 1) : Nat) : Int) by rw [Int.natCast_mul, hsr]]; exact IntWalk.i64_in _ (by omega))) hS rfl rfl ?_
    refine wa_q 4 rfl (by kernel_rfl) (q_move rfl) hS rfl rfl ?_
    refine wa_q 5 rfl (by kernel_rfl) (q_add (z := ((x2.src.toNat * (l.length + 1) + k4 : Nat) : Int)) rfl rfl (by rw [show ((x2.src.toNat * (l.length + 1) : Nat) : Int) + (k4 : Int) = ((x2.src.toNat * (l.length + 1) + k4 : Nat) : Int) by simp]; exact IntWalk.i64_in _ (by omega))) hS rfl rfl ?_
    refine wa_q 6 rfl (by kernel_rfl) (q_fa fo_48_1 rfl) hS rfl rfl ?_
    refine wa_q 7 rfl (by kernel_rfl) ((q_ldb 0 Tryd.underlying3 rfl rfl rfl rfl).mono fun _ h => h.1) hS rfl rfl ?_
    refine wa_q 8 rfl (by kernel_rfl) (q_move rfl) hS rfl rfl ?_
    refine wa_q 9 rfl (by kernel_rfl) (q_mul (z := ((x2.dst.toNat * (l.length + 1) : Nat) : Int)) rfl rfl (by rw [show x2.dst * ((l.length + 1 : Nat) : Int) = ((x2.dst.toNat * (l.length + 1) : Nat) : Int) by rw [Int.natCast_mul, hdr]]; exact IntWalk.i64_in _ (by omega))) hS rfl rfl ?_
    refine wa_q 10 rfl (by kernel_rfl) (q_move rfl) hS rfl rfl ?_
    refine wa_q 11 rfl (by kernel_rfl) (q_add (z := ((x2.dst.toNat * (l.length + 1) + k4 : Nat) : Int)) rfl rfl (by rw [show ((x2.dst.toNat * (l.length + 1) : Nat) : Int) + (k4 : Int) = ((x2.dst.toNat * (l.length + 1) + k4 : Nat) : Int) by simp]; exact IntWalk.i64_in _ (by omega))) hS rfl rfl ?_
    refine wa_q 12 rfl (by kernel_rfl) (q_assign rfl) hS rfl rfl ?_
    refine wa_q 13 rfl (by kernel_rfl) (q_assign rfl) hS rfl rfl ?_
    refine wa_done (by kernel_rfl) ?_
    refine wc_seq ?_
    refine wc_seq ?_
    refine wc_region ?_
    refine wl_mv M rfl rfl ?_
    refine wl_nil ?_
    refine wc_cond rfl (fun ht79 => ?_) (fun ht79 => ?_)
    ·have hgE : gE l bk x2 k4 = [(x2.dst.toNat * (l.length + 1) + k4, x2.src.toNat * (l.length + 1) + k4)] := by rw [gE, if_pos hfit, if_pos ht79, heat]
     have hX : x2.dst.toNat * (l.length + 1) + k4 < F.length := by rw [hFl]; exact hj2
     have hY : x2.src.toNat * (l.length + 1) + k4 < F.length := by rw [hFl]; exact hj1
     have hmem : (x2.dst.toNat * (l.length + 1) + k4, x2.src.toNat * (l.length + 1) + k4) ∈ gD t l bk := List.mem_flatMap.2 ⟨x2, hxm, mem_gA.2 ⟨hbo, k4, by omega, by rw [hgE]; simp⟩⟩
     refine wc_region ?_
     refine wl_mv M rfl rfl ?_
     refine wl_mv M rfl rfl ?_
     refine wl_as M rfl rfl ?_
     refine wl_as M rfl rfl ?_
     refine wl_nil ?_
     refine wc_seq ?_
     refine wc_join (α := Unit) [82, 83, 84, 85, 86, 87, 88, 89, 90, 91, 92] (fun _ => [(92, .bool ((l_21_4.getD (x2.dst.toNat * (l.length + 1) + k4) false) && (!(l_21_4.getD (x2.src.toNat * (l.length + 1) + k4) false))))]) (fun _ w' => Mem w I I (box b13 48 [.int .i64 x2.src, .int .i64 x2.dst, .int .i32 x2.inp, .int .i32 x2.out] :: row EBool (sv u23) l_21_4 :: box b4 25 [.int .i64 t.states, .int .i64 t.start, sv fu1, sv au1] :: []) w') ?_ ?_
     ·refine wc_region ?_
      refine wl_mv M rfl rfl ?_
      refine wl_mv M rfl rfl ?_
      refine wl_ixr (j := (x2.dst.toNat * (l.length + 1) + k4)) 1 M rfl Tryd.underlying108 rfl rfl (getD_at (d := false) (by rw [hp4.len]; exact hX)) rfl (fun b84 o84 p84 => ?_)
      refine wl_m M (q_ldp p84 rfl rfl) rfl rfl ?_
      refine wl_mv M rfl rfl ?_
      rcases Bool.eq_false_or_eq_true ((l_21_4.getD (x2.dst.toNat * (l.length + 1) + k4) false)) with hg86 | hg86
      ·refine wl_m M (q_guard 4 rfl rfl rfl hg86 (q_move rfl)) rfl rfl ?_
       refine wl_m M (q_guard 4 rfl rfl rfl hg86 (q_move rfl)) rfl rfl ?_
       refine wl_ixrG (j := (x2.src.toNat * (l.length + 1) + k4)) 4 rfl rfl rfl hg86 1 M rfl Tryd.underlying108 rfl rfl (getD_at (d := false) (by rw [hp4.len]; exact hY)) rfl (fun b89 o89 p89 => ?_)
       refine wl_m M (q_guard 4 rfl rfl rfl hg86 (q_ldp p89 rfl rfl)) rfl rfl ?_
       refine wl_m M (q_guard 4 rfl rfl rfl hg86 (q_not rfl)) rfl rfl ?_
       refine wl_m M (q_pickT rfl hg86 rfl) rfl rfl ?_
       refine wl_nil ?_
       exact ⟨(), M, ⟨(show some (Value.bool (!(l_21_4.getD (x2.src.toNat * (l.length + 1) + k4) false))) = some (Value.bool ((l_21_4.getD (x2.dst.toNat * (l.length + 1) + k4) false) && (!(l_21_4.getD (x2.src.toNat * (l.length + 1) + k4) false)))) from by first | (simp only [hg86, Bool.true_or, Bool.false_or, Bool.true_and, Bool.false_and, Bool.or_true, Bool.or_false, Bool.and_true, Bool.and_false]; done) | (simp_all; done) | (simp_all; omega)), trivial⟩, unw_take 11 rfl rfl⟩
      refine wl_m M (q_off 4 rfl rfl rfl hg86) rfl rfl ?_
      refine wl_m M (q_off 4 rfl rfl rfl hg86) rfl rfl ?_
      refine wl_m M (q_off 4 rfl rfl rfl hg86) rfl rfl ?_
      refine wl_m M (q_off 4 rfl rfl rfl hg86) rfl rfl ?_
      refine wl_m M (q_off 4 rfl rfl rfl hg86) rfl rfl ?_
      refine wl_m M (q_pickF rfl hg86 rfl) rfl rfl ?_
      refine wl_nil ?_
      exact ⟨(), M, ⟨(show some (Value.bool false) = some (Value.bool ((l_21_4.getD (x2.dst.toNat * (l.length + 1) + k4) false) && (!(l_21_4.getD (x2.src.toNat * (l.length + 1) + k4) false)))) from by first | (simp only [hg86, Bool.true_or, Bool.false_or, Bool.true_and, Bool.false_and, Bool.or_true, Bool.or_false, Bool.and_true, Bool.and_false]; done) | (simp_all; done) | (simp_all; omega)), trivial⟩, unw_take 11 rfl rfl⟩
     rintro _ jr20 w16 M
     refine wc_cond rfl (fun ht92 => ?_) (fun ht92 => ?_)
     ·refine wc_seq ?_
      refine wc_region ?_
      refine wl_mv M rfl rfl ?_
      refine wl_mv M rfl rfl ?_
      refine wl_ixw (j := (x2.src.toNat * (l.length + 1) + k4)) 1 M rfl Tryd.underlying108 rfl rfl (by rw [hp4.len]; exact hY) rfl (fun b95 o95 p95 => ?_)
      refine wl_e0 (e_str (u := true) 1 M rfl rfl rfl p95 (by rw [hp4.len]; exact hY) rfl) rfl ?_
      intro _ w17 M
      simp only [sC0, sCS] at M
      refine wl_nil ?_
      refine wc_region ?_
      refine wl_as M rfl rfl ?_
      refine wl_nil ?_
      refine wc_region ?_
      refine wl_mv M rfl rfl ?_
      refine wl_m M (q_add rfl rfl (IntWalk.i64_in _ (by omega))) rfl rfl ?_
      refine wl_as M rfl rfl ?_
      refine wl_nil ?_
      refine ⟨(k4 + 1, true, l_21_4.set (x2.src.toNat * (l.length + 1) + k4) true), ?_, ⟨(by omega), (by simp only [Bool.and_eq_true, Bool.not_eq_true'] at ht92; exact hp4.hit _ (on_getD.2 ht92.1) (by rw [getD_at (d := false) (by rw [hp4.len]; exact hY), ht92.2]) (fun h_ => gR_step (e := (x2.dst.toNat * (l.length + 1) + k4, x2.src.toNat * (l.length + 1) + k4)) hmem h_)), M⟩, ⟨rfl, rfl, trivial⟩, unw_look rfl (unw_hav rfl (unw_look rfl (unw_hav rfl (unw_look rfl unw_base))))⟩
      show l.length + 1 - (k4 + 1) < l.length + 1 - k4
      omega
     refine wc_skip ?_
     refine wc_region ?_
     refine wl_mv M rfl rfl ?_
     refine wl_m M (q_add rfl rfl (IntWalk.i64_in _ (by omega))) rfl rfl ?_
     refine wl_as M rfl rfl ?_
     refine wl_nil ?_
     refine ⟨(k4 + 1, ag4, l_21_4), ?_, ⟨(by omega), (by rw [range_flat, ← List.append_assoc]; refine hp4.skip _ (fun e_ he_ ho_ => ?_); rw [hgE] at he_; rw [List.mem_singleton.1 he_] at ho_ ⊢; exact skip_on ht92 ho_), M⟩, ⟨rfl, rfl, trivial⟩, unw_look rfl (unw_hav rfl (unw_look rfl (unw_hav rfl (unw_look rfl unw_base))))⟩
     show l.length + 1 - (k4 + 1) < l.length + 1 - k4
     omega
    have hgE : gE l bk x2 k4 = [(x2.src.toNat * (l.length + 1) + k4, x2.dst.toNat * (l.length + 1) + k4)] := by rw [gE, if_pos hfit, if_neg (by rw [ht79]; decide), heat]
    have hX : x2.src.toNat * (l.length + 1) + k4 < F.length := by rw [hFl]; exact hj1
    have hY : x2.dst.toNat * (l.length + 1) + k4 < F.length := by rw [hFl]; exact hj2
    have hmem : (x2.src.toNat * (l.length + 1) + k4, x2.dst.toNat * (l.length + 1) + k4) ∈ gD t l bk := List.mem_flatMap.2 ⟨x2, hxm, mem_gA.2 ⟨hbo, k4, by omega, by rw [hgE]; simp⟩⟩
    refine wc_skip ?_
    refine wc_seq ?_
    refine wc_join (α := Unit) [82, 83, 84, 85, 86, 87, 88, 89, 90, 91, 92] (fun _ => [(92, .bool ((l_21_4.getD (x2.src.toNat * (l.length + 1) + k4) false) && (!(l_21_4.getD (x2.dst.toNat * (l.length + 1) + k4) false))))]) (fun _ w' => Mem w I I (box b13 48 [.int .i64 x2.src, .int .i64 x2.dst, .int .i32 x2.inp, .int .i32 x2.out] :: row EBool (sv u23) l_21_4 :: box b4 25 [.int .i64 t.states, .int .i64 t.start, sv fu1, sv au1] :: []) w') ?_ ?_
    ·refine wc_region ?_
     refine wl_mv M rfl rfl ?_
     refine wl_mv M rfl rfl ?_
     refine wl_ixr (j := (x2.src.toNat * (l.length + 1) + k4)) 1 M rfl Tryd.underlying108 rfl rfl (getD_at (d := false) (by rw [hp4.len]; exact hX)) rfl (fun b84 o84 p84 => ?_)
     refine wl_m M (q_ldp p84 rfl rfl) rfl rfl ?_
     refine wl_mv M rfl rfl ?_
     rcases Bool.eq_false_or_eq_true ((l_21_4.getD (x2.src.toNat * (l.length + 1) + k4) false)) with hg86 | hg86
     ·refine wl_m M (q_guard 4 rfl rfl rfl hg86 (q_move rfl)) rfl rfl ?_
      refine wl_m M (q_guard 4 rfl rfl rfl hg86 (q_move rfl)) rfl rfl ?_
      refine wl_ixrG (j := (x2.dst.toNat * (l.length + 1) + k4)) 4 rfl rfl rfl hg86 1 M rfl Tryd.underlying108 rfl rfl (getD_at (d := false) (by rw [hp4.len]; exact hY)) rfl (fun b89 o89 p89 => ?_)
      refine wl_m M (q_guard 4 rfl rfl rfl hg86 (q_ldp p89 rfl rfl)) rfl rfl ?_
      refine wl_m M (q_guard 4 rfl rfl rfl hg86 (q_not rfl)) rfl rfl ?_
      refine wl_m M (q_pickT rfl hg86 rfl) rfl rfl ?_
      refine wl_nil ?_
      exact ⟨(), M, ⟨(show some (Value.bool (!(l_21_4.getD (x2.dst.toNat * (l.length + 1) + k4) false))) = some (Value.bool ((l_21_4.getD (x2.src.toNat * (l.length + 1) + k4) false) && (!(l_21_4.getD (x2.dst.toNat * (l.length + 1) + k4) false)))) from by first | (simp only [hg86, Bool.true_or, Bool.false_or, Bool.true_and, Bool.false_and, Bool.or_true, Bool.or_false, Bool.and_true, Bool.and_false]; done) | (simp_all; done) | (simp_all; omega)), trivial⟩, unw_take 11 rfl rfl⟩
     refine wl_m M (q_off 4 rfl rfl rfl hg86) rfl rfl ?_
     refine wl_m M (q_off 4 rfl rfl rfl hg86) rfl rfl ?_
     refine wl_m M (q_off 4 rfl rfl rfl hg86) rfl rfl ?_
     refine wl_m M (q_off 4 rfl rfl rfl hg86) rfl rfl ?_
     refine wl_m M (q_off 4 rfl rfl rfl hg86) rfl rfl ?_
     refine wl_m M (q_pickF rfl hg86 rfl) rfl rfl ?_
     refine wl_nil ?_
     exact ⟨(), M, ⟨(show some (Value.bool false) = some (Value.bool ((l_21_4.getD (x2.src.toNat * (l.length + 1) + k4) false) && (!(l_21_4.getD (x2.dst.toNat * (l.length + 1) + k4) false)))) from by first | (simp only [hg86, Bool.true_or, Bool.false_or, Bool.true_and, Bool.false_and, Bool.or_true, Bool.or_false, Bool.and_true, Bool.and_false]; done) | (simp_all; done) | (simp_all; omega)), trivial⟩, unw_take 11 rfl rfl⟩
    rintro _ jr20 w18 M
    refine wc_cond rfl (fun ht92 => ?_) (fun ht92 => ?_)
    ·refine wc_seq ?_
     refine wc_region ?_
     refine wl_mv M rfl rfl ?_
     refine wl_mv M rfl rfl ?_
     refine wl_ixw (j := (x2.dst.toNat * (l.length + 1) + k4)) 1 M rfl Tryd.underlying108 rfl rfl (by rw [hp4.len]; exact hY) rfl (fun b95 o95 p95 => ?_)
     refine wl_e0 (e_str (u := true) 1 M rfl rfl rfl p95 (by rw [hp4.len]; exact hY) rfl) rfl ?_
     intro _ w19 M
     simp only [sC0, sCS] at M
     refine wl_nil ?_
     refine wc_region ?_
     refine wl_as M rfl rfl ?_
     refine wl_nil ?_
     refine wc_region ?_
     refine wl_mv M rfl rfl ?_
     refine wl_m M (q_add rfl rfl (IntWalk.i64_in _ (by omega))) rfl rfl ?_
     refine wl_as M rfl rfl ?_
     refine wl_nil ?_
     refine ⟨(k4 + 1, true, l_21_4.set (x2.dst.toNat * (l.length + 1) + k4) true), ?_, ⟨(by omega), (by simp only [Bool.and_eq_true, Bool.not_eq_true'] at ht92; exact hp4.hit _ (on_getD.2 ht92.1) (by rw [getD_at (d := false) (by rw [hp4.len]; exact hY), ht92.2]) (fun h_ => gR_step (e := (x2.src.toNat * (l.length + 1) + k4, x2.dst.toNat * (l.length + 1) + k4)) hmem h_)), M⟩, ⟨rfl, rfl, trivial⟩, unw_look rfl (unw_hav rfl (unw_look rfl (unw_hav rfl (unw_look rfl unw_base))))⟩
     show l.length + 1 - (k4 + 1) < l.length + 1 - k4
     omega
    refine wc_skip ?_
    refine wc_region ?_
    refine wl_mv M rfl rfl ?_
    refine wl_m M (q_add rfl rfl (IntWalk.i64_in _ (by omega))) rfl rfl ?_
    refine wl_as M rfl rfl ?_
    refine wl_nil ?_
    refine ⟨(k4 + 1, ag4, l_21_4), ?_, ⟨(by omega), (by rw [range_flat, ← List.append_assoc]; refine hp4.skip _ (fun e_ he_ ho_ => ?_); rw [hgE] at he_; rw [List.mem_singleton.1 he_] at ho_ ⊢; exact skip_on ht92 ho_), M⟩, ⟨rfl, rfl, trivial⟩, unw_look rfl (unw_hav rfl (unw_look rfl (unw_hav rfl (unw_look rfl unw_base))))⟩
    show l.length + 1 - (k4 + 1) < l.length + 1 - k4
    omega
   have hke4 : k4 = l.length + 1 := by omega
   refine wc_exit rfl ?_
   refine wc_region ?_
   refine wl_m M (q_add rfl rfl (IntWalk.i64_in _ (by omega))) rfl rfl ?_
   refine wl_mv M rfl rfl ?_
   refine wl_nil ?_
   replace M := M.drop 0
   refine ⟨(k2 + 1, ag4, l_21_4), ?_, ⟨(by omega), (by rw [take_flat hx2, gA, if_neg (by rw [ht38]; decide)]; rw [hke4] at hp4; exact hp4), M⟩, ⟨rfl, rfl, trivial⟩, unw_look rfl (unw_hav rfl (unw_look rfl (unw_hav rfl (unw_look rfl unw_base))))⟩
   show t.arcs.length - (k2 + 1) < t.arcs.length - k2
   omega
  have hke2 : k2 = t.arcs.length := by omega
  refine wc_exit rfl ?_
  refine ⟨(ag2, l_21_2), ?_, ⟨⟨hp.len, hp.sub, hp.frm⟩, (fun e => by have := (hp.cl e).2; rw [hke2, List.take_length] at this; exact this), M⟩, ⟨rfl, trivial⟩, unw_look rfl (unw_hav rfl (unw_look rfl unw_base))⟩
  show 2 * (l_21_2.count false) + ag2.toNat < 2 * (l_21_0.count false) + ag0.toNat
  subst ht24
  cases hag : ag2 with
  | true => have := hp.up hag; simp; omega
  | false => have := (hp.cl hag).1; subst this; simp
 refine wc_exit rfl ?_
 refine wc_seq ?_
 refine wc_region ?_
 refine wl_mv M rfl rfl ?_
 refine wl_as M rfl rfl ?_
 refine wl_nil ?_
 refine wc_ret ?_
 obtain ⟨K1, M, hK1, Rk1⟩ := M.frzRow 0 rfl
 exact out1 rfl rfl ⟨_, K1, rfl, (M.grow : Grow w I _ K1), _, Rk1, ⟨h2.1, h2.2.2, h3 ht24, fun P_ g1_ g2_ k_ hk_ => h2.2.1 k_ hk_ P_ g1_ g2_⟩⟩
end Go.Proofs.YtmjieefhjmiagaaDoor.G
