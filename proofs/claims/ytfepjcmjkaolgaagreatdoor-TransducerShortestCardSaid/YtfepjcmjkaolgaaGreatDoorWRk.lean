/- Walks of the program's functions. -/
import Derived.Test.YtfepjcmjkaolgaaGreatDoorGTr3
import Derived.Test.YtfepjcmjkaolgaaGreatDoorWE
import Derived.Test.YtfepjcmjkaolgaaGreatDoorWRo
import Derived.Test.YtfepjcmjkaolgaaGreatDoorGShl
set_option linter.all false
namespace Go.Proofs.YtfepjcmjkaolgaaGreatDoor.G
open Go Go.RowKit
theorem reach3_c {t : Tra} {m : Nat} (hm : m ≤ 512) (hxs : ∀ x ∈ t.arcs, (0 ≤ x.src ∧ x.src < m) ∧ 0 ≤ x.dst ∧ x.dst < m) {b0 : List Bool} (hb0 : b0.length = m) (back : Bool) {v : Value} {ub : SV} {w0 w : World} {I0 I : Heap} {Lt : List Res} (R1 : t.rd I v) (Rb : rdSl EBool I (sv ub) b0) (M : Mem w0 I0 I Lt w) :
    Calls A 66 #[v, sv ub, .bool back] w (fun e w' => ∃ v, e = .returned v ∧ ∃ (u' : SV) (bs : List Bool), v = sv u' ∧ (bs.length = m ∧ ∀ s, bt bs s ↔ Reach (stp t (!back)) (bt b0) s) ∧ Mem w0 I0 I (row EBool (sv u') bs :: Lt) w') := by
 obtain ⟨fu1, au1, rfl, Rf1, Ra1⟩ := R1
 have hla := Ra1.len_le
 have hoI := M.old
 refine enter Tryz.func66 rfl 53 Tryz.ntmps66 [_, _, _] rfl ?_
 refine wc_seq ?_
 refine wc_region ?_
 refine wl_e (e_box M rfl) rfl rfl ?_
 rintro _ w1 ⟨b3, rfl, M⟩
 refine wl_as M rfl rfl ?_
 refine wl_nil ?_
 refine wc_seq ?_
 refine wc_region ?_
 refine wl_e (e_bsR (E := EBool) (xs := []) M (bs_75_0) trivial rfl rfl (by decide)) rfl rfl ?_
 rintro _ w2 ⟨u12, rfl, M⟩
 refine wl_mv M rfl rfl ?_
 refine wl_e (e_app 0 M rfl Rb Tryz.underlying75 rfl rfl (by show (_ + _) * 1 ≤ _; simp only [List.length_nil]; omega)) rfl rfl ?_
 rintro _ w3 ⟨u14, rfl, M⟩
 simp only [sC0, sCS] at M
 refine wl_as M rfl rfl ?_
 refine wl_nil ?_
 refine wc_seq ?_
 refine wc_seq ?_
 refine wc_region ?_
 refine wl_as M rfl rfl ?_
 refine wl_nil ?_
 refine wc_block ?_
 refine wc_loop (α := Bool × (List Bool)) [8, 9, 10, 11, 15, 16, 17, 18, 19, 20, 21, 22, 23, 24, 25, 26, 27, 28, 29, 30, 31, 32, 33, 34, 35, 36, 37, 38, 39, 40, 41, 42, 43, 44, 45, 46, 47, 48, 49, 50, 51] (fun ((ag0, l_12_0) : Bool × (List Bool)) => [(8, .bool ag0)])
   (fun ((ag0, l_12_0) : Bool × (List Bool)) w' => ((l_12_0.length = m ∧ ∀ s ∈ (onL b0 m), bt l_12_0 s) ∧ (∀ s, bt l_12_0 s → Reach (stp t (!back)) (· ∈ (onL b0 m)) s)) ∧ (ag0 = false → ∀ x ∈ t.arcs, bt l_12_0 (eA (!back) x) → bt l_12_0 (eB (!back) x)) ∧ Mem w0 I0 I (row EBool (sv u14) l_12_0 :: box b3 25 [.int .i64 t.states, .int .i64 t.start, sv fu1, sv au1] :: Lt) w')
   (fun ((ag0, l_12_0) : Bool × (List Bool)) => 2 * (l_12_0.count false) + ag0.toNat) (true, [] ++ b0) ⟨rfl, trivial⟩ ?_ ?_
 ·refine ⟨⟨⟨hb0, fun s hs => (mem_onL hb0).1 hs⟩, fun s hs => .base ((mem_onL hb0).2 hs)⟩, nofun, ?_⟩
  exact M
 rintro ⟨ag0, l_12_0⟩ jj0 w4 ⟨h2, h3, M⟩
 refine wc_seq ?_
 refine wc_seq ?_
 refine wc_region ?_
 refine wl_mv M rfl rfl ?_
 refine wl_nil ?_
 refine wc_cond rfl (fun ht15 => ?_) (fun ht15 => ?_)
 ·refine wc_skip ?_
  refine wc_block ?_
  refine wc_seq ?_
  refine wc_region ?_
  refine wl_as M rfl rfl ?_
  refine wl_nil ?_
  refine wc_seq ?_
  refine wc_region ?_
  refine wl_as M rfl rfl ?_
  refine wl_nil ?_
  refine wc_block ?_
  refine wc_loop (α := Nat × Bool × (List Bool)) [8, 9, 10, 11, 16, 17, 18, 19, 20, 21, 22, 23, 24, 25, 26, 27, 28, 29, 30, 31, 32, 33, 34, 35, 36, 37, 38, 39, 40, 41, 42, 43, 44, 45, 46, 47, 48, 49, 50, 51] (fun ((k2, ag2, l_12_2) : Nat × Bool × (List Bool)) => [(8, .bool ag2), (9, .int .i64 (k2 : Int))])
    (fun ((k2, ag2, l_12_2) : Nat × Bool × (List Bool)) w' => (k2 ≤ t.arcs.length) ∧ (Pass t (!back) (onL b0 m) m l_12_0 k2 l_12_2 ag2) ∧ Mem w0 I0 I (row EBool (sv u14) l_12_2 :: box b3 25 [.int .i64 t.states, .int .i64 t.start, sv fu1, sv au1] :: Lt) w')
    (fun ((k2, ag2, l_12_2) : Nat × Bool × (List Bool)) => t.arcs.length - k2) (0, false, l_12_0) ⟨rfl, rfl, trivial⟩ ?_ ?_
  ·refine ⟨Nat.zero_le _, ⟨h2.1.1, h2.2, h2.1.2, nofun, fun _ => ⟨rfl, by simp⟩⟩, ?_⟩
   exact M
  rintro ⟨k2, ag2, l_12_2⟩ jj2 w5 ⟨hk2, hp, M⟩
  refine wc_seq ?_
  refine wc_seq ?_
  refine wc_region ?_
  refine wl_mv M rfl rfl ?_
  refine wl_m M (q_fa fo_25_3 rfl) rfl rfl ?_
  refine wl_m M (q_ldb 1 Tryz.underlying23 rfl rfl rfl rfl) rfl rfl ?_
  refine wl_m M (q_lenR Ra1 Tryz.underlying23 rfl) rfl rfl ?_
  refine wl_m M (q_lss rfl rfl) rfl rfl ?_
  refine wl_nil ?_
  refine wc_dec rfl (fun ht20 => ?_) (fun ht20 => ?_)
  ·obtain ⟨x2, hx2⟩ : ∃ x_, t.arcs[k2]? = some x_ := ⟨_, List.getElem?_eq_getElem (by omega)⟩
   have hx2r := hxs x2 (List.mem_of_getElem? hx2)
   refine wc_skip ?_
   refine wc_seq ?_
   refine wc_block ?_
   refine wc_seq ?_
   refine wc_draws (fun w' => Mem w0 I0 I (row EBool (sv u14) l_12_2 :: box b3 25 [.int .i64 t.states, .int .i64 t.start, sv fu1, sv au1] :: Lt) w' ∧ True) [] fol ?_
   replace M := M.drew
   have hS := (⟨M, trivial⟩ : _ ∧ _)
   refine wa_q 0 rfl (by kernel_rfl) (q_fa fo_25_3 rfl) hS rfl rfl ?_
   refine wa_q 1 rfl (by kernel_rfl) ((q_ldb 1 Tryz.underlying23 rfl rfl rfl rfl).mono fun _ h => h.1) hS rfl rfl ?_
   refine wa_q 2 rfl (by kernel_rfl) (q_move rfl) hS rfl rfl ?_
   refine wa_ixS (j := k2) 3 hS (fun _ h => Ra1.mono h.1.imm) rfl (by kernel_rfl) Tryz.underlying23 rfl rfl hx2 rfl (fun b26 o26 p26 => ?_)
   refine wa_q 4 rfl (by kernel_rfl) (q_fa fo_40_0 rfl) hS rfl rfl ?_
   refine wa_q 5 rfl (by kernel_rfl) (q_ldf p26 Tryz.underlying3 rfl rfl rfl) hS rfl rfl ?_
   refine wa_q 6 rfl (by kernel_rfl) (q_fa fo_25_3 rfl) hS rfl rfl ?_
   refine wa_q 7 rfl (by kernel_rfl) ((q_ldb 1 Tryz.underlying23 rfl rfl rfl rfl).mono fun _ h => h.1) hS rfl rfl ?_
   refine wa_q 8 rfl (by kernel_rfl) (q_move rfl) hS rfl rfl ?_
   refine wa_ixS (j := k2) 9 hS (fun _ h => Ra1.mono h.1.imm) rfl (by kernel_rfl) Tryz.underlying23 rfl rfl hx2 rfl (fun b32 o32 p32 => ?_)
   refine wa_q 10 rfl (by kernel_rfl) (q_fa fo_40_1 rfl) hS rfl rfl ?_
   refine wa_q 11 rfl (by kernel_rfl) (q_ldf p32 Tryz.underlying3 rfl rfl rfl) hS rfl rfl ?_
   refine wa_q 12 rfl (by kernel_rfl) (q_assign rfl) hS rfl rfl ?_
   refine wa_q 13 rfl (by kernel_rfl) (q_assign rfl) hS rfl rfl ?_
   refine wa_done (by kernel_rfl) ?_
   refine wc_seq ?_
   refine wc_seq ?_
   refine wc_region ?_
   refine wl_mv M rfl rfl ?_
   refine wl_nil ?_
   refine wc_cond rfl (fun ht35 => ?_) (fun ht35 => ?_)
   ·have hbk : back = true := ht35
    have hea : eA (!back) x2 = x2.dst := by rw [hbk]; rfl
    have heb : eB (!back) x2 = x2.src := by rw [hbk]; rfl
    obtain ⟨ya, hya⟩ : ∃ y, l_12_2[(eA (!back) x2).toNat]? = some y := ⟨_, List.getElem?_eq_getElem (by rw [hp.len, hea]; omega)⟩
    obtain ⟨yb, hyb⟩ : ∃ y, l_12_2[(eB (!back) x2).toNat]? = some y := ⟨_, List.getElem?_eq_getElem (by rw [hp.len, heb]; omega)⟩
    refine wc_region ?_
    refine wl_mv M rfl rfl ?_
    refine wl_mv M rfl rfl ?_
    refine wl_as M rfl rfl ?_
    refine wl_as M rfl rfl ?_
    refine wl_nil ?_
    refine wc_seq ?_
    refine wc_join (α := Unit) [38, 39, 40, 41, 42, 43, 44, 45, 46, 47, 48] (fun _ => [(48, .bool (ya && (!yb)))]) (fun _ w' => Mem w0 I0 I (row EBool (sv u14) l_12_2 :: box b3 25 [.int .i64 t.states, .int .i64 t.start, sv fu1, sv au1] :: Lt) w') ?_ ?_
    ·refine wc_region ?_
     refine wl_mv M rfl rfl ?_
     refine wl_mv M rfl rfl ?_
     refine wl_ixr (j := ((eA (!back) x2).toNat)) 0 M rfl Tryz.underlying75 rfl (ixe (by rw [hea]; omega)) hya rfl (fun b40 o40 p40 => ?_)
     refine wl_m M (q_ldp p40 rfl rfl) rfl rfl ?_
     refine wl_mv M rfl rfl ?_
     rcases Bool.eq_false_or_eq_true (ya) with hg42 | hg42
     ·refine wl_m M (q_guard 4 rfl rfl rfl hg42 (q_move rfl)) rfl rfl ?_
      refine wl_m M (q_guard 4 rfl rfl rfl hg42 (q_move rfl)) rfl rfl ?_
      refine wl_ixrG (j := ((eB (!back) x2).toNat)) 4 rfl rfl rfl hg42 0 M rfl Tryz.underlying75 rfl (ixe (by rw [heb]; omega)) hyb rfl (fun b45 o45 p45 => ?_)
      refine wl_m M (q_guard 4 rfl rfl rfl hg42 (q_ldp p45 rfl rfl)) rfl rfl ?_
      refine wl_m M (q_guard 4 rfl rfl rfl hg42 (q_not rfl)) rfl rfl ?_
      refine wl_m M (q_pickT rfl hg42 rfl) rfl rfl ?_
      refine wl_nil ?_
      exact ⟨(), M, ⟨(show some (Value.bool (!yb)) = some (Value.bool (ya && (!yb))) from by first | (simp only [hg42, Bool.true_or, Bool.false_or, Bool.true_and, Bool.false_and, Bool.or_true, Bool.or_false, Bool.and_true, Bool.and_false]; done) | simp_all), trivial⟩, unw_take 11 rfl rfl⟩
     refine wl_m M (q_off 4 rfl rfl rfl hg42) rfl rfl ?_
     refine wl_m M (q_off 4 rfl rfl rfl hg42) rfl rfl ?_
     refine wl_m M (q_off 4 rfl rfl rfl hg42) rfl rfl ?_
     refine wl_m M (q_off 4 rfl rfl rfl hg42) rfl rfl ?_
     refine wl_m M (q_off 4 rfl rfl rfl hg42) rfl rfl ?_
     refine wl_m M (q_pickF rfl hg42 rfl) rfl rfl ?_
     refine wl_nil ?_
     exact ⟨(), M, ⟨(show some (Value.bool false) = some (Value.bool (ya && (!yb))) from by first | (simp only [hg42, Bool.true_or, Bool.false_or, Bool.true_and, Bool.false_and, Bool.or_true, Bool.or_false, Bool.and_true, Bool.and_false]; done) | simp_all), trivial⟩, unw_take 11 rfl rfl⟩
    rintro _ jr11 w6 M
    refine wc_cond rfl (fun ht48 => ?_) (fun ht48 => ?_)
    ·refine wc_seq ?_
     refine wc_region ?_
     refine wl_mv M rfl rfl ?_
     refine wl_mv M rfl rfl ?_
     refine wl_ixw (j := ((eB (!back) x2).toNat)) 0 M rfl Tryz.underlying75 rfl (ixe (by rw [heb]; omega)) (by rw [hp.len, heb]; omega) rfl (fun b51 o51 p51 => ?_)
     refine wl_e0 (e_str (u := true) 0 M rfl rfl rfl p51 (by rw [hp.len, heb]; omega) rfl) rfl ?_
     intro _ w7 M
     simp only [sC0, sCS] at M
     refine wl_nil ?_
     refine wc_region ?_
     refine wl_as M rfl rfl ?_
     refine wl_nil ?_
     refine wc_region ?_
     refine wl_mv M rfl rfl ?_
     refine wl_m M (q_add rfl rfl (IntWalk.i64_in _ (by omega))) rfl rfl ?_
     refine wl_as M rfl rfl ?_
     refine wl_nil ?_
     refine ⟨(k2 + 1, true, l_12_2.set ((eB (!back) x2).toNat) true), ?_, ⟨(by omega), (hp.hit hx2 ((bt_of (by rw [hea]; omega) hya).2 (by simpa using (Bool.and_eq_true_iff.1 ht48).1)) (by rw [heb]; omega) (by rw [hyb]; congr 1; simpa using (Bool.and_eq_true_iff.1 ht48).2)), M⟩, ⟨rfl, rfl, trivial⟩, unw_look rfl (unw_hav rfl (unw_look rfl unw_base))⟩
     show t.arcs.length - (k2 + 1) < t.arcs.length - k2
     omega
    refine wc_skip ?_
    refine wc_region ?_
    refine wl_mv M rfl rfl ?_
    refine wl_m M (q_add rfl rfl (IntWalk.i64_in _ (by omega))) rfl rfl ?_
    refine wl_as M rfl rfl ?_
    refine wl_nil ?_
    refine ⟨(k2 + 1, ag2, l_12_2), ?_, ⟨(by omega), (hp.skip hx2 (fun h => (bt_of (by rw [heb]; omega) hyb).2 (by have := (bt_of (by rw [hea]; omega) hya).1 h; subst this; simpa using ht48))), M⟩, ⟨rfl, rfl, trivial⟩, unw_look rfl (unw_hav rfl (unw_look rfl unw_base))⟩
    show t.arcs.length - (k2 + 1) < t.arcs.length - k2
    omega
   have hbk : back = false := ht35
   have hea : eA (!back) x2 = x2.src := by rw [hbk]; rfl
   have heb : eB (!back) x2 = x2.dst := by rw [hbk]; rfl
   obtain ⟨ya, hya⟩ : ∃ y, l_12_2[(eA (!back) x2).toNat]? = some y := ⟨_, List.getElem?_eq_getElem (by rw [hp.len, hea]; omega)⟩
   obtain ⟨yb, hyb⟩ : ∃ y, l_12_2[(eB (!back) x2).toNat]? = some y := ⟨_, List.getElem?_eq_getElem (by rw [hp.len, heb]; omega)⟩
   refine wc_skip ?_
   refine wc_seq ?_
   refine wc_join (α := Unit) [38, 39, 40, 41, 42, 43, 44, 45, 46, 47, 48] (fun _ => [(48, .bool (ya && (!yb)))]) (fun _ w' => Mem w0 I0 I (row EBool (sv u14) l_12_2 :: box b3 25 [.int .i64 t.states, .int .i64 t.start, sv fu1, sv au1] :: Lt) w') ?_ ?_
   ·refine wc_region ?_
    refine wl_mv M rfl rfl ?_
    refine wl_mv M rfl rfl ?_
    refine wl_ixr (j := ((eA (!back) x2).toNat)) 0 M rfl Tryz.underlying75 rfl (ixe (by rw [hea]; omega)) hya rfl (fun b40 o40 p40 => ?_)
    refine wl_m M (q_ldp p40 rfl rfl) rfl rfl ?_
    refine wl_mv M rfl rfl ?_
    rcases Bool.eq_false_or_eq_true (ya) with hg42 | hg42
    ·refine wl_m M (q_guard 4 rfl rfl rfl hg42 (q_move rfl)) rfl rfl ?_
     refine wl_m M (q_guard 4 rfl rfl rfl hg42 (q_move rfl)) rfl rfl ?_
     refine wl_ixrG (j := ((eB (!back) x2).toNat)) 4 rfl rfl rfl hg42 0 M rfl Tryz.underlying75 rfl (ixe (by rw [heb]; omega)) hyb rfl (fun b45 o45 p45 => ?_)
     refine wl_m M (q_guard 4 rfl rfl rfl hg42 (q_ldp p45 rfl rfl)) rfl rfl ?_
     refine wl_m M (q_guard 4 rfl rfl rfl hg42 (q_not rfl)) rfl rfl ?_
     refine wl_m M (q_pickT rfl hg42 rfl) rfl rfl ?_
     refine wl_nil ?_
     exact ⟨(), M, ⟨(show some (Value.bool (!yb)) = some (Value.bool (ya && (!yb))) from by first | (simp only [hg42, Bool.true_or, Bool.false_or, Bool.true_and, Bool.false_and, Bool.or_true, Bool.or_false, Bool.and_true, Bool.and_false]; done) | simp_all), trivial⟩, unw_take 11 rfl rfl⟩
    refine wl_m M (q_off 4 rfl rfl rfl hg42) rfl rfl ?_
    refine wl_m M (q_off 4 rfl rfl rfl hg42) rfl rfl ?_
    refine wl_m M (q_off 4 rfl rfl rfl hg42) rfl rfl ?_
    refine wl_m M (q_off 4 rfl rfl rfl hg42) rfl rfl ?_
    refine wl_m M (q_off 4 rfl rfl rfl hg42) rfl rfl ?_
    refine wl_m M (q_pickF rfl hg42 rfl) rfl rfl ?_
    refine wl_nil ?_
    exact ⟨(), M, ⟨(show some (Value.bool false) = some (Value.bool (ya && (!yb))) from by first | (simp only [hg42, Bool.true_or, Bool.false_or, Bool.true_and, Bool.false_and, Bool.or_true, Bool.or_false, Bool.and_true, Bool.and_false]; done) | simp_all), trivial⟩, unw_take 11 rfl rfl⟩
   rintro _ jr11 w8 M
   refine wc_cond rfl (fun ht48 => ?_) (fun ht48 => ?_)
   ·refine wc_seq ?_
    refine wc_region ?_
    refine wl_mv M rfl rfl ?_
    refine wl_mv M rfl rfl ?_
    refine wl_ixw (j := ((eB (!back) x2).toNat)) 0 M rfl Tryz.underlying75 rfl (ixe (by rw [heb]; omega)) (by rw [hp.len, heb]; omega) rfl (fun b51 o51 p51 => ?_)
    refine wl_e0 (e_str (u := true) 0 M rfl rfl rfl p51 (by rw [hp.len, heb]; omega) rfl) rfl ?_
    intro _ w9 M
    simp only [sC0, sCS] at M
    refine wl_nil ?_
    refine wc_region ?_
    refine wl_as M rfl rfl ?_
    refine wl_nil ?_
    refine wc_region ?_
    refine wl_mv M rfl rfl ?_
    refine wl_m M (q_add rfl rfl (IntWalk.i64_in _ (by omega))) rfl rfl ?_
    refine wl_as M rfl rfl ?_
    refine wl_nil ?_
    refine ⟨(k2 + 1, true, l_12_2.set ((eB (!back) x2).toNat) true), ?_, ⟨(by omega), (hp.hit hx2 ((bt_of (by rw [hea]; omega) hya).2 (by simpa using (Bool.and_eq_true_iff.1 ht48).1)) (by rw [heb]; omega) (by rw [hyb]; congr 1; simpa using (Bool.and_eq_true_iff.1 ht48).2)), M⟩, ⟨rfl, rfl, trivial⟩, unw_look rfl (unw_hav rfl (unw_look rfl unw_base))⟩
    show t.arcs.length - (k2 + 1) < t.arcs.length - k2
    omega
   refine wc_skip ?_
   refine wc_region ?_
   refine wl_mv M rfl rfl ?_
   refine wl_m M (q_add rfl rfl (IntWalk.i64_in _ (by omega))) rfl rfl ?_
   refine wl_as M rfl rfl ?_
   refine wl_nil ?_
   refine ⟨(k2 + 1, ag2, l_12_2), ?_, ⟨(by omega), (hp.skip hx2 (fun h => (bt_of (by rw [heb]; omega) hyb).2 (by have := (bt_of (by rw [hea]; omega) hya).1 h; subst this; simpa using ht48))), M⟩, ⟨rfl, rfl, trivial⟩, unw_look rfl (unw_hav rfl (unw_look rfl unw_base))⟩
   show t.arcs.length - (k2 + 1) < t.arcs.length - k2
   omega
  have hke2 : k2 = t.arcs.length := by omega
  refine wc_exit rfl ?_
  refine ⟨(ag2, l_12_2), ?_, ⟨⟨⟨hp.len, hp.frm⟩, hp.sub⟩, (fun e => by have := (hp.cl e).2; rw [hke2, List.take_length] at this; exact this), M⟩, ⟨rfl, trivial⟩, unw_look rfl (unw_hav rfl (unw_look rfl unw_base))⟩
  show 2 * (l_12_2.count false) + ag2.toNat < 2 * (l_12_0.count false) + ag0.toNat
  subst ht15
  cases hag : ag2 with
  | true => have := hp.up hag; simp; omega
  | false => have := (hp.cl hag).1; subst this; simp
 refine wc_exit rfl ?_
 refine wc_seq ?_
 refine wc_region ?_
 refine wl_mv M rfl rfl ?_
 refine wl_as M rfl rfl ?_
 refine wl_nil ?_
 refine wc_ret ?_
 replace M := M.drop 1
 exact out1 rfl rfl ⟨_, rfl, _, _, rfl, ⟨h2.1.1, fun s => by rw [Pass.fin (m := m) h2.2 h2.1.2 (h3 ht15)]; exact reach_ext (fun _ _ => Iff.rfl) (fun s => mem_onL hb0)⟩, M⟩
set_option maxRecDepth 4000 in
set_option maxHeartbeats 1000000 in
theorem kept3_c {t : Tra} {m : Nat} (ha : t.Ok m) (hf : ∀ f ∈ t.finals, 0 ≤ f ∧ f < m) {v1 : Value} {I : Heap} {w : World} (hI : hle I (hp w)) (R1 : t.rd I v1) : Calls A 43 #[v1] w (Ret w I fun r I' => ∃ kl : List Bool, rdSl EBool I' r kl ∧ kl.length = m ∧ ∀ i, i < m → kl.getD i false = kpS t i) := by
 obtain ⟨fu1, au1, rfl, Rf1, Ra1⟩ := R1
 have hla := Ra1.len_le
 have hlf := Rf1.len_le
 have hst := ha.st
 have hmle := ha.le
 have M := Mem.start hI
 refine enter Tryz.func43 rfl 59 Tryz.ntmps43 [_] rfl ?_
 refine wc_seq ?_
 refine wc_region ?_
 refine wl_e (e_box M rfl) rfl rfl ?_
 rintro _ w1 ⟨b1, rfl, M⟩
 refine wl_as M rfl rfl ?_
 refine wl_nil ?_
 refine wc_seq ?_
 refine wc_join (α := Heap × SV × SV) [3, 4, 9, 10, 11, 12, 13, 14] (fun ((I5, u11, u14) : Heap × SV × SV) => [(3, sv u11), (4, sv u14)]) (fun ((I5, u11, u14) : Heap × SV × SV) w' => hle I I5 ∧ Mem w I I5 (row EBool (sv u11) (List.replicate m false) :: row EBool (sv u14) (List.replicate m false) :: box b1 25 [.int .i64 t.states, .int .i64 t.start, sv fu1, sv au1] :: []) w') ?_ ?_
 ·refine wc_draws (fun w' => Mem w I I (box b1 25 [.int .i64 t.states, .int .i64 t.start, sv fu1, sv au1] :: []) w' ∧ True) [] fol ?_
  replace M := M.drew
  have hS := (⟨M, trivial⟩ : _ ∧ _)
  refine wa_q 0 rfl (by kernel_rfl) (q_fa fo_25_0 rfl) hS rfl rfl ?_
  refine wa_q 1 rfl (by kernel_rfl) ((q_ldb 0 Tryz.underlying3 rfl rfl rfl rfl).mono fun _ h => h.1) hS rfl rfl ?_
  refine wa_q 3 rfl (by kernel_rfl) (q_fa fo_25_0 rfl) hS rfl rfl ?_
  refine wa_q 4 rfl (by kernel_rfl) ((q_ldb 0 Tryz.underlying3 rfl rfl rfl rfl).mono fun _ h => h.1) hS rfl rfl ?_
  refine wa_es [2, 5] (by kernel_rfl) (by decide) ⟨?_, ?_, trivial⟩
  ·refine one_e 2 rfl (e_make (E := EBool) (zv := false) (m := m) M Tryz.underlying75 z4 (by rw [hst]; rfl) (by rw [hst]; rfl) (by show _ * 1 ≤ _; omega)) rfl rfl ?_
   rintro _ w2 ⟨u11, rfl, M⟩
   have hS := (⟨(M.drop 0), trivial⟩ : _ ∧ _)
   refine ⟨fun _ => hS, ?_⟩
   refine wa_q 6 rfl (by kernel_rfl) (q_assign rfl) hS rfl rfl ?_
   refine wa_e 5 rfl (by kernel_rfl) (e_make (E := EBool) (zv := false) (m := m) M Tryz.underlying75 z4 (by rw [hst]; rfl) (by rw [hst]; rfl) (by show _ * 1 ≤ _; omega)) rfl rfl ?_
   rintro _ w3 ⟨u14, rfl, M⟩
   have hS := (⟨((M.drop 0).drop 0), trivial⟩ : _ ∧ _)
   refine ⟨fun _ => hS, ?_⟩
   refine wa_q 7 rfl (by kernel_rfl) (q_assign rfl) hS rfl rfl ?_
   refine wa_done (by kernel_rfl) ?_
   replace M := M.perm (List.Perm.swap _ _ _)
   exact ⟨(I, u11, u14), ⟨hle.refl _, M⟩, ⟨rfl, rfl, trivial⟩, unw_take 8 rfl rfl⟩
  ·refine one_e 5 rfl (e_make (E := EBool) (zv := false) (m := m) M Tryz.underlying75 z4 (by rw [hst]; rfl) (by rw [hst]; rfl) (by show _ * 1 ≤ _; omega)) rfl rfl ?_
   rintro _ w4 ⟨u14, rfl, M⟩
   have hS := (⟨(M.drop 0), trivial⟩ : _ ∧ _)
   refine ⟨fun _ => hS, ?_⟩
   refine wa_e 2 rfl (by kernel_rfl) (e_make (E := EBool) (zv := false) (m := m) M Tryz.underlying75 z4 (by rw [hst]; rfl) (by rw [hst]; rfl) (by show _ * 1 ≤ _; omega)) rfl rfl ?_
   rintro _ w5 ⟨u11, rfl, M⟩
   have hS := (⟨((M.drop 0).drop 0), trivial⟩ : _ ∧ _)
   refine ⟨fun _ => hS, ?_⟩
   refine wa_q 6 rfl (by kernel_rfl) (q_assign rfl) hS rfl rfl ?_
   refine wa_q 7 rfl (by kernel_rfl) (q_assign rfl) hS rfl rfl ?_
   refine wa_done (by kernel_rfl) ?_
   exact ⟨(I, u11, u14), ⟨hle.refl _, M⟩, ⟨rfl, rfl, trivial⟩, unw_take 8 rfl rfl⟩
 rintro ⟨I5, u11, u14⟩ jr1 w6 ⟨hI5, M⟩
 have hoI5 := M.old
 refine wc_seq ?_
 refine wc_region ?_
 refine wl_mv M rfl rfl ?_
 refine wl_m M (q_fa fo_25_1 rfl) rfl rfl ?_
 refine wl_m M (q_ldb 2 Tryz.underlying3 rfl rfl rfl rfl) rfl rfl ?_
 refine wl_ixw (j := t.start.toNat) 0 M rfl Tryz.underlying75 rfl (ixe (by have := ha.start; omega)) (by have := ha.start; rw [List.length_replicate]; omega) rfl (fun b18 o18 p18 => ?_)
 refine wl_e0 (e_str (u := true) 0 M rfl rfl rfl p18 (by have := ha.start; rw [List.length_replicate]; omega) rfl) rfl ?_
 intro _ w7 M
 try simp only [sC0, sCS] at M
 refine wl_nil ?_
 refine wc_seq ?_
 refine wc_seq ?_
 refine wc_region ?_
 refine wl_as M rfl rfl ?_
 refine wl_nil ?_
 refine wc_block ?_
 refine wc_loop (α := Nat × (List Bool)) [5, 19, 20, 21, 22, 23, 24, 25, 26, 27, 28, 29, 30, 31, 32] (fun ((k0, l_14_0) : Nat × (List Bool)) => [(5, .int .i64 (k0 : Int))])
   (fun ((k0, l_14_0) : Nat × (List Bool)) w' => (k0 ≤ t.finals.length) ∧ (l_14_0.length = m ∧ ∀ s, bt l_14_0 s ↔ s ∈ t.finals.take k0) ∧ Mem w I I5 (row EBool (sv u11) ((List.replicate m false).set t.start.toNat true) :: row EBool (sv u14) l_14_0 :: box b1 25 [.int .i64 t.states, .int .i64 t.start, sv fu1, sv au1] :: []) w')
   (fun ((k0, l_14_0) : Nat × (List Bool)) => t.finals.length - k0) (0, List.replicate m false) ⟨rfl, trivial⟩ ?_ ?_
 ·refine ⟨Nat.zero_le _, ⟨by simp, fun s => by simp [bt_rep]⟩, ?_⟩
  exact M
 rintro ⟨k0, l_14_0⟩ jj0 w8 ⟨hk0, he, M⟩
 have hoI5 := M.old
 refine wc_seq ?_
 refine wc_seq ?_
 refine wc_region ?_
 refine wl_mv M rfl rfl ?_
 refine wl_m M (q_fa fo_25_2 rfl) rfl rfl ?_
 refine wl_m M (q_ldb 2 Tryz.underlying22 rfl rfl rfl rfl) rfl rfl ?_
 refine wl_m M (q_lenR (Rf1.mono hI5) Tryz.underlying22 rfl) rfl rfl ?_
 refine wl_m M (q_lss rfl rfl) rfl rfl ?_
 refine wl_nil ?_
 refine wc_dec rfl (fun ht23 => ?_) (fun ht23 => ?_)
 ·obtain ⟨x0, hx0⟩ : ∃ x_, t.finals[k0]? = some x_ := ⟨_, List.getElem?_eq_getElem (by omega)⟩
  have hx0r := hf x0 (List.mem_of_getElem? hx0)
  refine wc_skip ?_
  refine wc_seq ?_
  refine wc_block ?_
  refine wc_region ?_
  refine wl_mv M rfl rfl ?_
  refine wl_m M (q_fa fo_25_2 rfl) rfl rfl ?_
  refine wl_m M (q_ldb 2 Tryz.underlying22 rfl rfl rfl rfl) rfl rfl ?_
  refine wl_mv M rfl rfl ?_
  refine wl_ix (j := k0) M (Rf1.mono hI5) Tryz.underlying22 rfl rfl hx0 rfl (fun b30 o30 p30 => ?_)
  refine wl_m M (q_ldp p30 rfl rfl) rfl rfl ?_
  refine wl_ixw (j := x0.toNat) 1 M rfl Tryz.underlying75 rfl (ixe (by omega)) (by rw [he.1]; omega) rfl (fun b32 o32 p32 => ?_)
  refine wl_e0 (e_str (u := true) 1 M rfl rfl rfl p32 (by rw [he.1]; omega) rfl) rfl ?_
  intro _ w9 M
  try simp only [sC0, sCS] at M
  refine wl_nil ?_
  refine wc_region ?_
  refine wl_mv M rfl rfl ?_
  refine wl_m M (q_add rfl rfl (IntWalk.i64_in _ (by omega))) rfl rfl ?_
  refine wl_as M rfl rfl ?_
  refine wl_nil ?_
  refine ⟨(k0 + 1, l_14_0.set x0.toNat true), ?_, ⟨(by omega), ⟨by simp [he.1], fun s => by rw [bt_set (by rw [he.1]; omega), he.2, take_snoc hx0]; simp [or_comm]⟩, M⟩, ⟨rfl, trivial⟩, unw_look rfl unw_base⟩
  show t.finals.length - (k0 + 1) < t.finals.length - k0
  omega
 have hke0 : k0 = t.finals.length := by omega
 refine wc_exit rfl ?_
 refine wc_seq ?_
 rw [hke0, List.take_length] at he
 have hst0 : ∀ s, bt ((List.replicate m false).set t.start.toNat true) s ↔ s ∈ [t.start] := fun s => by rw [bt_set (by rw [List.length_replicate]; exact ha.start)]; simp [bt_rep]
 obtain ⟨I21, M, hI21, Rq1⟩ := M.frzRow 0 rfl
 have hoI21 := M.old
 obtain ⟨I22, M, hI22, Rq2⟩ := M.frzRow 0 rfl
 have hoI22 := M.old
 refine wc_join (α := Heap × (List Bool) × (List Bool) × SV × SV) [6, 7, 33, 34, 35, 36, 37, 38] (fun ((I6, up, dn, u35, u38) : Heap × (List Bool) × (List Bool) × SV × SV) => [(6, sv u35), (7, sv u38)]) (fun ((I6, up, dn, u35, u38) : Heap × (List Bool) × (List Bool) × SV × SV) w' => hle I22 I6 ∧ (up.length = m ∧ ∀ s, bt up s ↔ Reach (stp t true) (· ∈ [t.start]) s) ∧ (dn.length = m ∧ ∀ s, bt dn s ↔ Reach (stp t false) (· ∈ t.finals) s) ∧ Mem w I I6 (row EBool (sv u35) up :: row EBool (sv u38) dn :: box b1 25 [.int .i64 t.states, .int .i64 t.start, sv fu1, sv au1] :: []) w') ?_ ?_
 ·refine wc_draws (fun w' => Mem w I I22 (box b1 25 [.int .i64 t.states, .int .i64 t.start, sv fu1, sv au1] :: []) w' ∧ True) [] fol ?_
  replace M := M.drew
  have hS := (⟨M, trivial⟩ : _ ∧ _)
  refine wa_q 0 rfl (by kernel_rfl) ((q_ldbA 0 Tryz.underlying25 rfl sz25 rfl rfl rfl rfl).mono fun _ h => h.1) hS rfl rfl ?_
  refine wa_q 1 rfl (by kernel_rfl) (q_move rfl) hS rfl rfl ?_
  refine wa_q 3 rfl (by kernel_rfl) ((q_ldbA 0 Tryz.underlying25 rfl sz25 rfl rfl rfl rfl).mono fun _ h => h.1) hS rfl rfl ?_
  refine wa_q 4 rfl (by kernel_rfl) (q_move rfl) hS rfl rfl ?_
  refine wa_e 2 rfl (by kernel_rfl) (e_callR Tryz.func66 rfl (vs := [.agg #[.int .i64 t.states, .int .i64 t.start, sv fu1, sv au1], sv u11, .bool false]) rfl (reach3_c (t := t) hmle ha.arcs (by simp) false ⟨_, _, rfl, (((Rf1.mono hI5).mono hI21).mono hI22), (((Ra1.mono hI5).mono hI21).mono hI22)⟩ (Rq1.mono hI22) M)) rfl rfl ?_
  rintro _ w10 ⟨u35, up, rfl, hup, M⟩
  replace hup : up.length = m ∧ ∀ s, bt up s ↔ Reach (stp t true) (· ∈ [t.start]) s := ⟨hup.1, fun s => by rw [hup.2]; exact reach_ext (fun _ _ => Iff.rfl) hst0⟩
  try simp only [sC0, sCS] at M
  have hS := (⟨(M.drop 0), trivial⟩ : _ ∧ _)
  refine ⟨fun _ => hS, ?_⟩
  refine wa_e 5 rfl (by kernel_rfl) (e_callR Tryz.func66 rfl (vs := [.agg #[.int .i64 t.states, .int .i64 t.start, sv fu1, sv au1], sv u14, .bool true]) rfl (reach3_c (t := t) hmle ha.arcs he.1 true ⟨_, _, rfl, (((Rf1.mono hI5).mono hI21).mono hI22), (((Ra1.mono hI5).mono hI21).mono hI22)⟩ Rq2 M)) rfl rfl ?_
  rintro _ w11 ⟨u38, dn, rfl, hdn, M⟩
  replace hdn : dn.length = m ∧ ∀ s, bt dn s ↔ Reach (stp t false) (· ∈ t.finals) s := ⟨hdn.1, fun s => by rw [hdn.2]; exact reach_ext (fun _ _ => Iff.rfl) he.2⟩
  try simp only [sC0, sCS] at M
  have hS := (⟨((M.drop 0).drop 0), trivial⟩ : _ ∧ _)
  refine ⟨fun _ => hS, ?_⟩
  refine wa_q 6 rfl (by kernel_rfl) (q_assign rfl) hS rfl rfl ?_
  refine wa_q 7 rfl (by kernel_rfl) (q_assign rfl) hS rfl rfl ?_
  refine wa_done (by kernel_rfl) ?_
  replace M := M.perm (List.Perm.swap _ _ _)
  exact ⟨(I22, up, dn, u35, u38), ⟨hle.refl _, hup, hdn, M⟩, ⟨rfl, rfl, trivial⟩, unw_take 8 rfl rfl⟩
 rintro ⟨I6, up, dn, u35, u38⟩ jr7 w12 ⟨hI6, hup, hdn, M⟩
 have hoI6 := M.old
 refine wc_seq ?_
 refine wc_seq ?_
 refine wc_region ?_
 refine wl_as M rfl rfl ?_
 refine wl_nil ?_
 refine wc_block ?_
 refine wc_loop (α := Nat × (List Bool)) [8, 39, 40, 41, 42, 43, 44, 45, 46, 47, 48, 49, 50, 51, 52, 53, 54, 55, 56, 57] (fun ((k2, l_35_2) : Nat × (List Bool)) => [(8, .int .i64 (k2 : Int))])
   (fun ((k2, l_35_2) : Nat × (List Bool)) w' => (k2 ≤ m) ∧ (l_35_2.length = m ∧ (∀ i, i < k2 → l_35_2.getD i false = kpS t i) ∧ ∀ i, k2 ≤ i → l_35_2.getD i false = up.getD i false) ∧ Mem w I I6 (row EBool (sv u35) l_35_2 :: row EBool (sv u38) dn :: box b1 25 [.int .i64 t.states, .int .i64 t.start, sv fu1, sv au1] :: []) w')
   (fun ((k2, l_35_2) : Nat × (List Bool)) => m - k2) (0, up) ⟨rfl, trivial⟩ ?_ ?_
 ·refine ⟨Nat.zero_le _, ⟨hup.1, fun i hi => absurd hi (Nat.not_lt_zero _), fun i _ => rfl⟩, ?_⟩
  exact M
 rintro ⟨k2, l_35_2⟩ jj2 w13 ⟨hk2, hk, M⟩
 have hoI6 := M.old
 refine wc_seq ?_
 refine wc_seq ?_
 refine wc_region ?_
 refine wl_mv M rfl rfl ?_
 refine wl_m M (q_fa fo_25_0 rfl) rfl rfl ?_
 refine wl_m M (q_ldb 2 Tryz.underlying3 rfl rfl rfl rfl) rfl rfl ?_
 refine wl_m M (q_lss rfl rfl) rfl rfl ?_
 refine wl_nil ?_
 refine wc_dec rfl (fun ht42 => ?_) (fun ht42 => ?_)
 ·refine wc_skip ?_
  refine wc_seq ?_
  refine wc_block ?_
  refine wc_region ?_
  refine wl_mv M rfl rfl ?_
  refine wl_mv M rfl rfl ?_
  refine wl_mv M rfl rfl ?_
  refine wl_mv M rfl rfl ?_
  refine wl_ixr (j := k2) 0 M rfl Tryz.underlying75 rfl (ixe (by omega)) (getD_at (d := false) (by rw [hk.1]; omega)) rfl (fun b49 o49 p49 => ?_)
  refine wl_m M (q_ldp p49 rfl rfl) rfl rfl ?_
  refine wl_mv M rfl rfl ?_
  rcases Bool.eq_false_or_eq_true ((l_35_2.getD k2 false)) with hg51 | hg51
  ·refine wl_m M (q_guard 6 rfl rfl rfl hg51 (q_move rfl)) rfl rfl ?_
   refine wl_m M (q_guard 6 rfl rfl rfl hg51 (q_move rfl)) rfl rfl ?_
   refine wl_ixrG (j := k2) 6 rfl rfl rfl hg51 1 M rfl Tryz.underlying75 rfl (ixe (by omega)) (getD_at (d := false) (by rw [hdn.1]; omega)) rfl (fun b54 o54 p54 => ?_)
   refine wl_m M (q_guard 6 rfl rfl rfl hg51 (q_ldp p54 rfl rfl)) rfl rfl ?_
   refine wl_m M (q_pickT rfl hg51 rfl) rfl rfl ?_
   refine wl_ixw (j := k2) 0 M rfl Tryz.underlying75 rfl (ixe (by omega)) (by rw [hk.1]; omega) rfl (fun b57 o57 p57 => ?_)
   refine wl_e0 (e_str (u := (dn.getD k2 false)) 0 M rfl rfl rfl p57 (by rw [hk.1]; omega) rfl) rfl ?_
   intro _ w14 M
   try simp only [sC0, sCS] at M
   refine wl_nil ?_
   refine wc_region ?_
   refine wl_mv M rfl rfl ?_
   refine wl_m M (q_add rfl rfl (IntWalk.i64_in _ (by omega))) rfl rfl ?_
   refine wl_as M rfl rfl ?_
   refine wl_nil ?_
   refine ⟨(k2 + 1, l_35_2.set k2 (dn.getD k2 false)), ?_, ⟨(by omega), (kep_set hk (by omega) (by have h9 := kpB_S hup.2 hdn.2 k2; rw [kpB, ← hk.2.2 k2 (Nat.le_refl _), hg51] at h9; simpa using h9)), M⟩, ⟨rfl, trivial⟩, unw_look rfl unw_base⟩
   show m - (k2 + 1) < m - k2
   omega
  refine wl_m M (q_off 6 rfl rfl rfl hg51) rfl rfl ?_
  refine wl_m M (q_off 6 rfl rfl rfl hg51) rfl rfl ?_
  refine wl_m M (q_off 6 rfl rfl rfl hg51) rfl rfl ?_
  refine wl_m M (q_off 6 rfl rfl rfl hg51) rfl rfl ?_
  refine wl_m M (q_pickF rfl hg51 rfl) rfl rfl ?_
  refine wl_ixw (j := k2) 0 M rfl Tryz.underlying75 rfl (ixe (by omega)) (by rw [hk.1]; omega) rfl (fun b57 o57 p57 => ?_)
  refine wl_e0 (e_str (u := false) 0 M rfl rfl rfl p57 (by rw [hk.1]; omega) rfl) rfl ?_
  intro _ w15 M
  try simp only [sC0, sCS] at M
  refine wl_nil ?_
  refine wc_region ?_
  refine wl_mv M rfl rfl ?_
  refine wl_m M (q_add rfl rfl (IntWalk.i64_in _ (by omega))) rfl rfl ?_
  refine wl_as M rfl rfl ?_
  refine wl_nil ?_
  refine ⟨(k2 + 1, l_35_2.set k2 false), ?_, ⟨(by omega), (kep_set hk (by omega) (by have h9 := kpB_S hup.2 hdn.2 k2; rw [kpB, ← hk.2.2 k2 (Nat.le_refl _), hg51] at h9; simpa using h9)), M⟩, ⟨rfl, trivial⟩, unw_look rfl unw_base⟩
  show m - (k2 + 1) < m - k2
  omega
 have hke2 : k2 = m := by omega
 rw [hke2] at hk
 refine wc_exit rfl ?_
 refine wc_seq ?_
 refine wc_region ?_
 refine wl_mv M rfl rfl ?_
 refine wl_as M rfl rfl ?_
 refine wl_nil ?_
 refine wc_ret ?_
 obtain ⟨K1, M, hK1, Rk1⟩ := M.frzRow 0 rfl
 exact out1 rfl rfl ⟨_, K1, rfl, (M.grow : Grow w I _ K1), _, Rk1, hk.1, hk.2.1⟩
theorem empty3_c (t : Tra) {v1 : Value} {I : Heap} {w : World} (hI : hle I (hp w)) (R1 : t.rd I v1) : Calls A 15 #[v1] w (Ret w I fun r _ => r = .bool (emptyS t)) := by
 obtain ⟨fu1, au1, rfl, Rf1, Ra1⟩ := R1
 have M := Mem.start hI
 refine enter Tryz.func15 rfl 15 Tryz.ntmps15 [_] rfl ?_
 refine wc_seq ?_
 refine wc_region ?_
 refine wl_e (e_box M rfl) rfl rfl ?_
 rintro _ w1 ⟨b1, rfl, M⟩
 refine wl_as M rfl rfl ?_
 refine wl_nil ?_
 refine wc_seq ?_
 refine wc_join (α := Unit) [2, 3, 4, 5, 6, 7, 8, 9, 10, 11, 12, 13, 14] (fun _ => [(2, .bool ((!(validT t)) || (!(kpS t t.start.toNat))))]) (fun _ w' => Mem w I I (box b1 25 [.int .i64 t.states, .int .i64 t.start, sv fu1, sv au1] :: []) w') ?_ ?_
 ·refine wc_draws (fun w' => Mem w I I (box b1 25 [.int .i64 t.states, .int .i64 t.start, sv fu1, sv au1] :: []) w' ∧ True) [] fol ?_
  replace M := M.drew
  have hS := (⟨M, trivial⟩ : _ ∧ _)
  refine wa_q 0 rfl (by kernel_rfl) ((q_ldbA 0 Tryz.underlying25 rfl sz25 rfl rfl rfl rfl).mono fun _ h => h.1) hS rfl rfl ?_
  refine wa_e 1 rfl (by kernel_rfl) (e_callC M (valid3_c t M.imm ⟨_, _, rfl, Rf1, Ra1⟩) Tryz.func11 rfl rfl) rfl rfl ?_
  rintro _ w2 ⟨J4, hJ4, rfl, M⟩
  have hS := (⟨(M.less hJ4 (fun _ _ => rfl)), trivial⟩ : _ ∧ _)
  refine ⟨fun _ => hS, ?_⟩
  replace M := M.less hJ4 (fun _ _ => rfl)
  refine wa_q 2 rfl (by kernel_rfl) (q_not rfl) hS rfl rfl ?_
  refine wa_q 3 rfl (by kernel_rfl) (q_move rfl) hS rfl rfl ?_
  rcases Bool.eq_false_or_eq_true (!(validT t)) with hg6 | hg6
  ·refine wa_q 4 rfl (by kernel_rfl) (q_off 3 rfl rfl rfl hg6) hS rfl rfl ?_
   refine wa_q 6 rfl (by kernel_rfl) (q_off 3 rfl rfl rfl hg6) hS rfl rfl ?_
   refine wa_q 7 rfl (by kernel_rfl) (q_off 3 rfl rfl rfl hg6) hS rfl rfl ?_
   refine wa_q 5 rfl (by kernel_rfl) (q_off 3 rfl rfl rfl hg6) hS rfl rfl ?_
   refine wa_q 8 rfl (by kernel_rfl) (q_off 3 rfl rfl rfl hg6) hS rfl rfl ?_
   refine wa_q 9 rfl (by kernel_rfl) (q_off 3 rfl rfl rfl hg6) hS rfl rfl ?_
   refine wa_q 10 rfl (by kernel_rfl) (q_off 3 rfl rfl rfl hg6) hS rfl rfl ?_
   refine wa_q 11 rfl (by kernel_rfl) (q_pickT rfl hg6 rfl) hS rfl rfl ?_
   refine wa_q 12 rfl (by kernel_rfl) (q_assign rfl) hS rfl rfl ?_
   refine wa_done (by kernel_rfl) ?_
   exact ⟨(), M, ⟨(show some (Value.bool true) = some (Value.bool ((!(validT t)) || (!(kpS t t.start.toNat)))) from by first | (simp only [hg6, Bool.true_or, Bool.false_or, Bool.true_and, Bool.false_and, Bool.or_true, Bool.or_false, Bool.and_true, Bool.and_false]; done) | simp_all), trivial⟩, unw_take 13 rfl rfl⟩
  refine wa_q 4 rfl (by kernel_rfl) ((q_guard 3 rfl rfl rfl hg6 (q_ldbA 0 Tryz.underlying25 rfl sz25 rfl rfl rfl rfl)).mono fun _ h => h.1) hS rfl rfl ?_
  refine wa_q 6 rfl (by kernel_rfl) (q_guard 3 rfl rfl rfl hg6 (q_fa fo_25_1 rfl)) hS rfl rfl ?_
  refine wa_q 7 rfl (by kernel_rfl) ((q_guard 3 rfl rfl rfl hg6 (q_ldb 0 Tryz.underlying3 rfl rfl rfl rfl)).mono fun _ h => h.1) hS rfl rfl ?_
  obtain ⟨m, ha, hrf⟩ := valid_rng (t := t) (by simpa using hg6)
  have hs0 := ha.start
  refine wa_e 5 rfl (by kernel_rfl) (e_guard 3 rfl rfl rfl hg6 (e_callC M (kept3_c ha hrf M.imm ⟨_, _, rfl, Rf1, Ra1⟩) Tryz.func43 rfl rfl)) rfl rfl ?_
  rintro v8 w3 ⟨J8, hJ8, ⟨kl, R8, hkl⟩, M⟩
  obtain ⟨u8, rfl⟩ := rdSl_slice R8
  have hoJ8 := M.old
  have hS := (⟨(M.less hJ8 (fun _ _ => rfl)), trivial⟩ : _ ∧ _)
  refine ⟨fun _ => hS, ?_⟩
  refine wa_ix1G (j := t.start.toNat) 3 rfl rfl rfl hg6 8 M hS R8 rfl (by kernel_rfl) Tryz.underlying75 rfl (ixe (by omega)) (kep_at hkl (by omega)) rfl (fun b11 o11 p11 => ?_)
  refine wa_q1 9 rfl (by kernel_rfl) (q_guard 3 rfl rfl rfl hg6 (q_ldp p11 rfl rfl)) M rfl rfl (fun _ => hS) ?_
  refine wa_q 10 rfl (by kernel_rfl) (q_guard 3 rfl rfl rfl hg6 (q_not rfl)) hS rfl rfl ?_
  refine wa_q 11 rfl (by kernel_rfl) (q_pickF rfl hg6 rfl) hS rfl rfl ?_
  refine wa_q 12 rfl (by kernel_rfl) (q_assign rfl) hS rfl rfl ?_
  refine wa_done (by kernel_rfl) ?_
  replace M := M.less hJ8 (fun _ _ => rfl)
  exact ⟨(), M, ⟨(show some (Value.bool (!(kpS t t.start.toNat))) = some (Value.bool ((!(validT t)) || (!(kpS t t.start.toNat)))) from by first | (simp only [hg6, Bool.true_or, Bool.false_or, Bool.true_and, Bool.false_and, Bool.or_true, Bool.or_false, Bool.and_true, Bool.and_false]; done) | simp_all), trivial⟩, unw_take 13 rfl rfl⟩
 rintro _ jr1 w4 M
 refine wc_ret ?_
 exact out1 rfl rfl ⟨_, _, rfl, M.grow, by rw [empty3]⟩
set_option maxRecDepth 4000 in
set_option maxHeartbeats 1000000 in
theorem shortest3_c (t : Tra) (h3 : t.states ≤ 3) (hv : validT t = true) (hs4 : (alphL t false).length ≤ 2) (hs5 : (alphL t true).length ≤ 2) (hex : emptyS t = false → ∃ a b, Rel t a b ∧ (a.length : Int) + b.length ≤ 2 * t.states) {v1 : Value} {I : Heap} {w : World} (hI : hle I (hp w)) (hT : Tabs I) (R1 : t.rd I v1) : Calls A 13 #[v1] w (Ret w I fun r _ => ∃ (x y : ByteArray) (b : Bool), r = .tuple #[.string x, .string y, .bool b] ∧ ShtR t x y b) := by
 obtain ⟨fu1, au1, rfl, Rf1, Ra1⟩ := R1
 obtain ⟨m, ha, _⟩ := valid_rng hv
 have hal := ha.alen
 have hst := ha.st
 have M := Mem.start hI
 refine enter Tryz.func13 rfl 69 Tryz.ntmps13 [_] rfl ?_
 refine wc_seq ?_
 refine wc_region ?_
 refine wl_e (e_box M rfl) rfl rfl ?_
 rintro _ w1 ⟨b1, rfl, M⟩
 refine wl_as M rfl rfl ?_
 refine wl_as M rfl rfl ?_
 refine wl_as M rfl rfl ?_
 refine wl_nil ?_
 refine wc_seq ?_
 refine wc_seq ?_
 refine wc_region ?_
 refine wl_m M (q_ldbA 0 Tryz.underlying25 rfl sz25 rfl rfl rfl rfl) rfl rfl ?_
 refine wl_e (e_callC M (empty3_c t M.imm ⟨_, _, rfl, Rf1, Ra1⟩) Tryz.func15 rfl rfl) rfl rfl ?_
 rintro _ w2 ⟨J14, hJ14, rfl, M⟩
 replace M := M.less hJ14 (fun _ _ => rfl)
 refine wl_nil ?_
 refine wc_cond rfl (fun ht14 => ?_) (fun ht14 => ?_)
 ·refine wc_seq ?_
  refine wc_region ?_
  refine wl_as M rfl rfl ?_
  refine wl_as M rfl rfl ?_
  refine wl_as M rfl rfl ?_
  refine wl_nil ?_
  refine wc_ret ?_
  exact out3 rfl rfl rfl rfl ⟨_, _, rfl, M.grow, _, _, _, rfl, fun _ => ⟨rfl, rfl, rfl⟩, fun h => by rw [h] at ht14; cases ht14⟩
 refine wc_skip ?_
 refine wc_seq ?_
 refine wc_join (α := Heap × SV × SV) [5, 6, 15, 16, 17, 18] (fun ((I6, u16, u18) : Heap × SV × SV) => [(5, sv u16), (6, sv u18)]) (fun ((I6, u16, u18) : Heap × SV × SV) w' => hle I I6 ∧ rdSl ERune I6 (sv u16) (alphL t false) ∧ rdSl ERune I6 (sv u18) (alphL t true) ∧ Mem w I I6 (box b1 25 [.int .i64 t.states, .int .i64 t.start, sv fu1, sv au1] :: []) w') ?_ ?_
 ·refine wc_draws (fun w' => Mem w I I (box b1 25 [.int .i64 t.states, .int .i64 t.start, sv fu1, sv au1] :: []) w' ∧ True) [] fol ?_
  replace M := M.drew
  have hS := (⟨M, trivial⟩ : _ ∧ _)
  refine wa_q 0 rfl (by kernel_rfl) ((q_ldbA 0 Tryz.underlying25 rfl sz25 rfl rfl rfl rfl).mono fun _ h => h.1) hS rfl rfl ?_
  refine wa_q 2 rfl (by kernel_rfl) ((q_ldbA 0 Tryz.underlying25 rfl sz25 rfl rfl rfl rfl).mono fun _ h => h.1) hS rfl rfl ?_
  refine wa_e 1 rfl (by kernel_rfl) (e_callC M (alphabet_c t hal false M.imm ⟨_, _, rfl, Rf1, Ra1⟩) Tryz.func16 rfl rfl) rfl rfl ?_
  rintro v16 w3 ⟨J16, hJ16, R16, M⟩
  obtain ⟨u16, rfl⟩ := rdSl_slice R16
  have hoJ16 := M.old
  have hS := (⟨(M.less hJ16 (fun _ _ => rfl)), trivial⟩ : _ ∧ _)
  refine ⟨fun _ => hS, ?_⟩
  refine wa_e 3 rfl (by kernel_rfl) (e_callC M (alphabet_c t hal true M.imm ⟨_, _, rfl, (Rf1.mono hJ16), (Ra1.mono hJ16)⟩) Tryz.func16 rfl rfl) rfl rfl ?_
  rintro v18 w4 ⟨J18, hJ18, R18, M⟩
  obtain ⟨u18, rfl⟩ := rdSl_slice R18
  have hoJ18 := M.old
  have hS := (⟨(M.less (hle.trans hJ16 hJ18) (fun _ _ => rfl)), trivial⟩ : _ ∧ _)
  refine ⟨fun _ => hS, ?_⟩
  refine wa_q 4 rfl (by kernel_rfl) (q_assign rfl) hS rfl rfl ?_
  refine wa_q 5 rfl (by kernel_rfl) (q_assign rfl) hS rfl rfl ?_
  refine wa_done (by kernel_rfl) ?_
  exact ⟨(J18, u16, u18), ⟨(hle.trans hJ16 hJ18), (R16.mono hJ18), R18, M⟩, ⟨rfl, rfl, trivial⟩, unw_take 6 rfl rfl⟩
 rintro ⟨I6, u16, u18⟩ jr3 w5 ⟨hI6, R16, R18, M⟩
 have hoI6 := M.old
 refine wc_seq ?_
 refine wc_seq ?_
 refine wc_region ?_
 refine wl_as M rfl rfl ?_
 refine wl_nil ?_
 refine wc_block ?_
 refine wc_loop (α := Nat) [2, 3, 4, 7, 8, 9, 10, 11, 12, 19, 20, 21, 22, 23, 24, 25, 26, 27, 28, 29, 30, 31, 32, 33, 34, 35, 36, 37, 38, 39, 40, 41, 42, 43, 44, 45, 46, 47, 48, 49, 50, 51, 52, 53, 54, 55, 56, 57, 58, 59, 60, 61, 62, 63, 64, 65, 66, 67, 68] (fun (k0 : Nat) => [(7, .int .i64 (k0 : Int))])
   (fun (k0 : Nat) w' => (k0 ≤ 2 * m + 1) ∧ (No0 t k0) ∧ Mem w I I6 (box b1 25 [.int .i64 t.states, .int .i64 t.start, sv fu1, sv au1] :: []) w')
   (fun (k0 : Nat) => 2 * m + 1 - k0) (0) ⟨rfl, trivial⟩ ?_ ?_
 ·refine ⟨Nat.zero_le _, fun _ _ _ => Nat.zero_le _, ?_⟩
  exact M
 rintro k0 jj0 w6 ⟨hk0, n0, M⟩
 have hoI6 := M.old
 refine wc_seq ?_
 refine wc_seq ?_
 refine wc_region ?_
 refine wl_mv M rfl rfl ?_
 refine wl_m M (q_fa fo_25_0 rfl) rfl rfl ?_
 refine wl_m M (q_ldb 0 Tryz.underlying3 rfl rfl rfl rfl) rfl rfl ?_
 refine wl_m M (q_mul rfl rfl (IntWalk.i64_in _ (by omega))) rfl rfl ?_
 refine wl_m M (q_leq rfl rfl) rfl rfl ?_
 refine wl_nil ?_
 refine wc_dec rfl (fun ht23 => ?_) (fun ht23 => ?_)
 ·refine wc_skip ?_
  refine wc_seq ?_
  refine wc_block ?_
  refine wc_seq ?_
  refine wc_region ?_
  refine wl_as M rfl rfl ?_
  refine wl_nil ?_
  refine wc_block ?_
  refine wc_loop (α := Nat) [2, 3, 4, 8, 9, 10, 11, 12, 26, 27, 28, 29, 30, 31, 32, 33, 34, 35, 36, 37, 38, 39, 40, 41, 42, 43, 44, 45, 46, 47, 48, 49, 50, 51, 52, 53, 54, 55, 56, 57, 58, 59, 60, 61, 62, 63, 64, 65, 66, 67, 68] (fun (k2 : Nat) => [(8, .int .i64 (k2 : Int))])
    (fun (k2 : Nat) w' => (k2 ≤ k0 + 1) ∧ (No2 t k0 k2) ∧ Mem w I I6 (box b1 25 [.int .i64 t.states, .int .i64 t.start, sv fu1, sv au1] :: []) w')
    (fun (k2 : Nat) => k0 + 1 - k2) (0) ⟨rfl, trivial⟩ ?_ ?_
  ·refine ⟨Nat.zero_le _, n0.opn, ?_⟩
   exact M
  rintro k2 jj2 w7 ⟨hk2, n2, M⟩
  have hoI6 := M.old
  refine wc_seq ?_
  refine wc_seq ?_
  refine wc_region ?_
  refine wl_mv M rfl rfl ?_
  refine wl_mv M rfl rfl ?_
  refine wl_m M (q_leq rfl rfl) rfl rfl ?_
  refine wl_nil ?_
  refine wc_dec rfl (fun ht28 => ?_) (fun ht28 => ?_)
  ·have hmx : (List.map strL (strs (alphL t false) k2)).length = (strs (alphL t false) k2).length := List.length_map ..
   have hmy : (List.map strL (strs (alphL t true) (k0 - k2))).length = (strs (alphL t true) (k0 - k2)).length := List.length_map ..
   have h64x := strs_64 hs4 (n := k2) (by omega)
   have h64y := strs_64 hs5 (n := k0 - k2) (by omega)
   refine wc_skip ?_
   refine wc_seq ?_
   refine wc_block ?_
   refine wc_seq ?_
   refine wc_region ?_
   refine wl_mv M rfl rfl ?_
   refine wl_mv M rfl rfl ?_
   refine wl_e (e_callC M (strings_c (l := (alphL t false)) hs4 k2 (by omega) M.imm R16) Tryz.func32 rfl rfl) rfl rfl ?_
   rintro v33 w8 ⟨J33, hJ33, R33, M⟩
   obtain ⟨u33, rfl⟩ := rdSl_slice R33
   have hoJ33 := M.old
   replace R33 : rdSl EStr J33 (sv u33) ((strs (alphL t false) k2).map strL) := R33
   refine wl_mv M rfl rfl ?_
   refine wl_mv M rfl rfl ?_
   refine wl_mv M rfl rfl ?_
   refine wl_m M (q_sub (z := ((k0 - k2 : Nat) : Int)) rfl rfl (by rw [show (k0 : Int) - (k2 : Int) = ((k0 - k2 : Nat) : Int) by omega]; exact IntWalk.i64_in _ (by omega))) rfl rfl ?_
   refine wl_e (e_callC M (strings_c (l := (alphL t true)) hs5 (k0 - k2) (by omega) M.imm (R18.mono hJ33)) Tryz.func32 rfl rfl) rfl rfl ?_
   rintro v38 w9 ⟨J38, hJ38, R38, M⟩
   obtain ⟨u38, rfl⟩ := rdSl_slice R38
   have hoJ38 := M.old
   replace R38 : rdSl EStr J38 (sv u38) ((strs (alphL t true) (k0 - k2)).map strL) := R38
   refine wl_as M rfl rfl ?_
   refine wl_as M rfl rfl ?_
   refine wl_nil ?_
   refine wc_seq ?_
   refine wc_region ?_
   refine wl_as M rfl rfl ?_
   refine wl_nil ?_
   refine wc_block ?_
   refine wc_loop (α := Nat) [2, 3, 4, 11, 12, 39, 40, 41, 42, 43, 44, 45, 46, 47, 48, 49, 50, 51, 52, 53, 54, 55, 56, 57, 58, 59, 60, 61, 62, 63, 64, 65, 66, 67, 68] (fun (k4 : Nat) => [(11, .int .i64 (k4 : Int))])
     (fun (k4 : Nat) w' => (k4 ≤ (strs (alphL t false) k2).length) ∧ (No4 t k0 k2 k4) ∧ Mem w I J38 (box b1 25 [.int .i64 t.states, .int .i64 t.start, sv fu1, sv au1] :: []) w')
     (fun (k4 : Nat) => (strs (alphL t false) k2).length - k4) (0) ⟨rfl, trivial⟩ ?_ ?_
   ·refine ⟨Nat.zero_le _, n2.opn, ?_⟩
    exact M
   rintro k4 jj4 w10 ⟨hk4, n4, M⟩
   have hoJ38 := M.old
   refine wc_seq ?_
   refine wc_seq ?_
   refine wc_region ?_
   refine wl_mv M rfl rfl ?_
   refine wl_mv M rfl rfl ?_
   refine wl_m M (q_lenR (R33.mono hJ38) Tryz.underlying29 rfl) rfl rfl ?_
   refine wl_m M (q_lss rfl rfl) rfl rfl ?_
   refine wl_nil ?_
   refine wc_dec rfl (fun ht42 => ?_) (fun ht42 => ?_)
   ·obtain ⟨x4, hx4⟩ : ∃ x_, (strs (alphL t false) k2)[k4]? = some x_ := ⟨_, List.getElem?_eq_getElem (by omega)⟩
    have hx4l := (mem_strs.1 (List.mem_of_getElem? hx4)).1
    refine wc_skip ?_
    refine wc_seq ?_
    refine wc_block ?_
    refine wc_seq ?_
    refine wc_region ?_
    refine wl_as M rfl rfl ?_
    refine wl_nil ?_
    refine wc_block ?_
    refine wc_loop (α := Nat) [2, 3, 4, 12, 45, 46, 47, 48, 49, 50, 51, 52, 53, 54, 55, 56, 57, 58, 59, 60, 61, 62, 63, 64, 65, 66, 67, 68] (fun (k6 : Nat) => [(12, .int .i64 (k6 : Int))])
      (fun (k6 : Nat) w' => (k6 ≤ (strs (alphL t true) (k0 - k2)).length) ∧ (No6 t k0 k2 k4 x4 k6) ∧ Mem w I J38 (box b1 25 [.int .i64 t.states, .int .i64 t.start, sv fu1, sv au1] :: []) w')
      (fun (k6 : Nat) => (strs (alphL t true) (k0 - k2)).length - k6) (0) ⟨rfl, trivial⟩ ?_ ?_
    ·refine ⟨Nat.zero_le _, n4.opn, ?_⟩
     exact M
    rintro k6 jj6 w11 ⟨hk6, n6, M⟩
    have hoJ38 := M.old
    refine wc_seq ?_
    refine wc_seq ?_
    refine wc_region ?_
    refine wl_mv M rfl rfl ?_
    refine wl_mv M rfl rfl ?_
    refine wl_m M (q_lenR R38 Tryz.underlying29 rfl) rfl rfl ?_
    refine wl_m M (q_lss rfl rfl) rfl rfl ?_
    refine wl_nil ?_
    refine wc_dec rfl (fun ht48 => ?_) (fun ht48 => ?_)
    ·obtain ⟨x6, hx6⟩ : ∃ x_, (strs (alphL t true) (k0 - k2))[k6]? = some x_ := ⟨_, List.getElem?_eq_getElem (by omega)⟩
     have hx6l := (mem_strs.1 (List.mem_of_getElem? hx6)).1
     refine wc_skip ?_
     refine wc_seq ?_
     refine wc_block ?_
     refine wc_seq ?_
     refine wc_draws (fun w' => Mem w I J38 (box b1 25 [.int .i64 t.states, .int .i64 t.start, sv fu1, sv au1] :: []) w' ∧ True) [] fol ?_
     replace M := M.drew
     have hS := (⟨M, trivial⟩ : _ ∧ _)
     refine wa_q 0 rfl (by kernel_rfl) ((q_ldbA 0 Tryz.underlying25 rfl sz25 rfl rfl rfl rfl).mono fun _ h => h.1) hS rfl rfl ?_
     refine wa_q 1 rfl (by kernel_rfl) (q_move rfl) hS rfl rfl ?_
     refine wa_q 2 rfl (by kernel_rfl) (q_move rfl) hS rfl rfl ?_
     refine wa_ixS (j := k4) 3 hS (fun _ h => (R33.mono hJ38).mono h.1.imm) rfl (by kernel_rfl) Tryz.underlying29 rfl (ixe (by omega)) (by rw [List.getElem?_map, hx4]; rfl) rfl (fun b54 o54 p54 => ?_)
     refine wa_q 4 rfl (by kernel_rfl) (q_ldp p54 rfl rfl) hS rfl rfl ?_
     refine wa_q 5 rfl (by kernel_rfl) (q_move rfl) hS rfl rfl ?_
     refine wa_q 6 rfl (by kernel_rfl) (q_move rfl) hS rfl rfl ?_
     refine wa_ixS (j := k6) 7 hS (fun _ h => R38.mono h.1.imm) rfl (by kernel_rfl) Tryz.underlying29 rfl (ixe (by omega)) (by rw [List.getElem?_map, hx6]; rfl) rfl (fun b58 o58 p58 => ?_)
     refine wa_q 8 rfl (by kernel_rfl) (q_ldp p58 rfl rfl) hS rfl rfl ?_
     refine wa_e 9 rfl (by kernel_rfl) (e_callC M (bool_to (relS_pair hv (List.mem_of_getElem? hx4) (List.mem_of_getElem? hx6)) (relates3_c t (strL x4) (strL x6) (by have := strL_size x4; omega) (by have := strL_size x6; omega) M.imm (((hT.mono hI6).mono hJ33).mono hJ38) ⟨_, _, rfl, (((Rf1.mono hI6).mono hJ33).mono hJ38), (((Ra1.mono hI6).mono hJ33).mono hJ38)⟩)) Tryz.func33 rfl rfl) rfl rfl ?_
     rintro _ w12 ⟨J60, hJ60, rfl, M⟩
     have hS := (⟨(M.less hJ60 hoJ38), trivial⟩ : _ ∧ _)
     refine ⟨fun _ => hS, ?_⟩
     replace M := M.less hJ60 hoJ38
     refine wa_done (by kernel_rfl) ?_
     refine wc_cond rfl (fun ht60 => ?_) (fun ht60 => ?_)
     ·refine wc_seq ?_
      refine wc_draws (fun w' => Mem w I J38 (box b1 25 [.int .i64 t.states, .int .i64 t.start, sv fu1, sv au1] :: []) w' ∧ True) [] fol ?_
      replace M := M.drew
      have hS := (⟨M, trivial⟩ : _ ∧ _)
      refine wa_q 0 rfl (by kernel_rfl) (q_move rfl) hS rfl rfl ?_
      refine wa_q 1 rfl (by kernel_rfl) (q_move rfl) hS rfl rfl ?_
      refine wa_ixS (j := k4) 2 hS (fun _ h => (R33.mono hJ38).mono h.1.imm) rfl (by kernel_rfl) Tryz.underlying29 rfl (ixe (by omega)) (by rw [List.getElem?_map, hx4]; rfl) rfl (fun b63 o63 p63 => ?_)
      refine wa_q 3 rfl (by kernel_rfl) (q_ldp p63 rfl rfl) hS rfl rfl ?_
      refine wa_q 4 rfl (by kernel_rfl) (q_move rfl) hS rfl rfl ?_
      refine wa_q 5 rfl (by kernel_rfl) (q_move rfl) hS rfl rfl ?_
      refine wa_ixS (j := k6) 6 hS (fun _ h => R38.mono h.1.imm) rfl (by kernel_rfl) Tryz.underlying29 rfl (ixe (by omega)) (by rw [List.getElem?_map, hx6]; rfl) rfl (fun b67 o67 p67 => ?_)
      refine wa_q 7 rfl (by kernel_rfl) (q_ldp p67 rfl rfl) hS rfl rfl ?_
      refine wa_q 8 rfl (by kernel_rfl) (q_assign rfl) hS rfl rfl ?_
      refine wa_q 9 rfl (by kernel_rfl) (q_assign rfl) hS rfl rfl ?_
      refine wa_q 10 rfl (by kernel_rfl) (q_assign rfl) hS rfl rfl ?_
      refine wa_done (by kernel_rfl) ?_
      refine wc_ret ?_
      exact out3 rfl rfl rfl rfl ⟨_, _, rfl, M.grow, _, _, _, rfl, fun h => (by rw [h] at ht14; cases ht14), fun _ => ⟨rfl, x4, x6, rfl, rfl, relB_iff.1 ht60, No6.found (by omega) hx4 hx6 n6⟩⟩
     refine wc_skip ?_
     refine wc_region ?_
     refine wl_mv M rfl rfl ?_
     refine wl_m M (q_add rfl rfl (IntWalk.i64_in _ (by omega))) rfl rfl ?_
     refine wl_as M rfl rfl ?_
     refine wl_nil ?_
     refine ⟨(k6 + 1), ?_, ⟨(by omega), No6.next hx6 n6 ht60, M⟩, ⟨rfl, trivial⟩, unw_look rfl unw_base⟩
     show (strs (alphL t true) (k0 - k2)).length - (k6 + 1) < (strs (alphL t true) (k0 - k2)).length - k6
     omega
    have hke6 : k6 = (strs (alphL t true) (k0 - k2)).length := by omega
    rw [hke6] at n6
    refine wc_exit rfl ?_
    refine wc_region ?_
    refine wl_mv M rfl rfl ?_
    refine wl_m M (q_add rfl rfl (IntWalk.i64_in _ (by omega))) rfl rfl ?_
    refine wl_as M rfl rfl ?_
    refine wl_nil ?_
    refine ⟨(k4 + 1), ?_, ⟨(by omega), No6.done (by omega) hx4 n6, M⟩, ⟨rfl, trivial⟩, unw_look rfl (unw_hav rfl (unw_look rfl unw_base))⟩
    show (strs (alphL t false) k2).length - (k4 + 1) < (strs (alphL t false) k2).length - k4
    omega
   have hke4 : k4 = (strs (alphL t false) k2).length := by omega
   rw [hke4] at n4
   refine wc_exit rfl ?_
   refine wc_region ?_
   refine wl_mv M rfl rfl ?_
   refine wl_m M (q_add rfl rfl (IntWalk.i64_in _ (by omega))) rfl rfl ?_
   refine wl_as M rfl rfl ?_
   refine wl_nil ?_
   replace M := M.less (hle.trans hJ33 hJ38) hoI6
   refine ⟨(k2 + 1), ?_, ⟨(by omega), No4.done n4, M⟩, ⟨rfl, trivial⟩, unw_look rfl (unw_hav rfl (unw_look rfl unw_base))⟩
   show k0 + 1 - (k2 + 1) < k0 + 1 - k2
   omega
  have hke2 : k2 = k0 + 1 := by omega
  rw [hke2] at n2
  refine wc_exit rfl ?_
  refine wc_region ?_
  refine wl_mv M rfl rfl ?_
  refine wl_m M (q_add rfl rfl (IntWalk.i64_in _ (by omega))) rfl rfl ?_
  refine wl_as M rfl rfl ?_
  refine wl_nil ?_
  refine ⟨(k0 + 1), ?_, ⟨(by omega), No2.done n2, M⟩, ⟨rfl, trivial⟩, unw_look rfl (unw_hav rfl (unw_look rfl unw_base))⟩
  show 2 * m + 1 - (k0 + 1) < 2 * m + 1 - k0
  omega
 have hke0 : k0 = 2 * m + 1 := by omega
 rw [hke0] at n0
 refine wc_exit rfl ?_
 refine wc_seq ?_
 refine wc_region ?_
 refine wl_as M rfl rfl ?_
 refine wl_as M rfl rfl ?_
 refine wl_as M rfl rfl ?_
 refine wl_nil ?_
 refine wc_ret ?_
 exfalso
 obtain ⟨a, b, hr, hb⟩ := hex ht14
 have := n0 a b hr
 omega
end Go.Proofs.YtfepjcmjkaolgaaGreatDoor.G
