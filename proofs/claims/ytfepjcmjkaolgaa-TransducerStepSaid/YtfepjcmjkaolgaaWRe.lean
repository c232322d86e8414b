/- Walks of the program's functions. -/
import Derived.Test.YtfepjcmjkaolgaaGRf3
import Derived.Test.YtfepjcmjkaolgaaWE
set_option linter.all false
namespace Go.Proofs.Ytfepjcmjkaolgaa.G
open Go Go.RowKit
theorem reach3_c {t : Tra} {m : Nat} (hm : m ≤ 512) (hxs : ∀ x ∈ t.arcs, (0 ≤ x.src ∧ x.src < m) ∧ 0 ≤ x.dst ∧ x.dst < m) {b0 : List Bool} (hb0 : b0.length = m) (back : Bool) {v : Value} {ub : SV} {w0 w : World} {I0 I : Heap} {Lt : List Res} (R1 : t.rd I v) (Rb : rdSl EBool I (sv ub) b0) (M : Mem w0 I0 I Lt w) :
    Calls A 58 #[v, sv ub, .bool back] w (fun e w' => ∃ v, e = .returned v ∧ ∃ (u' : SV) (bs : List Bool), v = sv u' ∧ (bs.length = m ∧ ∀ s, bt bs s ↔ Reach (stp t (!back)) (bt b0) s) ∧ Mem w0 I0 I (row EBool (sv u') bs :: Lt) w') := by
 obtain ⟨fu1, au1, rfl, Rf1, Ra1⟩ := R1
 have hla := Ra1.len_le
 have hoI := M.old
 refine enter Try.func58 rfl 53 Try.ntmps58 [_, _, _] rfl ?_
 refine wc_seq ?_
 refine wc_region ?_
 refine wl_e (e_box M rfl) rfl rfl ?_
 rintro _ w1 ⟨b3, rfl, M⟩
 refine wl_as M rfl rfl ?_
 refine wl_nil ?_
 refine wc_seq ?_
 refine wc_region ?_
 refine wl_e (e_bsR (E := EBool) (xs := []) M (bs_89_0) trivial rfl rfl (by decide)) rfl rfl ?_
 rintro _ w2 ⟨u12, rfl, M⟩
 refine wl_mv M rfl rfl ?_
 refine wl_e (e_app 0 M rfl Rb Try.underlying89 rfl rfl (by show (_ + _) * 1 ≤ _; simp only [List.length_nil]; omega)) rfl rfl ?_
 rintro _ w3 ⟨u14, rfl, M⟩
 simp only [sC0, sCS] at M
 refine wl_as M rfl rfl ?_
 refine wl_nil ?_
 refine wc_seq ?_
 refine wc_seq ?_
 refine wc_region ?_
 refine wl_as M rfl rfl ?_
 refine wl_nil ?_
 refine wc_block ?_
 refine wc_loop (α := Bool × (List Bool)) [8, 9, 10, 11, 15, 16, 17, 18, 19, 20, 21, 22, 23, 24, 25, 26, 27, 28, 29, 30, 31, 32, 33, 34, 35, 36, 37, 38, 39, 40, 41, 42, 43, 44, 45, 46, 47, 48, 49, 50, 51] (fun ((ag0, l_12_0) : Bool × (List Bool)) => [(8, .bool ag0)])
   (fun ((ag0, l_12_0) : Bool × (List Bool)) w' => ((l_12_0.length = m ∧ ∀ s ∈ (onL b0 m), bt l_12_0 s) ∧ (∀ s, bt l_12_0 s → Reach (stp t (!back)) (· ∈ (onL b0 m)) s)) ∧ (ag0 = false → ∀ x ∈ t.arcs, bt l_12_0 (eA (!back) x) → bt l_12_0 (eB (!back) x)) ∧ Mem w0 I0 I (row EBool (sv u14) l_12_0 :: box b3 25 [.int .i64 t.states, .int .i64 t.start, sv fu1, sv au1] :: Lt) w')
   (fun ((ag0, l_12_0) : Bool × (List Bool)) => 2 * (l_12_0.count false) + ag0.toNat) (true, [] ++ b0) ⟨rfl, trivial⟩ ?_ ?_
 ·refine ⟨⟨⟨hb0, fun s hs => (mem_onL hb0).1 hs⟩, fun s hs => .base ((mem_onL hb0).2 hs)⟩, nofun, ?_⟩
  exact M
 rintro ⟨ag0, l_12_0⟩ jj0 w4 ⟨h2, h3, M⟩
 refine wc_seq ?_
 refine wc_seq ?_
 refine wc_region ?_
 refine wl_mv M rfl rfl ?_
 refine wl_nil ?_
 refine wc_cond rfl (fun ht15 => ?_) (fun ht15 => ?_)
 ·refine wc_skip ?_
  refine wc_block ?_
  refine wc_seq ?_
  refine wc_region ?_
  refine wl_as M rfl rfl ?_
  refine wl_nil ?_
  refine wc_seq ?_
  refine wc_region ?_
  refine wl_as M rfl rfl ?_
  refine wl_nil ?_
  refine wc_block ?_
  refine wc_loop (α := Nat × Bool × (List Bool)) [8, 9, 10, 11, 16, 17, 18, 19, 20, 21, 22, 23, 24, 25, 26, 27, 28, 29, 30, 31, 32, 33, 34, 35, 36, 37, 38, 39, 40, 41, 42, 43, 44, 45, 46, 47, 48, 49, 50, 51] (fun ((k2, ag2, l_12_2) : Nat × Bool × (List Bool)) => [(8, .bool ag2), (9, .int .i64 (k2 : Int))])
    (fun ((k2, ag2, l_12_2) : Nat × Bool × (List Bool)) w' => (k2 ≤ t.arcs.length) ∧ (Pass t (!back) (onL b0 m) m l_12_0 k2 l_12_2 ag2) ∧ Mem w0 I0 I (row EBool (sv u14) l_12_2 :: box b3 25 [.int .i64 t.states, .int .i64 t.start, sv fu1, sv au1] :: Lt) w')
    (fun ((k2, ag2, l_12_2) : Nat × Bool × (List Bool)) => t.arcs.length - k2) (0, false, l_12_0) ⟨rfl, rfl, trivial⟩ ?_ ?_
  ·refine ⟨Nat.zero_le _, ⟨h2.1.1, h2.2, h2.1.2, nofun, fun _ => ⟨rfl, by simp⟩⟩, ?_⟩
   exact M
  rintro ⟨k2, ag2, l_12_2⟩ jj2 w5 ⟨hk2, hp, M⟩
  refine wc_seq ?_
  refine wc_seq ?_
  refine wc_region ?_
  refine wl_mv M rfl rfl ?_
  refine wl_m M (q_fa fo_25_3 rfl) rfl rfl ?_
  refine wl_m M (q_ldb 1 Try.underlying23 rfl rfl rfl rfl) rfl rfl ?_
  refine wl_m M (q_lenR Ra1 Try.underlying23 rfl) rfl rfl ?_
  refine wl_m M (q_lss rfl rfl) rfl rfl ?_
  refine wl_nil ?_
  refine wc_dec rfl (fun ht20 => ?_) (fun ht20 => ?_)
  ·obtain ⟨x2, hx2⟩ : ∃ x_, t.arcs[k2]? = some x_ := ⟨_, List.getElem?_eq_getElem (by omega)⟩
   have hx2r := hxs x2 (List.mem_of_getElem? hx2)
   refine wc_skip ?_
   refine wc_seq ?_
   refine wc_block ?_
   refine wc_seq ?_
   refine wc_draws (fun w' => Mem w0 I0 I (row EBool (sv u14) l_12_2 :: box b3 25 [.int .i64 t.states, .int .i64 t.start, sv fu1, sv au1] :: Lt) w' ∧ True) [] fol ?_
   replace M := M.drew
   have hS := (⟨M, trivial⟩ : _ ∧ _)
   refine wa_q 0 rfl (by kernel_rfl) (q_fa fo_25_3 rfl) hS rfl rfl ?_
   refine wa_q 1 rfl (by kernel_rfl) ((q_ldb 1 Try.underlying23 rfl rfl rfl rfl).mono fun _ h => h.1) hS rfl rfl ?_
   refine wa_q 2 rfl (by kernel_rfl) (q_move rfl) hS rfl rfl ?_
   refine wa_ixS (j := k2) 3 hS (fun _ h => Ra1.mono h.1.imm) rfl (by kernel_rfl) Try.underlying23 rfl rfl hx2 rfl (fun b26 o26 p26 => ?_)
   refine wa_q 4 rfl (by kernel_rfl) (q_fa fo_50_0 rfl) hS rfl rfl ?_
   refine wa_q 5 rfl (by kernel_rfl) (q_ldf p26 Try.underlying3 rfl rfl rfl) hS rfl rfl ?_
   refine wa_q 6 rfl (by kernel_rfl) (q_fa fo_25_3 rfl) hS rfl rfl ?_
   refine wa_q 7 rfl (by kernel_rfl) ((q_ldb 1 Try.underlying23 rfl rfl rfl rfl).mono fun _ h => h.1) hS rfl rfl ?_
   refine wa_q 8 rfl (by kernel_rfl) (q_move rfl) hS rfl rfl ?_
   refine wa_ixS (j := k2) 9 hS (fun _ h => Ra1.mono h.1.imm) rfl (by kernel_rfl) Try.underlying23 rfl rfl hx2 rfl (fun b32 o32 p32 => ?_)
   refine wa_q 10 rfl (by kernel_rfl) (q_fa fo_50_1 rfl) hS rfl rfl ?_
   refine wa_q 11 rfl (by kernel_rfl) (q_ldf p32 Try.underlying3 rfl rfl rfl) hS rfl rfl ?_
   refine wa_q 12 rfl (by kernel_rfl) (q_assign rfl) hS rfl rfl ?_
   refine wa_q 13 rfl (by kernel_rfl) (q_assign rfl) hS rfl rfl ?_
   refine wa_done (by kernel_rfl) ?_
   refine wc_seq ?_
   refine wc_seq ?_
   refine wc_region ?_
   refine wl_mv M rfl rfl ?_
   refine wl_nil ?_
   refine wc_cond rfl (fun ht35 => ?_) (fun ht35 => ?_)
   ·have hbk : back = true := ht35
    have hea : eA (!back) x2 = x2.dst := by rw [hbk]; rfl
    have heb : eB (!back) x2 = x2.src := by rw [hbk]; rfl
    obtain ⟨ya, hya⟩ : ∃ y, l_12_2[(eA (!back) x2).toNat]? = some y := ⟨_, List.getElem?_eq_getElem (by rw [hp.len, hea]; omega)⟩
    obtain ⟨yb, hyb⟩ : ∃ y, l_12_2[(eB (!back) x2).toNat]? = some y := ⟨_, List.getElem?_eq_getElem (by rw [hp.len, heb]; omega)⟩
    refine wc_region ?_
    refine wl_mv M rfl rfl ?_
    refine wl_mv M rfl rfl ?_
    refine wl_as M rfl rfl ?_
    refine wl_as M rfl rfl ?_
    refine wl_nil ?_
    refine wc_seq ?_
    refine wc_join (α := Unit) [38, 39, 40, 41, 42, 43, 44, 45, 46, 47, 48] (fun _ => [(48, .bool (ya && (!yb)))]) (fun _ w' => Mem w0 I0 I (row EBool (sv u14) l_12_2 :: box b3 25 [.int .i64 t.states, .int .i64 t.start, sv fu1, sv au1] :: Lt) w') ?_ ?_
    ·refine wc_region ?_
     refine wl_mv M rfl rfl ?_
     refine wl_mv M rfl rfl ?_
     refine wl_ixr (j := ((eA (!back) x2).toNat)) 0 M rfl Try.underlying89 rfl (ixe (by rw [hea]; omega)) hya rfl (fun b40 o40 p40 => ?_)
     refine wl_m M (q_ldp p40 rfl rfl) rfl rfl ?_
     refine wl_mv M rfl rfl ?_
     rcases Bool.eq_false_or_eq_true (ya) with hg42 | hg42
     ·refine wl_m M (q_guard 4 rfl rfl rfl hg42 (q_move rfl)) rfl rfl ?_
      refine wl_m M (q_guard 4 rfl rfl rfl hg42 (q_move rfl)) rfl rfl ?_
      refine wl_ixrG (j := ((eB (!back) x2).toNat)) 4 rfl rfl rfl hg42 0 M rfl Try.underlying89 rfl (ixe (by rw [heb]; omega)) hyb rfl (fun b45 o45 p45 => ?_)
      refine wl_m M (q_guard 4 rfl rfl rfl hg42 (q_ldp p45 rfl rfl)) rfl rfl ?_
      refine wl_m M (q_guard 4 rfl rfl rfl hg42 (q_not rfl)) rfl rfl ?_
      refine wl_m M (q_pickT rfl hg42 rfl) rfl rfl ?_
      refine wl_nil ?_
      exact ⟨(), M, ⟨(show some (Value.bool (!yb)) = some (Value.bool (ya && (!yb))) from by first | (simp only [hg42, Bool.true_or, Bool.false_or, Bool.true_and, Bool.false_and, Bool.or_true, Bool.or_false, Bool.and_true, Bool.and_false]; done) | simp_all), trivial⟩, unw_take 11 rfl rfl⟩
     refine wl_m M (q_off 4 rfl rfl rfl hg42) rfl rfl ?_
     refine wl_m M (q_off 4 rfl rfl rfl hg42) rfl rfl ?_
     refine wl_m M (q_off 4 rfl rfl rfl hg42) rfl rfl ?_
     refine wl_m M (q_off 4 rfl rfl rfl hg42) rfl rfl ?_
     refine wl_m M (q_off 4 rfl rfl rfl hg42) rfl rfl ?_
     refine wl_m M (q_pickF rfl hg42 rfl) rfl rfl ?_
     refine wl_nil ?_
     exact ⟨(), M, ⟨(show some (Value.bool false) = some (Value.bool (ya && (!yb))) from by first | (simp only [hg42, Bool.true_or, Bool.false_or, Bool.true_and, Bool.false_and, Bool.or_true, Bool.or_false, Bool.and_true, Bool.and_false]; done) | simp_all), trivial⟩, unw_take 11 rfl rfl⟩
    rintro _ jr11 w6 M
    refine wc_cond rfl (fun ht48 => ?_) (fun ht48 => ?_)
    ·refine wc_seq ?_
     refine wc_region ?_
     refine wl_mv M rfl rfl ?_
     refine wl_mv M rfl rfl ?_
     refine wl_ixw (j := ((eB (!back) x2).toNat)) 0 M rfl Try.underlying89 rfl (ixe (by rw [heb]; omega)) (by rw [hp.len, heb]; omega) rfl (fun b51 o51 p51 => ?_)
     refine wl_e0 (e_str (u := true) 0 M rfl rfl rfl p51 (by rw [hp.len, heb]; omega) rfl) rfl ?_
     intro _ w7 M
     simp only [sC0, sCS] at M
     refine wl_nil ?_
     refine wc_region ?_
     refine wl_as M rfl rfl ?_
     refine wl_nil ?_
     refine wc_region ?_
     refine wl_mv M rfl rfl ?_
     refine wl_m M (q_add rfl rfl (IntWalk.i64_in _ (by omega))) rfl rfl ?_
     refine wl_as M rfl rfl ?_
     refine wl_nil ?_
     refine ⟨(k2 + 1, true, l_12_2.set ((eB (!back) x2).toNat) true), ?_, ⟨(by omega), (hp.hit hx2 ((bt_of (by rw [hea]; omega) hya).2 (by simpa using (Bool.and_eq_true_iff.1 ht48).1)) (by rw [heb]; omega) (by rw [hyb]; congr 1; simpa using (Bool.and_eq_true_iff.1 ht48).2)), M⟩, ⟨rfl, rfl, trivial⟩, unw_look rfl (unw_hav rfl (unw_look rfl unw_base))⟩
     show t.arcs.length - (k2 + 1) < t.arcs.length - k2
     omega
    refine wc_skip ?_
    refine wc_region ?_
    refine wl_mv M rfl rfl ?_
    refine wl_m M (q_add rfl rfl (IntWalk.i64_in _ (by omega))) rfl rfl ?_
    refine wl_as M rfl rfl ?_
    refine wl_nil ?_
    refine ⟨(k2 + 1, ag2, l_12_2), ?_, ⟨(by omega), (hp.skip hx2 (fun h => (bt_of (by rw [heb]; omega) hyb).2 (by have := (bt_of (by rw [hea]; omega) hya).1 h; subst this; simpa using ht48))), M⟩, ⟨rfl, rfl, trivial⟩, unw_look rfl (unw_hav rfl (unw_look rfl unw_base))⟩
    show t.arcs.length - (k2 + 1) < t.arcs.length - k2
    omega
   have hbk : back = false := ht35
   have hea : eA (!back) x2 = x2.src := by rw [hbk]; rfl
   have heb : eB (!back) x2 = x2.dst := by rw [hbk]; rfl
   obtain ⟨ya, hya⟩ : ∃ y, l_12_2[(eA (!back) x2).toNat]? = some y := ⟨_, List.getElem?_eq_getElem (by rw [hp.len, hea]; omega)⟩
   obtain ⟨yb, hyb⟩ : ∃ y, l_12_2[(eB (!back) x2).toNat]? = some y := ⟨_, List.getElem?_eq_getElem (by rw [hp.len, heb]; omega)⟩
   refine wc_skip ?_
   refine wc_seq ?_
   refine wc_join (α := Unit) [38, 39, 40, 41, 42, 43, 44, 45, 46, 47, 48] (fun _ => [(48, .bool (ya && (!yb)))]) (fun _ w' => Mem w0 I0 I (row EBool (sv u14) l_12_2 :: box b3 25 [.int .i64 t.states, .int .i64 t.start, sv fu1, sv au1] :: Lt) w') ?_ ?_
   ·refine wc_region ?_
    refine wl_mv M rfl rfl ?_
    refine wl_mv M rfl rfl ?_
    refine wl_ixr (j := ((eA (!back) x2).toNat)) 0 M rfl Try.underlying89 rfl (ixe (by rw [hea]; omega)) hya rfl (fun b40 o40 p40 => ?_)
    refine wl_m M (q_ldp p40 rfl rfl) rfl rfl ?_
    refine wl_mv M rfl rfl ?_
    rcases Bool.eq_false_or_eq_true (ya) with hg42 | hg42
    ·refine wl_m M (q_guard 4 rfl rfl rfl hg42 (q_move rfl)) rfl rfl ?_
     refine wl_m M (q_guard 4 rfl rfl rfl hg42 (q_move rfl)) rfl rfl ?_
     refine wl_ixrG (j := ((eB (!back) x2).toNat)) 4 rfl rfl rfl hg42 0 M rfl Try.underlying89 rfl (ixe (by rw [heb]; omega)) hyb rfl (fun b45 o45 p45 => ?_)
     refine wl_m M (q_guard 4 rfl rfl rfl hg42 (q_ldp p45 rfl rfl)) rfl rfl ?_
     refine wl_m M (q_guard 4 rfl rfl rfl hg42 (q_not rfl)) rfl rfl ?_
     refine wl_m M (q_pickT rfl hg42 rfl) rfl rfl ?_
     refine wl_nil ?_
     exact ⟨(), M, ⟨(show some (Value.bool (!yb)) = some (Value.bool (ya && (!yb))) from by first | (simp only [hg42, Bool.true_or, Bool.false_or, Bool.true_and, Bool.false_and, Bool.or_true, Bool.or_false, Bool.and_true, Bool.and_false]; done) | simp_all), trivial⟩, unw_take 11 rfl rfl⟩
    refine wl_m M (q_off 4 rfl rfl rfl hg42) rfl rfl ?_
    refine wl_m M (q_off 4 rfl rfl rfl hg42) rfl rfl ?_
    refine wl_m M (q_off 4 rfl rfl rfl hg42) rfl rfl ?_
    refine wl_m M (q_off 4 rfl rfl rfl hg42) rfl rfl ?_
    refine wl_m M (q_off 4 rfl rfl rfl hg42) rfl rfl ?_
    refine wl_m M (q_pickF rfl hg42 rfl) rfl rfl ?_
    refine wl_nil ?_
    exact ⟨(), M, ⟨(show some (Value.bool false) = some (Value.bool (ya && (!yb))) from by first | (simp only [hg42, Bool.true_or, Bool.false_or, Bool.true_and, Bool.false_and, Bool.or_true, Bool.or_false, Bool.and_true, Bool.and_false]; done) | simp_all), trivial⟩, unw_take 11 rfl rfl⟩
   rintro _ jr11 w8 M
   refine wc_cond rfl (fun ht48 => ?_) (fun ht48 => ?_)
   ·refine wc_seq ?_
    refine wc_region ?_
    refine wl_mv M rfl rfl ?_
    refine wl_mv M rfl rfl ?_
    refine wl_ixw (j := ((eB (!back) x2).toNat)) 0 M rfl Try.underlying89 rfl (ixe (by rw [heb]; omega)) (by rw [hp.len, heb]; omega) rfl (fun b51 o51 p51 => ?_)
    refine wl_e0 (e_str (u := true) 0 M rfl rfl rfl p51 (by rw [hp.len, heb]; omega) rfl) rfl ?_
    intro _ w9 M
    simp only [sC0, sCS] at M
    refine wl_nil ?_
    refine wc_region ?_
    refine wl_as M rfl rfl ?_
    refine wl_nil ?_
    refine wc_region ?_
    refine wl_mv M rfl rfl ?_
    refine wl_m M (q_add rfl rfl (IntWalk.i64_in _ (by omega))) rfl rfl ?_
    refine wl_as M rfl rfl ?_
    refine wl_nil ?_
    refine ⟨(k2 + 1, true, l_12_2.set ((eB (!back) x2).toNat) true), ?_, ⟨(by omega), (hp.hit hx2 ((bt_of (by rw [hea]; omega) hya).2 (by simpa using (Bool.and_eq_true_iff.1 ht48).1)) (by rw [heb]; omega) (by rw [hyb]; congr 1; simpa using (Bool.and_eq_true_iff.1 ht48).2)), M⟩, ⟨rfl, rfl, trivial⟩, unw_look rfl (unw_hav rfl (unw_look rfl unw_base))⟩
    show t.arcs.length - (k2 + 1) < t.arcs.length - k2
    omega
   refine wc_skip ?_
   refine wc_region ?_
   refine wl_mv M rfl rfl ?_
   refine wl_m M (q_add rfl rfl (IntWalk.i64_in _ (by omega))) rfl rfl ?_
   refine wl_as M rfl rfl ?_
   refine wl_nil ?_
   refine ⟨(k2 + 1, ag2, l_12_2), ?_, ⟨(by omega), (hp.skip hx2 (fun h => (bt_of (by rw [heb]; omega) hyb).2 (by have := (bt_of (by rw [hea]; omega) hya).1 h; subst this; simpa using ht48))), M⟩, ⟨rfl, rfl, trivial⟩, unw_look rfl (unw_hav rfl (unw_look rfl unw_base))⟩
   show t.arcs.length - (k2 + 1) < t.arcs.length - k2
   omega
  have hke2 : k2 = t.arcs.length := by omega
  refine wc_exit rfl ?_
  refine ⟨(ag2, l_12_2), ?_, ⟨⟨⟨hp.len, hp.frm⟩, hp.sub⟩, (fun e => by have := (hp.cl e).2; rw [hke2, List.take_length] at this; exact this), M⟩, ⟨rfl, trivial⟩, unw_look rfl (unw_hav rfl (unw_look rfl unw_base))⟩
  show 2 * (l_12_2.count false) + ag2.toNat < 2 * (l_12_0.count false) + ag0.toNat
  subst ht15
  cases hag : ag2 with
  | true => have := hp.up hag; simp; omega
  | false => have := (hp.cl hag).1; subst this; simp
 refine wc_exit rfl ?_
 refine wc_seq ?_
 refine wc_region ?_
 refine wl_mv M rfl rfl ?_
 refine wl_as M rfl rfl ?_
 refine wl_nil ?_
 refine wc_ret ?_
 replace M := M.drop 1
 exact out1 rfl rfl ⟨_, rfl, _, _, rfl, ⟨h2.1.1, fun s => by rw [Pass.fin (m := m) h2.2 h2.1.2 (h3 ht15)]; exact reach_ext (fun _ _ => Iff.rfl) (fun s => mem_onL hb0)⟩, M⟩
theorem silent3_c (t : Tra) (hal : t.arcs.length ≤ 4096) {v1 : Value} {I : Heap} {w : World} (hI : hle I (hp w)) (R1 : t.rd I v1) : Calls A 59 #[v1] w (Ret w I fun r I' => (epsT t).rd I' r) := by
 obtain ⟨fu1, au1, rfl, Rf1, Ra1⟩ := R1
 have hla := Ra1.len_le
 have M := Mem.start hI
 refine enter Try.func59 rfl 33 Try.ntmps59 [_] rfl ?_
 refine wc_seq ?_
 refine wc_region ?_
 refine wl_e (e_box M rfl) rfl rfl ?_
 rintro _ w1 ⟨b1, rfl, M⟩
 refine wl_e (e_alloc M z25) rfl rfl ?_
 rintro _ w2 ⟨b2, rfl, M⟩
 refine wl_nil ?_
 refine wc_seq ?_
 refine wc_region ?_
 refine wl_m M (q_fa fo_25_0 rfl) rfl rfl ?_
 refine wl_m M (q_ldb 1 Try.underlying3 rfl rfl rfl rfl) rfl rfl ?_
 refine wl_m M (q_build (bd_25_0 _) ⟨⟨rfl, rfl⟩, trivial⟩) rfl rfl ?_
 refine wl_e (e_alloc M z25) rfl rfl ?_
 rintro _ w3 ⟨b3, rfl, M⟩
 refine wl_e0 (e_stW 0 M rfl rfl rfl sz25 rfl rfl) rfl ?_
 intro _ w4 M
 try simp only [sC0, sCS] at M
 refine wl_nil ?_
 refine wc_seq ?_
 refine wc_seq ?_
 replace M := M.nilRow EArc
 refine wc_region ?_
 refine wl_as M rfl rfl ?_
 refine wl_nil ?_
 refine wc_block ?_
 refine wc_loop (α := Nat × SV × (List Arc)) [4, 8, 9, 10, 11, 12, 13, 14, 15, 16, 17, 18, 19, 20, 21, 22, 23, 24, 25, 26, 27, 28, 29, 30, 31] (fun ((k0, u_a_0, l_a_0) : Nat × SV × (List Arc)) => [(4, .int .i64 (k0 : Int))])
   (fun ((k0, u_a_0, l_a_0) : Nat × SV × (List Arc)) w' => (k0 ≤ t.arcs.length) ∧ (l_a_0 = (t.arcs.take k0).filter fun x => decide (x.inp = 0)) ∧ Mem w I I (row EArc (sv u_a_0) l_a_0 :: box b3 25 [.int .i64 t.states, .int .i64 0, .slice none 0 0, sv u_a_0] :: box b2 25 [.int .i64 0, .int .i64 0, .slice none 0 0, .slice none 0 0] :: box b1 25 [.int .i64 t.states, .int .i64 t.start, sv fu1, sv au1] :: []) w')
   (fun ((k0, u_a_0, l_a_0) : Nat × SV × (List Arc)) => t.arcs.length - k0) (0, nilV, []) ⟨rfl, trivial⟩ ?_ ?_
 ·refine ⟨Nat.zero_le _, rfl, ?_⟩
  exact M
 rintro ⟨k0, u_a_0, l_a_0⟩ jj0 w5 ⟨hk0, haa, M⟩
 refine wc_seq ?_
 refine wc_seq ?_
 refine wc_region ?_
 refine wl_mv M rfl rfl ?_
 refine wl_m M (q_fa fo_25_3 rfl) rfl rfl ?_
 refine wl_m M (q_ldb 3 Try.underlying23 rfl rfl rfl rfl) rfl rfl ?_
 refine wl_m M (q_lenR Ra1 Try.underlying23 rfl) rfl rfl ?_
 refine wl_m M (q_lss rfl rfl) rfl rfl ?_
 refine wl_nil ?_
 refine wc_dec rfl (fun ht12 => ?_) (fun ht12 => ?_)
 ·obtain ⟨x0, hx0⟩ : ∃ x_, t.arcs[k0]? = some x_ := ⟨_, List.getElem?_eq_getElem (by omega)⟩
  refine wc_skip ?_
  refine wc_seq ?_
  refine wc_block ?_
  refine wc_seq ?_
  refine wc_region ?_
  refine wl_m M (q_fa fo_25_3 rfl) rfl rfl ?_
  refine wl_m M (q_ldb 3 Try.underlying23 rfl rfl rfl rfl) rfl rfl ?_
  refine wl_mv M rfl rfl ?_
  refine wl_ix (j := k0) M Ra1 Try.underlying23 rfl rfl hx0 rfl (fun b18 o18 p18 => ?_)
  refine wl_m M (q_fa fo_50_2 rfl) rfl rfl ?_
  refine wl_m M (q_ldf p18 Try.underlying21 rfl rfl rfl) rfl rfl ?_
  refine wl_m M (q_eql rfl rfl) rfl rfl ?_
  refine wl_nil ?_
  refine wc_dec rfl (fun ht21 => ?_) (fun ht21 => ?_)
  ·refine wc_draws (fun w' => Mem w I I (box b3 25 [.int .i64 t.states, .int .i64 0, .slice none 0 0, sv u_a_0] :: box b2 25 [.int .i64 0, .int .i64 0, .slice none 0 0, .slice none 0 0] :: box b1 25 [.int .i64 t.states, .int .i64 t.start, sv fu1, sv au1] :: []) w' ∧ True) [10] fol ?_
   replace M := M.drew
   have hS := (⟨(M.drop 0), trivial⟩ : _ ∧ _)
   refine wa_q 0 rfl (by kernel_rfl) (q_fa fo_25_3 rfl) hS rfl rfl ?_
   refine wa_q 1 rfl (by kernel_rfl) ((q_ldb 0 Try.underlying23 rfl rfl rfl rfl).mono fun _ h => h.1) hS rfl rfl ?_
   refine wa_q 2 rfl (by kernel_rfl) (q_fa fo_25_3 rfl) hS rfl rfl ?_
   refine wa_q 3 rfl (by kernel_rfl) ((q_ldb 2 Try.underlying23 rfl rfl rfl rfl).mono fun _ h => h.1) hS rfl rfl ?_
   refine wa_q 4 rfl (by kernel_rfl) (q_move rfl) hS rfl rfl ?_
   refine wa_ixS (j := k0) 5 hS (fun _ h => Ra1.mono h.1.imm) rfl (by kernel_rfl) Try.underlying23 rfl rfl hx0 rfl (fun b27 o27 p27 => ?_)
   refine wa_q 6 rfl (by kernel_rfl) (q_ldp p27 rfl rfl) hS rfl rfl ?_
   refine wa_e 7 rfl (by kernel_rfl) (e_bsI (E := EArc) (xs := [x0]) M (bs_23_1 _ _ _ _) ⟨⟨rfl, rfl⟩, trivial⟩ rfl rfl (by decide)) rfl rfl ?_
   rintro _ w6 ⟨u29, J29, rfl, hJ29, R29, M⟩
   have hoJ29 := M.old
   have hS := (⟨((M.less hJ29 (fun _ _ => rfl)).drop 0), trivial⟩ : _ ∧ _)
   refine ⟨fun _ => hS, ?_⟩
   refine wa_e 8 rfl (by kernel_rfl) (e_app 0 M rfl R29 Try.underlying23 rfl rfl (by rw [haa]; have := List.length_filter_le (fun x : Arc => decide (x.inp = 0)) (t.arcs.take k0); rw [List.length_take] at this; show (_ + 1) * 24 ≤ _; omega)) rfl rfl ?_
   rintro _ w7 ⟨u30, rfl, M⟩
   try simp only [sC0, sCS] at M
   have hS := (⟨((M.less hJ29 (fun _ _ => rfl)).drop 0), trivial⟩ : _ ∧ _)
   refine ⟨fun _ => hS, ?_⟩
   replace M := M.less hJ29 (fun _ _ => rfl)
   refine wa_q 9 rfl (by kernel_rfl) (q_fa fo_25_3 rfl) hS rfl rfl ?_
   refine wa_e0 10 rfl (by kernel_rfl) (e_stb 1 M rfl rfl rfl sz23 rfl rfl) rfl ?_
   intro _ w8 M
   try simp only [sC0, sCS] at M
   refine ⟨nofun, ?_⟩
   refine wa_done (by kernel_rfl) ?_
   refine wc_region ?_
   refine wl_mv M rfl rfl ?_
   refine wl_m M (q_add rfl rfl (IntWalk.i64_in _ (by omega))) rfl rfl ?_
   refine wl_as M rfl rfl ?_
   refine wl_nil ?_
   refine ⟨(k0 + 1, u30, l_a_0 ++ [x0]), ?_, ⟨(by omega), (by rw [take_snoc hx0, List.filter_append, haa, List.filter_cons, decide_eq_true ht21]; rfl), M⟩, ⟨rfl, trivial⟩, unw_look rfl unw_base⟩
   show t.arcs.length - (k0 + 1) < t.arcs.length - k0
   omega
  refine wc_skip ?_
  refine wc_region ?_
  refine wl_mv M rfl rfl ?_
  refine wl_m M (q_add rfl rfl (IntWalk.i64_in _ (by omega))) rfl rfl ?_
  refine wl_as M rfl rfl ?_
  refine wl_nil ?_
  refine ⟨(k0 + 1, u_a_0, l_a_0), ?_, ⟨(by omega), (by rw [take_snoc hx0, List.filter_append, haa, List.filter_cons, decide_eq_false ht21]; simp), M⟩, ⟨rfl, trivial⟩, unw_look rfl unw_base⟩
  show t.arcs.length - (k0 + 1) < t.arcs.length - k0
  omega
 have hke0 : k0 = t.arcs.length := by omega
 rw [hke0, List.take_length] at haa
 refine wc_exit rfl ?_
 refine wc_seq ?_
 refine wc_region ?_
 refine wl_m M (q_ldbA 1 Try.underlying25 rfl sz25 rfl rfl rfl rfl) rfl rfl ?_
 refine wl_e0 (e_stW 2 M rfl rfl rfl sz25 rfl rfl) rfl ?_
 intro _ w9 M
 try simp only [sC0, sCS] at M
 refine wl_nil ?_
 refine wc_ret ?_
 obtain ⟨K1, M, hK1, Rk1⟩ := M.frzRow 0 rfl
 rw [haa] at Rk1
 exact outc rfl rfl (load_boxA M 1 Try.underlying25 rfl sz25 rfl rfl rfl) ⟨_, K1, rfl, (M.grow : Grow w I _ K1), nilV, _, rfl, rdSl_nil _, Rk1⟩
set_option maxRecDepth 4000 in
set_option maxHeartbeats 1000000 in
theorem step3_c (t : Tra) (ss : List Int) (r : Int) (hss : ss.length ≤ 4096) {v1 : Value} {us : SV} {I : Heap} {w : World} (hI : hle I (hp w)) (R1 : t.rd I v1) (R0 : rdSl EInt I (sv us) ss) :
    Calls A 26 #[v1, sv us, .int .i32 r] w (Ret w I fun r' I' => ∃ out : List Int, rdSl EInt I' r' out ∧ StepP t ss r out) := by
 obtain ⟨fu1, au1, rfl, Rf1, Ra1⟩ := R1
 have hla := Ra1.len_le
 have hls := R0.len_le
 have M := Mem.start hI
 refine enter Try.func26 rfl 101 Try.ntmps26 [_, _, _] rfl ?_
 refine wc_seq ?_
 refine wc_region ?_
 refine wl_e (e_box M rfl) rfl rfl ?_
 rintro _ w1 ⟨b3, rfl, M⟩
 refine wl_as M rfl rfl ?_
 refine wl_nil ?_
 refine wc_seq ?_
 refine wc_seq ?_
 refine wc_region ?_
 refine wl_m M (q_ldbA 0 Try.underlying25 rfl sz25 rfl rfl rfl rfl) rfl rfl ?_
 refine wl_e (e_callC M (valid3_c t M.imm ⟨_, _, rfl, Rf1, Ra1⟩) Try.func10 rfl rfl) rfl rfl ?_
 rintro _ w2 ⟨J14, hJ14, rfl, M⟩
 replace M := M.less hJ14 (fun _ _ => rfl)
 refine wl_m M (q_not rfl) rfl rfl ?_
 refine wl_nil ?_
 refine wc_cond rfl (fun ht15 => ?_) (fun ht15 => ?_)
 ·refine wc_seq ?_
  refine wc_region ?_
  refine wl_as M rfl rfl ?_
  refine wl_nil ?_
  refine wc_ret ?_
  exact out1 rfl rfl ⟨_, _, rfl, M.grow, [], rdSl_nil _, fun _ => rfl, fun h => by rw [h] at ht15; cases ht15⟩
 have hv : validT t = true := by simpa using ht15
 obtain ⟨m, ha, hrf⟩ := valid_rng hv
 have hst := ha.st
 have hmle := ha.le
 refine wc_skip ?_
 refine wc_seq ?_
 refine wc_region ?_
 refine wl_m M (q_fa fo_25_0 rfl) rfl rfl ?_
 refine wl_m M (q_ldb 0 Try.underlying3 rfl rfl rfl rfl) rfl rfl ?_
 refine wl_e (e_make (E := EBool) (zv := false) (m := m) M Try.underlying89 z4 (by rw [hst]; rfl) (by rw [hst]; rfl) (by show _ * 1 ≤ _; omega)) rfl rfl ?_
 rintro _ w3 ⟨u18, rfl, M⟩
 refine wl_as M rfl rfl ?_
 refine wl_nil ?_
 refine wc_seq ?_
 refine wc_seq ?_
 refine wc_region ?_
 refine wl_as M rfl rfl ?_
 refine wl_nil ?_
 refine wc_block ?_
 refine wc_loop (α := Nat × (List Bool)) [8, 19, 20, 21, 22, 23, 24, 25, 26, 27, 28, 29, 30, 31, 32, 33, 34, 35, 36, 37] (fun ((k0, l_18_0) : Nat × (List Bool)) => [(8, .int .i64 (k0 : Int))])
   (fun ((k0, l_18_0) : Nat × (List Bool)) w' => (k0 ≤ ss.length) ∧ (l_18_0.length = m ∧ ∀ s, bt l_18_0 s ↔ s ∈ frS t (ss.take k0)) ∧ Mem w I I (row EBool (sv u18) l_18_0 :: box b3 25 [.int .i64 t.states, .int .i64 t.start, sv fu1, sv au1] :: []) w')
   (fun ((k0, l_18_0) : Nat × (List Bool)) => ss.length - k0) (0, List.replicate m false) ⟨rfl, trivial⟩ ?_ ?_
 ·refine ⟨Nat.zero_le _, ⟨by simp, fun s => by simp [bt_rep, frS]⟩, ?_⟩
  exact M
 rintro ⟨k0, l_18_0⟩ jj0 w4 ⟨hk0, hs, M⟩
 refine wc_seq ?_
 refine wc_seq ?_
 refine wc_region ?_
 refine wl_mv M rfl rfl ?_
 refine wl_mv M rfl rfl ?_
 refine wl_m M (q_lenR R0 Try.underlying22 rfl) rfl rfl ?_
 refine wl_m M (q_lss rfl rfl) rfl rfl ?_
 refine wl_nil ?_
 refine wc_dec rfl (fun ht22 => ?_) (fun ht22 => ?_)
 ·obtain ⟨x0, hx0⟩ : ∃ x_, ss[k0]? = some x_ := ⟨_, List.getElem?_eq_getElem (by omega)⟩
  have hll0 := (R0).len_le
  refine wc_skip ?_
  refine wc_seq ?_
  refine wc_block ?_
  refine wc_seq ?_
  refine wc_draws (fun w' => Mem w I I (row EBool (sv u18) l_18_0 :: box b3 25 [.int .i64 t.states, .int .i64 t.start, sv fu1, sv au1] :: []) w' ∧ True) [] fol ?_
  replace M := M.drew
  have hS := (⟨M, trivial⟩ : _ ∧ _)
  refine wa_q 0 rfl (by kernel_rfl) (q_move rfl) hS rfl rfl ?_
  refine wa_q 1 rfl (by kernel_rfl) (q_move rfl) hS rfl rfl ?_
  refine wa_ixS (j := k0) 2 hS (fun _ h => R0.mono h.1.imm) rfl (by kernel_rfl) Try.underlying22 rfl rfl hx0 rfl (fun b27 o27 p27 => ?_)
  refine wa_q 3 rfl (by kernel_rfl) (q_ldp p27 rfl rfl) hS rfl rfl ?_
  refine wa_q 4 rfl (by kernel_rfl) (q_fa fo_25_0 rfl) hS rfl rfl ?_
  refine wa_q 5 rfl (by kernel_rfl) ((q_ldb 1 Try.underlying3 rfl rfl rfl rfl).mono fun _ h => h.1) hS rfl rfl ?_
  refine wa_e 6 rfl (by kernel_rfl) (e_callC M (in_c x0 t.states M.imm) Try.func29 rfl rfl) rfl rfl ?_
  rintro _ w5 ⟨J31, hJ31, rfl, M⟩
  have hS := (⟨(M.less hJ31 (fun _ _ => rfl)), trivial⟩ : _ ∧ _)
  refine ⟨fun _ => hS, ?_⟩
  replace M := M.less hJ31 (fun _ _ => rfl)
  refine wa_done (by kernel_rfl) ?_
  refine wc_cond rfl (fun ht31 => ?_) (fun ht31 => ?_)
  ·have hx0r : 0 ≤ x0 ∧ x0 < t.states := by simpa [inR] using ht31
   refine wc_region ?_
   refine wl_mv M rfl rfl ?_
   refine wl_mv M rfl rfl ?_
   refine wl_mv M rfl rfl ?_
   refine wl_ix (j := k0) M R0 Try.underlying22 rfl rfl hx0 rfl (fun b35 o35 p35 => ?_)
   refine wl_m M (q_ldp p35 rfl rfl) rfl rfl ?_
   refine wl_ixw (j := x0.toNat) 0 M rfl Try.underlying89 rfl (ixe (by omega)) (by rw [hs.1]; omega) rfl (fun b37 o37 p37 => ?_)
   refine wl_e0 (e_str (u := true) 0 M rfl rfl rfl p37 (by rw [hs.1]; omega) rfl) rfl ?_
   intro _ w6 M
   try simp only [sC0, sCS] at M
   refine wl_nil ?_
   refine wc_region ?_
   refine wl_mv M rfl rfl ?_
   refine wl_m M (q_add rfl rfl (IntWalk.i64_in _ (by omega))) rfl rfl ?_
   refine wl_as M rfl rfl ?_
   refine wl_nil ?_
   refine ⟨(k0 + 1, l_18_0.set x0.toNat true), ?_, ⟨(by omega), ⟨by simp [hs.1], fun s => by rw [bt_set (by rw [hs.1]; omega), hs.2, take_snoc hx0, frS_snoc, ht31]; simp [or_comm]⟩, M⟩, ⟨rfl, trivial⟩, unw_look rfl unw_base⟩
   show ss.length - (k0 + 1) < ss.length - k0
   omega
  refine wc_skip ?_
  refine wc_region ?_
  refine wl_mv M rfl rfl ?_
  refine wl_m M (q_add rfl rfl (IntWalk.i64_in _ (by omega))) rfl rfl ?_
  refine wl_as M rfl rfl ?_
  refine wl_nil ?_
  refine ⟨(k0 + 1, l_18_0), ?_, ⟨(by omega), ⟨hs.1, fun s => by rw [hs.2, take_snoc hx0, frS_snoc, ht31]; simp⟩, M⟩, ⟨rfl, trivial⟩, unw_look rfl unw_base⟩
  show ss.length - (k0 + 1) < ss.length - k0
  omega
 have hke0 : k0 = ss.length := by omega
 rw [hke0, List.take_length] at hs
 refine wc_exit rfl ?_
 refine wc_seq ?_
 refine wc_region ?_
 refine wl_m M (q_ldbA 1 Try.underlying25 rfl sz25 rfl rfl rfl rfl) rfl rfl ?_
 refine wl_e (e_callC M (silent3_c t ha.alen M.imm ⟨_, _, rfl, Rf1, Ra1⟩) Try.func59 rfl rfl) rfl rfl ?_
 rintro _ w7 ⟨J39, hJ39, ⟨fu39, au39, rfl, Rf39, Ra39⟩, M⟩
 have hoJ39 := M.old
 refine wl_mv M rfl rfl ?_
 obtain ⟨I21, M, hI21, Rq1⟩ := M.frzRow 0 rfl
 have hoI21 := M.old
 refine wl_e (e_callR Try.func58 rfl (vs := [.agg #[.int .i64 ((epsT t).states), .int .i64 ((epsT t).start), sv fu39, sv au39], sv u18, .bool false]) rfl (reach3_c (t := epsT t) hmle (fun x hx => ha.arcs x (List.mem_filter.1 hx).1) hs.1 false ⟨_, _, rfl, (Rf39.mono hI21), (Ra39.mono hI21)⟩ Rq1 M)) rfl rfl ?_
 rintro _ w8 ⟨u41, bs41, rfl, ⟨hbl41, hb41⟩, M⟩
 have e1 : ∀ s, bt bs41 s ↔ Reach (epsN t) (· ∈ frS t ss) s := fun s => by rw [hb41]; exact reach_ext (fun s d => stp_epsT s d) hs.2
 try simp only [sC0, sCS] at M
 refine wl_as M rfl rfl ?_
 refine wl_nil ?_
 refine wc_seq ?_
 refine wc_seq ?_
 refine wc_region ?_
 refine wl_mv M rfl rfl ?_
 refine wl_m M (q_neq rfl rfl) rfl rfl ?_
 refine wl_nil ?_
 refine wc_cond rfl (fun ht43 => ?_) (fun ht43 => ?_)
 ·refine wc_seq ?_
  refine wc_region ?_
  refine wl_m M (q_fa fo_25_0 rfl) rfl rfl ?_
  refine wl_m M (q_ldb 1 Try.underlying3 rfl rfl rfl rfl) rfl rfl ?_
  refine wl_e (e_make (E := EBool) (zv := false) (m := m) M Try.underlying89 z4 (by rw [hst]; rfl) (by rw [hst]; rfl) (by show _ * 1 ≤ _; omega)) rfl rfl ?_
  rintro _ w9 ⟨u46, rfl, M⟩
  refine wl_as M rfl rfl ?_
  refine wl_nil ?_
  refine wc_seq ?_
  refine wc_seq ?_
  refine wc_region ?_
  refine wl_as M rfl rfl ?_
  refine wl_nil ?_
  refine wc_block ?_
  refine wc_loop (α := Nat × (List Bool)) [10, 47, 48, 49, 50, 51, 52, 53, 54, 55, 56, 57, 58, 59, 60, 61, 62, 63, 64, 65, 66, 67, 68, 69, 70, 71, 72, 73, 74, 75, 76, 77, 78, 79, 80] (fun ((k2, l_46_2) : Nat × (List Bool)) => [(10, .int .i64 (k2 : Int))])
    (fun ((k2, l_46_2) : Nat × (List Bool)) w' => (k2 ≤ t.arcs.length) ∧ (l_46_2.length = m ∧ ∀ s, bt l_46_2 s ↔ ∃ x ∈ t.arcs.take k2, bt bs41 x.src ∧ x.inp = r ∧ x.dst = s) ∧ Mem w I I21 (row EBool (sv u46) l_46_2 :: row EBool (sv u41) bs41 :: box b3 25 [.int .i64 t.states, .int .i64 t.start, sv fu1, sv au1] :: []) w')
    (fun ((k2, l_46_2) : Nat × (List Bool)) => t.arcs.length - k2) (0, List.replicate m false) ⟨rfl, trivial⟩ ?_ ?_
  ·refine ⟨Nat.zero_le _, ⟨by simp, fun s => by simp [bt_rep]⟩, ?_⟩
   exact M
  rintro ⟨k2, l_46_2⟩ jj2 w10 ⟨hk2, hn, M⟩
  have hoI21 := M.old
  refine wc_seq ?_
  refine wc_seq ?_
  refine wc_region ?_
  refine wl_mv M rfl rfl ?_
  refine wl_m M (q_fa fo_25_3 rfl) rfl rfl ?_
  refine wl_m M (q_ldb 2 Try.underlying23 rfl rfl rfl rfl) rfl rfl ?_
  refine wl_m M (q_lenR ((Ra1.mono hJ39).mono hI21) Try.underlying23 rfl) rfl rfl ?_
  refine wl_m M (q_lss rfl rfl) rfl rfl ?_
  refine wl_nil ?_
  refine wc_dec rfl (fun ht51 => ?_) (fun ht51 => ?_)
  ·obtain ⟨x2, hx2⟩ : ∃ x_, t.arcs[k2]? = some x_ := ⟨_, List.getElem?_eq_getElem (by omega)⟩
   have hx2r := ha.arcs x2 (List.mem_of_getElem? hx2)
   refine wc_skip ?_
   refine wc_seq ?_
   refine wc_block ?_
   refine wc_seq ?_
   refine wc_join (α := Unit) [54, 55, 56, 57, 58, 59, 60, 61, 62, 63, 64, 65, 66, 67, 68, 69, 70, 71, 72] (fun _ => [(72, .bool ((bs41.getD x2.src.toNat false) && (decide (x2.inp = r))))]) (fun _ w' => Mem w I I21 (row EBool (sv u46) l_46_2 :: row EBool (sv u41) bs41 :: box b3 25 [.int .i64 t.states, .int .i64 t.start, sv fu1, sv au1] :: []) w') ?_ ?_
   ·refine wc_region ?_
    refine wl_mv M rfl rfl ?_
    refine wl_m M (q_fa fo_25_3 rfl) rfl rfl ?_
    refine wl_m M (q_ldb 2 Try.underlying23 rfl rfl rfl rfl) rfl rfl ?_
    refine wl_mv M rfl rfl ?_
    refine wl_ix (j := k2) M ((Ra1.mono hJ39).mono hI21) Try.underlying23 rfl rfl hx2 rfl (fun b58 o58 p58 => ?_)
    refine wl_m M (q_fa fo_50_0 rfl) rfl rfl ?_
    refine wl_m M (q_ldf p58 Try.underlying3 rfl rfl rfl) rfl rfl ?_
    refine wl_ixr (j := x2.src.toNat) 1 M rfl Try.underlying89 rfl (ixe (by omega)) (getD_at (d := false) (by omega)) rfl (fun b61 o61 p61 => ?_)
    refine wl_m M (q_ldp p61 rfl rfl) rfl rfl ?_
    refine wl_mv M rfl rfl ?_
    rcases Bool.eq_false_or_eq_true ((bs41.getD x2.src.toNat false)) with hg63 | hg63
    ·refine wl_m M (q_guard 9 rfl rfl rfl hg63 (q_fa fo_25_3 rfl)) rfl rfl ?_
     refine wl_m M (q_guard 9 rfl rfl rfl hg63 (q_ldb 2 Try.underlying23 rfl rfl rfl rfl)) rfl rfl ?_
     refine wl_m M (q_guard 9 rfl rfl rfl hg63 (q_move rfl)) rfl rfl ?_
     refine wl_ixG (j := k2) 9 rfl rfl rfl hg63 M ((Ra1.mono hJ39).mono hI21) Try.underlying23 rfl rfl hx2 rfl (fun b67 o67 p67 => ?_)
     refine wl_m M (q_guard 9 rfl rfl rfl hg63 (q_fa fo_50_2 rfl)) rfl rfl ?_
     refine wl_m M (q_guard 9 rfl rfl rfl hg63 (q_ldf p67 Try.underlying21 rfl rfl rfl)) rfl rfl ?_
     refine wl_m M (q_guard 9 rfl rfl rfl hg63 (q_move rfl)) rfl rfl ?_
     refine wl_m M (q_guard 9 rfl rfl rfl hg63 (q_eql rfl rfl)) rfl rfl ?_
     refine wl_m M (q_pickT rfl hg63 rfl) rfl rfl ?_
     refine wl_nil ?_
     exact ⟨(), M, ⟨(show some (Value.bool (decide (x2.inp = r))) = some (Value.bool ((bs41.getD x2.src.toNat false) && (decide (x2.inp = r)))) from by first | (simp only [hg63, Bool.true_or, Bool.false_or, Bool.true_and, Bool.false_and, Bool.or_true, Bool.or_false, Bool.and_true, Bool.and_false]; done) | simp_all), trivial⟩, unw_take 19 rfl rfl⟩
    refine wl_m M (q_off 9 rfl rfl rfl hg63) rfl rfl ?_
    refine wl_m M (q_off 9 rfl rfl rfl hg63) rfl rfl ?_
    refine wl_m M (q_off 9 rfl rfl rfl hg63) rfl rfl ?_
    refine wl_m M (q_off 9 rfl rfl rfl hg63) rfl rfl ?_
    refine wl_m M (q_off 9 rfl rfl rfl hg63) rfl rfl ?_
    refine wl_m M (q_off 9 rfl rfl rfl hg63) rfl rfl ?_
    refine wl_m M (q_off 9 rfl rfl rfl hg63) rfl rfl ?_
    refine wl_m M (q_off 9 rfl rfl rfl hg63) rfl rfl ?_
    refine wl_m M (q_pickF rfl hg63 rfl) rfl rfl ?_
    refine wl_nil ?_
    exact ⟨(), M, ⟨(show some (Value.bool false) = some (Value.bool ((bs41.getD x2.src.toNat false) && (decide (x2.inp = r)))) from by first | (simp only [hg63, Bool.true_or, Bool.false_or, Bool.true_and, Bool.false_and, Bool.or_true, Bool.or_false, Bool.and_true, Bool.and_false]; done) | simp_all), trivial⟩, unw_take 19 rfl rfl⟩
   rintro _ jr15 w11 M
   refine wc_cond rfl (fun ht72 => ?_) (fun ht72 => ?_)
   ·have hbx : bt bs41 x2.src ∧ x2.inp = r := stp3_t hx2r.1.1 ht72
    refine wc_region ?_
    refine wl_mv M rfl rfl ?_
    refine wl_m M (q_fa fo_25_3 rfl) rfl rfl ?_
    refine wl_m M (q_ldb 2 Try.underlying23 rfl rfl rfl rfl) rfl rfl ?_
    refine wl_mv M rfl rfl ?_
    refine wl_ix (j := k2) M ((Ra1.mono hJ39).mono hI21) Try.underlying23 rfl rfl hx2 rfl (fun b77 o77 p77 => ?_)
    refine wl_m M (q_fa fo_50_1 rfl) rfl rfl ?_
    refine wl_m M (q_ldf p77 Try.underlying3 rfl rfl rfl) rfl rfl ?_
    refine wl_ixw (j := x2.dst.toNat) 0 M rfl Try.underlying89 rfl (ixe (by omega)) (by rw [hn.1]; omega) rfl (fun b80 o80 p80 => ?_)
    refine wl_e0 (e_str (u := true) 0 M rfl rfl rfl p80 (by rw [hn.1]; omega) rfl) rfl ?_
    intro _ w12 M
    try simp only [sC0, sCS] at M
    refine wl_nil ?_
    refine wc_region ?_
    refine wl_mv M rfl rfl ?_
    refine wl_m M (q_add rfl rfl (IntWalk.i64_in _ (by omega))) rfl rfl ?_
    refine wl_as M rfl rfl ?_
    refine wl_nil ?_
    refine ⟨(k2 + 1, l_46_2.set x2.dst.toNat true), ?_, ⟨(by omega), ⟨by simp [hn.1], fun s => by rw [bt_set (by rw [hn.1]; omega), hn.2, take_snoc hx2, ex_snoc]; exact stp3_yes hbx.1 hbx.2⟩, M⟩, ⟨rfl, trivial⟩, unw_look rfl (unw_hav rfl (unw_look rfl unw_base))⟩
    show t.arcs.length - (k2 + 1) < t.arcs.length - k2
    omega
   have hbx : ¬ (bt bs41 x2.src ∧ x2.inp = r) := stp3_f hx2r.1.1 ht72
   refine wc_skip ?_
   refine wc_region ?_
   refine wl_mv M rfl rfl ?_
   refine wl_m M (q_add rfl rfl (IntWalk.i64_in _ (by omega))) rfl rfl ?_
   refine wl_as M rfl rfl ?_
   refine wl_nil ?_
   refine ⟨(k2 + 1, l_46_2), ?_, ⟨(by omega), ⟨hn.1, fun s => by rw [hn.2, take_snoc hx2, ex_snoc]; exact stp3_no hbx⟩, M⟩, ⟨rfl, trivial⟩, unw_look rfl (unw_hav rfl (unw_look rfl unw_base))⟩
   show t.arcs.length - (k2 + 1) < t.arcs.length - k2
   omega
  have hke2 : k2 = t.arcs.length := by omega
  rw [hke2, List.take_length] at hn
  refine wc_exit rfl ?_
  refine wc_region ?_
  refine wl_m M (q_ldbA 2 Try.underlying25 rfl sz25 rfl rfl rfl rfl) rfl rfl ?_
  refine wl_e (e_callC M (silent3_c t ha.alen M.imm ⟨_, _, rfl, ((Rf1.mono hJ39).mono hI21), ((Ra1.mono hJ39).mono hI21)⟩) Try.func59 rfl rfl) rfl rfl ?_
  rintro _ w13 ⟨J82, hJ82, ⟨fu82, au82, rfl, Rf82, Ra82⟩, M⟩
  have hoJ82 := M.old
  refine wl_mv M rfl rfl ?_
  obtain ⟨I22, M, hI22, Rq2⟩ := M.frzRow 0 rfl
  have hoI22 := M.old
  refine wl_e (e_callR Try.func58 rfl (vs := [.agg #[.int .i64 ((epsT t).states), .int .i64 ((epsT t).start), sv fu82, sv au82], sv u46, .bool false]) rfl (reach3_c (t := epsT t) hmle (fun x hx => ha.arcs x (List.mem_filter.1 hx).1) hn.1 false ⟨_, _, rfl, (Rf82.mono hI22), (Ra82.mono hI22)⟩ Rq2 M)) rfl rfl ?_
  rintro _ w14 ⟨u84, bs84, rfl, ⟨hbl84, hb84⟩, M⟩
  have e2 : ∀ s, bt bs84 s ↔ Reach (epsN t) (· ∈ nxR t bs41 r m) s := fun s => by rw [hb84]; exact reach_ext (fun s d => stp_epsT s d) (fun s => by rw [hn.2, nxR_iff ha])
  try simp only [sC0, sCS] at M
  refine wl_as M rfl rfl ?_
  refine wl_nil ?_
  refine wc_seq ?_
  refine wc_region ?_
  refine wl_e (e_bsR (E := EInt) (xs := []) M (bs_22_0) trivial rfl rfl (by decide)) rfl rfl ?_
  rintro _ w15 ⟨u85, rfl, M⟩
  refine wl_as M rfl rfl ?_
  refine wl_nil ?_
  refine wc_seq ?_
  refine wc_seq ?_
  refine wc_region ?_
  refine wl_as M rfl rfl ?_
  refine wl_nil ?_
  refine wc_block ?_
  refine wc_loop (α := Nat × SV × (List Int)) [11, 12, 86, 87, 88, 89, 90, 91, 92, 93, 94, 95, 96, 97, 98, 99] (fun ((k4, u_85_4, l_85_4) : Nat × SV × (List Int)) => [(12, .int .i64 (k4 : Int)), (11, sv u_85_4)])
    (fun ((k4, u_85_4, l_85_4) : Nat × SV × (List Int)) w' => (k4 ≤ m) ∧ (l_85_4 = onL bs84 k4) ∧ Mem w I I22 (row EInt (sv u_85_4) l_85_4 :: row EBool (sv u84) bs84 :: row EBool (sv u41) bs41 :: box b3 25 [.int .i64 t.states, .int .i64 t.start, sv fu1, sv au1] :: []) w')
    (fun ((k4, u_85_4, l_85_4) : Nat × SV × (List Int)) => m - k4) (0, u85, []) ⟨rfl, rfl, trivial⟩ ?_ ?_
  ·refine ⟨Nat.zero_le _, rfl, ?_⟩
   exact M
  rintro ⟨k4, u_85_4, l_85_4⟩ jj4 w16 ⟨hk4, hon, M⟩
  have hoI22 := M.old
  refine wc_seq ?_
  refine wc_seq ?_
  refine wc_region ?_
  refine wl_mv M rfl rfl ?_
  refine wl_m M (q_fa fo_25_0 rfl) rfl rfl ?_
  refine wl_m M (q_ldb 3 Try.underlying3 rfl rfl rfl rfl) rfl rfl ?_
  refine wl_m M (q_lss rfl rfl) rfl rfl ?_
  refine wl_nil ?_
  refine wc_dec rfl (fun ht89 => ?_) (fun ht89 => ?_)
  ·refine wc_skip ?_
   refine wc_seq ?_
   refine wc_block ?_
   refine wc_seq ?_
   refine wc_region ?_
   refine wl_mv M rfl rfl ?_
   refine wl_mv M rfl rfl ?_
   refine wl_ixr (j := k4) 1 M rfl Try.underlying89 rfl (ixe (by omega)) (getD_at (d := false) (by omega)) rfl (fun b94 o94 p94 => ?_)
   refine wl_m M (q_ldp p94 rfl rfl) rfl rfl ?_
   refine wl_nil ?_
   refine wc_cond rfl (fun ht95 => ?_) (fun ht95 => ?_)
   ·refine wc_region ?_
    refine wl_mv M rfl rfl ?_
    refine wl_mv M rfl rfl ?_
    refine wl_e (e_bsI (E := EInt) (xs := [(k4 : Int)]) M (bs_22_1 _) ⟨⟨rfl, rfl⟩, trivial⟩ rfl rfl (by decide)) rfl rfl ?_
    rintro _ w17 ⟨u98, J98, rfl, hJ98, R98, M⟩
    have hoJ98 := M.old
    refine wl_e (e_app 0 M rfl R98 Try.underlying22 rfl rfl (by have h1 := onL_len (bs := bs84) (k := k4); rw [hon]; show (_ + 1) * 8 ≤ _; omega)) rfl rfl ?_
    rintro _ w18 ⟨u99, rfl, M⟩
    replace M := M.less hJ98 hoI22
    try simp only [sC0, sCS] at M
    refine wl_as M rfl rfl ?_
    refine wl_nil ?_
    refine wc_region ?_
    refine wl_mv M rfl rfl ?_
    refine wl_m M (q_add rfl rfl (IntWalk.i64_in _ (by omega))) rfl rfl ?_
    refine wl_as M rfl rfl ?_
    refine wl_nil ?_
    refine ⟨(k4 + 1, u99, l_85_4 ++ [(k4 : Int)]), ?_, ⟨(by omega), (by rw [onL_yes ht95, ← hon]), M⟩, ⟨rfl, rfl, trivial⟩, unw_look rfl unw_base⟩
    show m - (k4 + 1) < m - k4
    omega
   refine wc_skip ?_
   refine wc_region ?_
   refine wl_mv M rfl rfl ?_
   refine wl_m M (q_add rfl rfl (IntWalk.i64_in _ (by omega))) rfl rfl ?_
   refine wl_as M rfl rfl ?_
   refine wl_nil ?_
   refine ⟨(k4 + 1, u_85_4, l_85_4), ?_, ⟨(by omega), (by rw [onL_no ht95]; exact hon), M⟩, ⟨rfl, rfl, trivial⟩, unw_look rfl unw_base⟩
   show m - (k4 + 1) < m - k4
   omega
  have hke4 : k4 = m := by omega
  rw [hke4] at hon
  refine wc_exit rfl ?_
  refine wc_seq ?_
  refine wc_region ?_
  refine wl_mv M rfl rfl ?_
  refine wl_as M rfl rfl ?_
  refine wl_nil ?_
  refine wc_ret ?_
  obtain ⟨K1, M, hK1, Rk1⟩ := M.frzRow 0 rfl
  exact out1 rfl rfl ⟨_, K1, rfl, (M.grow : Grow w I _ K1), _, Rk1, fun h => (by rw [hv] at h; cases h), fun _ => ⟨m, bs41, bs84, ha, ⟨hbl41, e1⟩, fun h => absurd h (nd_t ht43), fun _ => ⟨hbl84, e2⟩, hon⟩⟩
 refine wc_skip ?_
 refine wc_seq ?_
 refine wc_region ?_
 refine wl_e (e_bsR (E := EInt) (xs := []) M (bs_22_0) trivial rfl rfl (by decide)) rfl rfl ?_
 rintro _ w19 ⟨u85, rfl, M⟩
 refine wl_as M rfl rfl ?_
 refine wl_nil ?_
 refine wc_seq ?_
 refine wc_seq ?_
 refine wc_region ?_
 refine wl_as M rfl rfl ?_
 refine wl_nil ?_
 refine wc_block ?_
 refine wc_loop (α := Nat × SV × (List Int)) [11, 12, 86, 87, 88, 89, 90, 91, 92, 93, 94, 95, 96, 97, 98, 99] (fun ((k4, u_85_4, l_85_4) : Nat × SV × (List Int)) => [(12, .int .i64 (k4 : Int)), (11, sv u_85_4)])
   (fun ((k4, u_85_4, l_85_4) : Nat × SV × (List Int)) w' => (k4 ≤ m) ∧ (l_85_4 = onL bs41 k4) ∧ Mem w I I21 (row EInt (sv u_85_4) l_85_4 :: row EBool (sv u41) bs41 :: box b3 25 [.int .i64 t.states, .int .i64 t.start, sv fu1, sv au1] :: []) w')
   (fun ((k4, u_85_4, l_85_4) : Nat × SV × (List Int)) => m - k4) (0, u85, []) ⟨rfl, rfl, trivial⟩ ?_ ?_
 ·refine ⟨Nat.zero_le _, rfl, ?_⟩
  exact M
 rintro ⟨k4, u_85_4, l_85_4⟩ jj4 w20 ⟨hk4, hon, M⟩
 have hoI21 := M.old
 refine wc_seq ?_
 refine wc_seq ?_
 refine wc_region ?_
 refine wl_mv M rfl rfl ?_
 refine wl_m M (q_fa fo_25_0 rfl) rfl rfl ?_
 refine wl_m M (q_ldb 2 Try.underlying3 rfl rfl rfl rfl) rfl rfl ?_
 refine wl_m M (q_lss rfl rfl) rfl rfl ?_
 refine wl_nil ?_
 refine wc_dec rfl (fun ht89 => ?_) (fun ht89 => ?_)
 ·refine wc_skip ?_
  refine wc_seq ?_
  refine wc_block ?_
  refine wc_seq ?_
  refine wc_region ?_
  refine wl_mv M rfl rfl ?_
  refine wl_mv M rfl rfl ?_
  refine wl_ixr (j := k4) 1 M rfl Try.underlying89 rfl (ixe (by omega)) (getD_at (d := false) (by omega)) rfl (fun b94 o94 p94 => ?_)
  refine wl_m M (q_ldp p94 rfl rfl) rfl rfl ?_
  refine wl_nil ?_
  refine wc_cond rfl (fun ht95 => ?_) (fun ht95 => ?_)
  ·refine wc_region ?_
   refine wl_mv M rfl rfl ?_
   refine wl_mv M rfl rfl ?_
   refine wl_e (e_bsI (E := EInt) (xs := [(k4 : Int)]) M (bs_22_1 _) ⟨⟨rfl, rfl⟩, trivial⟩ rfl rfl (by decide)) rfl rfl ?_
   rintro _ w21 ⟨u98, J98, rfl, hJ98, R98, M⟩
   have hoJ98 := M.old
   refine wl_e (e_app 0 M rfl R98 Try.underlying22 rfl rfl (by have h1 := onL_len (bs := bs41) (k := k4); rw [hon]; show (_ + 1) * 8 ≤ _; omega)) rfl rfl ?_
   rintro _ w22 ⟨u99, rfl, M⟩
   replace M := M.less hJ98 hoI21
   try simp only [sC0, sCS] at M
   refine wl_as M rfl rfl ?_
   refine wl_nil ?_
   refine wc_region ?_
   refine wl_mv M rfl rfl ?_
   refine wl_m M (q_add rfl rfl (IntWalk.i64_in _ (by omega))) rfl rfl ?_
   refine wl_as M rfl rfl ?_
   refine wl_nil ?_
   refine ⟨(k4 + 1, u99, l_85_4 ++ [(k4 : Int)]), ?_, ⟨(by omega), (by rw [onL_yes ht95, ← hon]), M⟩, ⟨rfl, rfl, trivial⟩, unw_look rfl unw_base⟩
   show m - (k4 + 1) < m - k4
   omega
  refine wc_skip ?_
  refine wc_region ?_
  refine wl_mv M rfl rfl ?_
  refine wl_m M (q_add rfl rfl (IntWalk.i64_in _ (by omega))) rfl rfl ?_
  refine wl_as M rfl rfl ?_
  refine wl_nil ?_
  refine ⟨(k4 + 1, u_85_4, l_85_4), ?_, ⟨(by omega), (by rw [onL_no ht95]; exact hon), M⟩, ⟨rfl, rfl, trivial⟩, unw_look rfl unw_base⟩
  show m - (k4 + 1) < m - k4
  omega
 have hke4 : k4 = m := by omega
 rw [hke4] at hon
 refine wc_exit rfl ?_
 refine wc_seq ?_
 refine wc_region ?_
 refine wl_mv M rfl rfl ?_
 refine wl_as M rfl rfl ?_
 refine wl_nil ?_
 refine wc_ret ?_
 obtain ⟨K1, M, hK1, Rk1⟩ := M.frzRow 0 rfl
 exact out1 rfl rfl ⟨_, K1, rfl, (M.grow : Grow w I _ K1), _, Rk1, fun h => (by rw [hv] at h; cases h), fun _ => ⟨m, bs41, bs41, ha, ⟨hbl41, e1⟩, fun _ => rfl, fun h => absurd (nd_f ht43) h, hon⟩⟩
end Go.Proofs.Ytfepjcmjkaolgaa.G
