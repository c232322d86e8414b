/- Walks of the program's functions. -/
import Derived.Test.YtfepjcmjkaolgaaGRf3
import Derived.Test.YtfepjcmjkaolgaaWE
set_option linter.all false
namespace Go.Proofs.Ytfepjcmjkaolgaa.G
open Go Go.RowKit
theorem reach3_c {t : Tra} {m : Nat} (hm : m ≤ 512) (hxs : ∀ x ∈ t.arcs, (0 ≤ x.src ∧ x.src < m) ∧ 0 ≤ x.dst ∧ x.dst < m) {b0 : List Bool} (hb0 : b0.length = m) (back : Bool) {v : Value} {ub : SV} {w0 w : World} {I0 I : Heap} {Lt : List Res} (R1 : t.rd I v) (Rb : rdSl EBool I (sv ub) b0) (M : Mem w0 I0 I Lt w) :
    Calls A 58 #[v, sv ub, .bool back] w (fun e w' => ∃ v, e = .returned v ∧ ∃ (u' : SV) (bs : List Bool), v = sv u' ∧ (bs.length = m ∧ ∀ s, bt bs s ↔ Reach (stp t (!back)) (bt b0) s) ∧ Mem w0 I0 I (row EBool (sv u') bs :: Lt) w') := by
 obtain ⟨fu1, au1, rfl, Rf1, Ra1⟩ := R1
 have hla := Ra1.len_le
 have hoI := M.old
 refine enter Try.func58 rfl 53 Try.ntmps58 [_, _, _] rfl ?_
 refine wc_seq ?_
 refine wc_region ?_
 refine wl_e (e_box M rfl) rfl rfl ?_
 rintro _ w1 ⟨b3, rfl, M⟩
 refine wl_as M rfl rfl ?_
 refine wl_nil ?_
 refine wc_seq ?_
 refine wc_region ?_
 refine wl_e (e_bsR (E := EBool) (xs := []) M (bs_89_0) trivial rfl rfl (by decide)) rfl rfl ?_
 rintro _ w2 ⟨u12, rfl, M⟩
 refine wl_mv M rfl rfl ?_
 refine wl_e (e_app 0 M rfl Rb Try.underlying89 rfl rfl (by show (_ + _) * 1 ≤ _; simp only [List.length_nil]; omega)) rfl rfl ?_
 rintro _ w3 ⟨u14, rfl, M⟩
 simp only [sC0, sCS] at M
 refine wl_as M rfl rfl ?_
 refine wl_nil ?_
 refine wc_seq ?_
 refine wc_seq ?_
 refine wc_region ?_
 refine wl_as M rfl rfl ?_
 refine wl_nil ?_
 refine wc_block ?_
 refine wc_loop (α := Bool × (List Bool)) [8, 9, 10, 11, 15, 16, 17, 18, 19, 20, 21, 22, 23, 24, 25, 26, 27, 28, 29, 30, 31, 32, 33, 34, 35, 36, 37, 38, 39, 40, 41, 42, 43, 44, 45, 46, 47, 48, 49, 50, 51] (fun ((ag0, l_12_0) : Bool × (List Bool)) => [(8, .bool ag0)])
   (fun ((ag0, l_12_0) : Bool × (List Bool)) w' => ((l_12_0.length = m ∧ ∀ s ∈ (onL b0 m), bt l_12_0 s) ∧ (∀ s, bt l_12_0 s → Reach (stp t (!back)) (· ∈ (onL b0 m)) s)) ∧ (ag0 = false → ∀ x ∈ t.arcs, bt l_12_0 (eA (!back) x) → bt l_12_0 (eB (!back) x)) ∧ Mem w0 I0 I (row EBool (sv u14) l_12_0 :: box b3 25 [.int .i64 t.states, .int .i64 t.start, sv fu1, sv au1] :: Lt) w')
   (fun ((ag0, l_12_0) : Bool × (List Bool)) => 2 * (l_12_0.count false) + ag0.toNat) (true, [] ++ b0) ⟨rfl, trivial⟩ ?_ ?_
 ·refine ⟨⟨⟨hb0, fun s hs => (mem_onL hb0).1 hs⟩, fun s hs => .base ((mem_onL hb0).2 hs)⟩, nofun, ?_⟩
  exact M
 rintro ⟨ag0, l_12_0⟩ jj0 w4 ⟨h2, h3, M⟩
 refine wc_seq ?_
 refine wc_seq ?_
 refine wc_region ?_
 refine wl_mv M rfl rfl ?_
 refine wl_nil ?_
 refine wc_cond rfl (fun ht15 => ?_) (fun ht15 => ?_)
 ·refine wc_skip ?_
  refine wc_block ?_
  refine wc_seq ?_
  refine wc_region ?_
  refine wl_as M rfl rfl ?_
  refine wl_nil ?_
  refine wc_seq ?_
  refine wc_region ?_
  refine wl_as M rfl rfl ?_
  refine wl_nil ?_
  refine wc_block ?_
  refine wc_loop (α := Nat × Bool × (List Bool)) [8, 9, 10, 11, 16, 17, 18, 19, 20, 21, 22, 23, 24, 25, 26, 27, 28, 29, 30, 31, 32, 33, 34, 35, 36, 37, 38, 39, 40, 41, 42, 43, 44, 45, 46, 47, 48, 49, 50, 51] (fun ((k2, ag2, l_12_2) : Nat × Bool × (List Bool)) => [(8, .bool ag2), (9, .int .i64 (k2 : Int))])
    (fun ((k2, ag2, l_12_2) : Nat × Bool × (List Bool)) w' => (k2 ≤ t.arcs.length) ∧ (Pass t (!back) (onL b0 m) m l_12_0 k2 l_12_2 ag2) ∧ Mem w0 I0 I (row EBool (sv u14) l_12_2 :: box b3 25 [.int .i64 t.states, .int .i64 t.start, sv fu1, sv au1] :: Lt) w')
    (fun ((k2, ag2, l_12_2) : Nat × Bool × (List Bool)) => t.arcs.length - k2) (0, false, l_12_0) ⟨rfl, rfl, trivial⟩ ?_ ?_
  ·refine ⟨Nat.zero_le _, ⟨h2.1.1, h2.2, h2.1.2, nofun, fun _ => ⟨rfl, by simp⟩⟩, ?_⟩
   exact M
  rintro ⟨k2, ag2, l_12_2⟩ jj2 w5 ⟨hk2, hp, M⟩
  refine wc_seq ?_
  refine wc_seq ?_
  refine wc_region ?_
  refine wl_mv M rfl rfl ?_
  refine wl_m M (q_fa fo_25_3 rfl) rfl rfl ?_
  refine wl_m M (q_ldb 1 Try.underlying23 rfl rfl rfl rfl) rfl rfl ?_
  refine wl_m M (q_lenR Ra1 Try.underlying23 rfl) rfl rfl ?_
  refine wl_m M (q_lss rfl rfl) rfl rfl ?_
  refine wl_nil ?_
  refine wc_dec rfl (fun ht20 => ?_) (fun ht20 => ?_)
  ·obtain ⟨x2, hx2⟩ : ∃ x_, t.arcs[k2]? = some x_ := ⟨_, List.getElem?_eq_getElem (by omega)⟩
   have hx2r := hxs x2 (List.mem_of_getElem? hx2)
   refine wc_skip ?_
   refine wc_seq ?_
   refine wc_block ?_
   refine wc_seq ?_
   refine wc_draws (fun w' => Mem w0 I0 I (row EBool (sv u14) l_12_2 :: box b3 25 [.int .i64 t.states, .int .i64 t.start, sv fu1, sv au1] :: Lt) w' ∧ True) [] fol ?_
   replace M := M.drew
   have hS := (⟨M, trivial⟩ : _ ∧ _)
   refine wa_q 0 rfl (by kernel_rfl) (q_fa fo_25_3 rfl) hS rfl rfl ?_
   refine wa_q 1 rfl (by kernel_rfl) ((q_ldb 1 Try.underlying23 rfl rfl rfl rfl).mono fun _ h => h.1) hS rfl rfl ?_
   refine wa_q 2 rfl (by kernel_rfl) (q_move rfl) hS rfl rfl ?_
   refine wa_ixS (j := k2) 3 hS (fun _ h => Ra1.mono h.1.imm) rfl (by kernel_rfl) Try.underlying23 rfl rfl hx2 rfl (fun b26 o26 p26 => ?_)
   refine wa_q 4 rfl (by kernel_rfl) (q_fa fo_50_0 rfl) hS rfl rfl ?_
   refine wa_q 5 rfl (by kernel_rfl) (q_ldf p26 Try.underlying3 rfl rfl rfl) hS rfl rfl ?_
   refine wa_q 6 rfl (by kernel_rfl) (q_fa fo_25_3 rfl) hS rfl rfl ?_
   refine wa_q 7 rfl (by kernel_rfl) ((q_ldb 1 Try.underlying23 rfl rfl rfl rfl).mono fun _ h => h.1) hS rfl rfl ?_
   refine wa_q 8 rfl (by kernel_rfl) (q_move rfl) hS rfl rfl ?_
   refine wa_ixS (j := k2) 9 hS (fun _ h => Ra1.mono h.1.imm) rfl (by kernel_rfl) Try.underlying23 rfl rfl hx2 rfl (fun b32 o32 p32 => ?_)
   refine wa_q 10 rfl (by kernel_rfl) (q_fa fo_50_1 rfl) hS rfl rfl ?_
   refine wa_q 11 rfl (by kernel_rfl) (q_ldf p32 Try.underlying3 rfl rfl rfl) hS rfl rfl ?_
   refine wa_q 12 rfl (by kernel_rfl) (q_assign rfl) hS rfl rfl ?_
   refine wa_q 13 rfl (by kernel_rfl) (q_assign rfl) hS rfl rfl ?_
   refine wa_done (by kernel_rfl) ?_
   refine wc_seq ?_
   refine wc_seq ?_
   refine wc_region ?_
   refine wl_mv M rfl rfl ?_
   refine wl_nil ?_
   refine wc_cond rfl (fun ht35 => ?_) (fun ht35 => ?_)
   ·have hbk : back = true := ht35
    have hea : eA (!back) x2 = x2.dst := by rw [hbk]; rfl
    have heb : eB (!back) x2 = x2.src := by rw [hbk]; rfl
    obtain ⟨ya, hya⟩ : ∃ y, l_12_2[(eA (!back) x2).toNat]? = some y := ⟨_, List.getElem?_eq_getElem (by rw [hp.len, hea]; omega)⟩
    obtain ⟨yb, hyb⟩ : ∃ y, l_12_2[(eB (!back) x2).toNat]? = some y := ⟨_, List.getElem?_eq_getElem (by rw [hp.len, heb]; omega)⟩
    refine wc_region ?_
    refine wl_mv M rfl rfl ?_
    refine wl_mv M rfl rfl ?_
    refine wl_as M rfl rfl ?_
    refine wl_as M rfl rfl ?_
    refine wl_nil ?_
    refine wc_seq ?_
    refine wc_join (α := Unit) [38, 39, 40, 41, 42, 43, 44, 45, 46, 47, 48] (fun _ => [(48, .bool (ya && (!yb)))]) (fun _ w' => Mem w0 I0 I (row EBool (sv u14) l_12_2 :: box b3 25 [.int .i64 t.states, .int .i64 t.start, sv fu1, sv au1] :: Lt) w') ?_ ?_
    ·refine wc_region ?_
     refine wl_mv M rfl rfl ?_
     refine wl_mv M rfl rfl ?_
     refine wl_ixr (j := ((eA (!back) x2).toNat)) 0 M rfl Try.underlying89 rfl (ixe (by rw [hea]; omega)) hya rfl (fun b40 o40 p40 => ?_)
     refine wl_m M (q_ldp p40 rfl rfl) rfl rfl ?_
     refine wl_mv M rfl rfl ?_
     rcases Bool.eq_false_or_eq_true (ya) with hg42 | hg42
     ·refine wl_m M (q_guard 4 rfl rfl rfl hg42 (q_move rfl)) rfl rfl ?_
      refine wl_m M (q_guard 4 rfl rfl rfl hg42 (q_move rfl)) rfl rfl ?_
      refine wl_ixrG (j := ((eB (!back) x2).toNat)) 4 rfl rfl rfl hg42 0 M rfl Try.underlying89 rfl (ixe (by rw [heb]; omega)) hyb rfl (fun b45 o45 p45 => ?_)
      refine wl_m M (q_guard 4 rfl rfl rfl hg42 (q_ldp p45 rfl rfl)) rfl rfl ?_
      refine wl_m M (q_guard 4 rfl rfl rfl hg42 (q_not rfl)) rfl rfl ?_
      refine wl_m M (q_pickT rfl hg42 rfl) rfl rfl ?_
      refine wl_nil ?_
      exact ⟨(), M, ⟨(show some (Value.bool (!yb)) = some (Value.bool (ya && (!yb))) from by first | (simp only [hg42, Bool.true_or, Bool.false_or, Bool.true_and, Bool.false_and, Bool.or_true, Bool.or_false, Bool.and_true, Bool.and_false]; done) | simp_all), trivial⟩, unw_take 11 rfl rfl⟩
     refine wl_m M (q_off 4 rfl rfl rfl hg42) rfl rfl ?_
     refine wl_m M (q_off 4 rfl rfl rfl hg42) rfl rfl ?_
     refine wl_m M (q_off 4 rfl rfl rfl hg42) rfl rfl ?_
     refine wl_m M (q_off 4 rfl rfl rfl hg42) rfl rfl ?_
     refine wl_m M (q_off 4 rfl rfl rfl hg42) rfl rfl ?_
     refine wl_m M (q_pickF rfl hg42 rfl) rfl rfl ?_
     refine wl_nil ?_
     exact ⟨(), M, ⟨(show some (Value.bool false) = some (Value.bool (ya && (!yb))) from by first | (simp only [hg42, Bool.true_or, Bool.false_or, Bool.true_and, Bool.false_and, Bool.or_true, Bool.or_false, Bool.and_true, Bool.and_false]; done) | simp_all), trivial⟩, unw_take 11 rfl rfl⟩
    rintro _ jr11 w6 M
    refine wc_cond rfl (fun ht48 => ?_) (fun ht48 => ?_)
    ·refine wc_seq ?_
     refine wc_region ?_
     refine wl_mv M rfl rfl ?_
     refine wl_mv M rfl rfl ?_
     refine wl_ixw (j := ((eB (!back) x2).toNat)) 0 M rfl Try.underlying89 rfl (ixe (by rw [heb]; omega)) (by rw [hp.len, heb]; omega) rfl (fun b51 o51 p51 => ?_)
     refine wl_e0 (e_str (u := true) 0 M rfl rfl rfl p51 (by rw [hp.len, heb]; omega) rfl) rfl ?_
     intro _ w7 M
     simp only [sC0, sCS] at M
     refine wl_nil ?_
     refine wc_region ?_
     refine wl_as M rfl rfl ?_
     refine wl_nil ?_
     refine wc_region ?_
     refine wl_mv M rfl rfl ?_
     refine wl_m M (q_add rfl rfl (IntWalk.i64_in _ (by omega))) rfl rfl ?_
     refine wl_as M rfl rfl ?_
     refine wl_nil ?_
     refine ⟨(k2 + 1, true, l_12_2.set ((eB (!back) x2).toNat) true), ?_, ⟨(by omega), (hp.hit hx2 ((bt_of (by rw [hea]; omega) hya).2 (by simpa using (Bool.and_eq_true_iff.1 ht48).1)) (by rw [heb]; omega) (by rw [hyb]; congr 1; simpa using (Bool.and_eq_true_iff.1 ht48).2)), M⟩, ⟨rfl, rfl, trivial⟩, unw_look rfl (unw_hav rfl (unw_look rfl unw_base))⟩
     show t.arcs.length - (k2 + 1) < t.arcs.length - k2
     omega
    refine wc_skip ?_
    refine wc_region ?_
    refine wl_mv M rfl rfl ?_
    refine wl_m M (q_add rfl rfl (IntWalk.i64_in _ (by omega))) rfl rfl ?_
    refine wl_as M rfl rfl ?_
    refine wl_nil ?_
    refine ⟨(k2 + 1, ag2, l_12_2), ?_, ⟨(by omega), (hp.skip hx2 (fun h => (bt_of (by rw [heb]; omega) hyb).2 (by have := (bt_of (by rw [hea]; omega) hya).1 h; subst this; simpa using ht48))), M⟩, ⟨rfl, rfl, trivial⟩, unw_look rfl (unw_hav rfl (unw_look rfl unw_base))⟩
    show t.arcs.length - (k2 + 1) < t.arcs.length - k2
    omega
   have hbk : back = false := ht35
   have hea : eA (!back) x2 = x2.src := by rw [hbk]; rfl
   have heb : eB (!back) x2 = x2.dst := by rw [hbk]; rfl
   obtain ⟨ya, hya⟩ : ∃ y, l_12_2[(eA (!back) x2).toNat]? = some y := ⟨_, List.getElem?_eq_getElem (by rw [hp.len, hea]; omega)⟩
   obtain ⟨yb, hyb⟩ : ∃ y, l_12_2[(eB (!back) x2).toNat]? = some y := ⟨_, List.getElem?_eq_getElem (by rw [hp.len, heb]; omega)⟩
   refine wc_skip ?_
   refine wc_seq ?_
   refine wc_join (α := Unit) [38, 39, 40, 41, 42, 43, 44, 45, 46, 47, 48] (fun _ => [(48, .bool (ya && (!yb)))]) (fun _ w' => Mem w0 I0 I (row EBool (sv u14) l_12_2 :: box b3 25 [.int .i64 t.states, .int .i64 t.start, sv fu1, sv au1] :: Lt) w') ?_ ?_
   ·refine wc_region ?_
    refine wl_mv M rfl rfl ?_
    refine wl_mv M rfl rfl ?_
    refine wl_ixr (j := ((eA (!back) x2).toNat)) 0 M rfl Try.underlying89 rfl (ixe (by rw [hea]; omega)) hya rfl (fun b40 o40 p40 => ?_)
    refine wl_m M (q_ldp p40 rfl rfl) rfl rfl ?_
    refine wl_mv M rfl rfl ?_
    rcases Bool.eq_false_or_eq_true (ya) with hg42 | hg42
    ·refine wl_m M (q_guard 4 rfl rfl rfl hg42 (q_move rfl)) rfl rfl ?_
     refine wl_m M (q_guard 4 rfl rfl rfl hg42 (q_move rfl)) rfl rfl ?_
     refine wl_ixrG (j := ((eB (!back) x2).toNat)) 4 rfl rfl rfl hg42 0 M rfl Try.underlying89 rfl (ixe (by rw [heb]; omega)) hyb rfl (fun b45 o45 p45 => ?_)
     refine wl_m M (q_guard 4 rfl rfl rfl hg42 (q_ldp p45 rfl rfl)) rfl rfl ?_
     refine wl_m M (q_guard 4 rfl rfl rfl hg42 (q_not rfl)) rfl rfl ?_
     refine wl_m M (q_pickT rfl hg42 rfl) rfl rfl ?_
     refine wl_nil ?_
     exact ⟨(), M, ⟨(show some (Value.bool (!yb)) = some (Value.bool (ya && (!yb))) from by first | (simp only [hg42, Bool.true_or, Bool.false_or, Bool.true_and, Bool.false_and, Bool.or_true, Bool.or_false, Bool.and_true, Bool.and_false]; done) | simp_all), trivial⟩, unw_take 11 rfl rfl⟩
    refine wl_m M (q_off 4 rfl rfl rfl hg42) rfl rfl ?_
    refine wl_m M (q_off 4 rfl rfl rfl hg42) rfl rfl ?_
    refine wl_m M (q_off 4 rfl rfl rfl hg42) rfl rfl ?_
    refine wl_m M (q_off 4 rfl rfl rfl hg42) rfl rfl ?_
    refine wl_m M (q_off 4 rfl rfl rfl hg42) rfl rfl ?_
    refine wl_m M (q_pickF rfl hg42 rfl) rfl rfl ?_
    refine wl_nil ?_
    exact ⟨(), M, ⟨(show some (Value.bool false) = some (Value.bool (ya && (!yb))) from by first | (simp only [hg42, Bool.true_or, Bool.false_or, Bool.true_and, Bool.false_and, Bool.or_true, Bool.or_false, Bool.and_true, Bool.and_false]; done) | simp_all), trivial⟩, unw_take 11 rfl rfl⟩
   rintro _ jr11 w8 M
   refine wc_cond rfl (fun ht48 => ?_) (fun ht48 => ?_)
   ·refine wc_seq ?_
    refine wc_region ?_
    refine wl_mv M rfl rfl ?_
    refine wl_mv M rfl rfl ?_
    refine wl_ixw (j := ((eB (!back) x2).toNat)) 0 M rfl Try.underlying89 rfl (ixe (by rw [heb]; omega)) (by rw [hp.len, heb]; omega) rfl (fun b51 o51 p51 => ?_)
    refine wl_e0 (e_str (u := true) 0 M rfl rfl rfl p51 (by rw [hp.len, heb]; omega) rfl) rfl ?_
    intro _ w9 M
    simp only [sC0, sCS] at M
    refine wl_nil ?_
    refine wc_region ?_
    refine wl_as M rfl rfl ?_
    refine wl_nil ?_
    refine wc_region ?_
    refine wl_mv M rfl rfl ?_
    refine wl_m M (q_add rfl rfl (IntWalk.i64_in _ (by omega))) rfl rfl ?_
    refine wl_as M rfl rfl ?_
    refine wl_nil ?_
    refine ⟨(k2 + 1, true, l_12_2.set ((eB (!back) x2).toNat) true), ?_, ⟨(by omega), (hp.hit hx2 ((bt_of (by rw [hea]; omega) hya).2 (by simpa using (Bool.and_eq_true_iff.1 ht48).1)) (by rw [heb]; omega) (by rw [hyb]; congr 1; simpa using (Bool.and_eq_true_iff.1 ht48).2)), M⟩, ⟨rfl, rfl, trivial⟩, unw_look rfl (unw_hav rfl (unw_look rfl unw_base))⟩
    show t.arcs.length - (k2 + 1) < t.arcs.length - k2
    omega
   refine wc_skip ?_
   refine wc_region ?_
   refine wl_mv M rfl rfl ?_
   refine wl_m M (q_add rfl rfl (IntWalk.i64_in _ (by omega))) rfl rfl ?_
   refine wl_as M rfl rfl ?_
   refine wl_nil ?_
   refine ⟨(k2 + 1, ag2, l_12_2), ?_, ⟨(by omega), (hp.skip hx2 (fun h => (bt_of (by rw [heb]; omega) hyb).2 (by have := (bt_of (by rw [hea]; omega) hya).1 h; subst this; simpa using ht48))), M⟩, ⟨rfl, rfl, trivial⟩, unw_look rfl (unw_hav rfl (unw_look rfl unw_base))⟩
   show t.arcs.length - (k2 + 1) < t.arcs.length - k2
   omega
  have hke2 : k2 = t.arcs.length := by omega
  refine wc_exit rfl ?_
  refine ⟨(ag2, l_12_2), ?_, ⟨⟨⟨hp.len, hp.frm⟩, hp.sub⟩, (fun e => by have := (hp.cl e).2; rw [hke2, List.take_length] at this; exact this), M⟩, ⟨rfl, trivial⟩, unw_look rfl (unw_hav rfl (unw_look rfl unw_base))⟩
  show 2 * (l_12_2.count false) + ag2.toNat < 2 * (l_12_0.count false) + ag0.toNat
  subst ht15
  cases hag : ag2 with
  | true => have := hp.up hag; simp; omega
  | false => have := (hp.cl hag).1; subst this; simp
 refine wc_exit rfl ?_
 refine wc_seq ?_
 refine wc_region ?_
 refine wl_mv M rfl rfl ?_
 refine wl_as M rfl rfl ?_
 refine wl_nil ?_
 refine wc_ret ?_
 replace M := M.drop 1
 exact out1 rfl rfl ⟨_, rfl, _, _, rfl, ⟨h2.1.1, fun s => by rw [Pass.fin (m := m) h2.2 h2.1.2 (h3 ht15)]; exact reach_ext (fun _ _ => Iff.rfl) (fun s => mem_onL hb0)⟩, M⟩
end Go.Proofs.Ytfepjcmjkaolgaa.G
