/- Walks of the program's functions. -/
import Derived.Test.YtoilmeiikgegcaaDoorWE4
import Derived.Test.YtoilmeiikgegcaaDoorGRef
set_option linter.all false
namespace Go.Proofs.YtoilmeiikgegcaaDoor.G
open Go Go.RowKit
theorem reached4_c {t : Tra} {m : Nat} (hst : t.states = m) (hm : m ≤ 1073741824) (hxs : ∀ x ∈ t.arcs, (0 ≤ x.src ∧ x.src < m) ∧ 0 ≤ x.dst ∧ x.dst < m) {fr : List Int} (hfr : ∀ f ∈ fr, 0 ≤ f ∧ f < m) (fwd : Bool) {v : Value} {uf : SV} {I : Heap} {w : World} (hI : hle I (hp w)) (R : t.rd I v) (Rf0 : rdSl EInt I (sv uf) fr) :
    Calls A 86 #[v, sv uf, .bool fwd] w (Ret w I fun r I' => ∃ bs : List Bool, rdSl EBool I' r bs ∧ bs.length = m ∧ ∀ s, bt bs s ↔ Reach (stp t fwd) (· ∈ fr) s) := by
 obtain ⟨fu, au, rfl, Rf, Ra⟩ := R
 have M := Mem.start hI
 refine enter Tryd.func86 rfl 60 Tryd.ntmps86 [_, _, _] rfl ?_
 refine wc_seq ?_
 refine wc_region ?_
 refine wl_e (e_box M rfl) rfl rfl ?_
 rintro _ w1 ⟨b3, rfl, M⟩
 refine wl_as M rfl rfl ?_
 refine wl_nil ?_
 refine wc_seq ?_
 refine wc_region ?_
 refine wl_m M (q_fa fo_29_0 rfl) rfl rfl ?_
 refine wl_m M (q_ldb 0 Tryd.underlying3 rfl rfl rfl rfl) rfl rfl ?_
 refine wl_e (e_make (E := EBool) (zv := false) (m := m) M Tryd.underlying56 z4 (by rw [hst]; rfl) (by rw [hst]; rfl) (by show _ * 1 ≤ _; omega)) rfl rfl ?_
 rintro _ w2 ⟨u17, rfl, M⟩
 refine wl_as M rfl rfl ?_
 refine wl_nil ?_
 refine wc_seq ?_
 refine wc_seq ?_
 refine wc_region ?_
 refine wl_mv M rfl rfl ?_
 refine wl_m M (q_lenR Rf0 Tryd.underlying26 rfl) rfl rfl ?_
 refine wl_mv M rfl rfl ?_
 refine wl_nil ?_
 refine wc_block ?_
 refine wc_loop (α := Nat × (List Bool)) [9, 20, 21, 22, 23, 24, 25, 26, 27] (fun ((k0, l_17_0) : Nat × (List Bool)) => [(20, .int .i64 (k0 : Int))])
   (fun ((k0, l_17_0) : Nat × (List Bool)) w' => (k0 ≤ fr.length) ∧ (l_17_0.length = m ∧ ∀ s, bt l_17_0 s ↔ s ∈ fr.take k0) ∧ Mem w I I (row EBool (sv u17) l_17_0 :: box b3 29 [.int .i64 t.states, .int .i64 t.start, sv fu, sv au] :: []) w')
   (fun ((k0, l_17_0) : Nat × (List Bool)) => fr.length - k0) (0, List.replicate m false) ⟨rfl, trivial⟩ ?_ ?_
 ·refine ⟨Nat.zero_le _, ⟨by simp, fun s => by simp [bt_rep]⟩, ?_⟩
  exact M
 rintro ⟨k0, l_17_0⟩ jj0 w3 ⟨hk0, hl, M⟩
 refine wc_seq ?_
 refine wc_region ?_
 refine wl_m M (q_lss rfl rfl) rfl rfl ?_
 refine wl_nil ?_
 refine wc_seq ?_
 refine wc_dec rfl (fun ht21 => ?_) (fun ht21 => ?_)
 ·obtain ⟨x0, hx0⟩ : ∃ x_, fr[k0]? = some x_ := ⟨_, List.getElem?_eq_getElem (by omega)⟩
  have hll0 := (Rf0).len_le
  have hx0r := hfr x0 (List.mem_of_getElem? hx0)
  refine wc_skip ?_
  refine wc_seq ?_
  refine wc_block ?_
  refine wc_seq ?_
  refine wc_region ?_
  refine wl_ix (j := k0) M Rf0 Tryd.underlying26 rfl rfl hx0 rfl (fun b22 o22 p22 => ?_)
  refine wl_m M (q_ldp p22 rfl rfl) rfl rfl ?_
  refine wl_as M rfl rfl ?_
  refine wl_nil ?_
  refine wc_region ?_
  refine wl_mv M rfl rfl ?_
  refine wl_mv M rfl rfl ?_
  refine wl_ixw (j := x0.toNat) 0 M rfl Tryd.underlying56 rfl (ixe (by omega)) (by rw [hl.1]; omega) rfl (fun b26 o26 p26 => ?_)
  refine wl_e0 (e_str (u := true) 0 M rfl rfl rfl p26 (by rw [hl.1]; omega) rfl) rfl ?_
  intro _ w4 M
  simp only [sC0, sCS] at M
  refine wl_nil ?_
  refine wc_region ?_
  refine wl_m M (q_add rfl rfl (IntWalk.i64_in _ (by omega))) rfl rfl ?_
  refine wl_mv M rfl rfl ?_
  refine wl_nil ?_
  refine ⟨(k0 + 1, l_17_0.set x0.toNat true), ?_, ⟨(by omega), ⟨by simp [hl.1], fun s => by rw [bt_set (by rw [hl.1]; exact hx0r), hl.2, take_snoc hx0]; simp [or_comm]⟩, M⟩, ⟨rfl, trivial⟩, unw_look rfl unw_base⟩
  show fr.length - (k0 + 1) < fr.length - k0
  omega
 have hke0 : k0 = fr.length := by omega
 rw [hke0, List.take_length] at hl
 refine wc_exit rfl ?_
 refine wc_seq ?_
 refine wc_seq ?_
 refine wc_region ?_
 refine wl_as M rfl rfl ?_
 refine wl_nil ?_
 refine wc_block ?_
 refine wc_loop (α := Bool × (List Bool)) [10, 12, 13, 14, 28, 29, 30, 31, 32, 33, 34, 35, 36, 37, 38, 39, 40, 41, 42, 43, 44, 45, 46, 47, 48, 49, 50, 51, 52, 53, 54, 55, 56, 57, 58] (fun ((ag2, l_17_2) : Bool × (List Bool)) => [(10, .bool ag2)])
   (fun ((ag2, l_17_2) : Bool × (List Bool)) w' => ((l_17_2.length = m ∧ ∀ s ∈ fr, bt l_17_2 s) ∧ (∀ s, bt l_17_2 s → Reach (stp t fwd) (· ∈ fr) s)) ∧ (ag2 = false → ∀ x ∈ t.arcs, bt l_17_2 (eA fwd x) → bt l_17_2 (eB fwd x)) ∧ Mem w I I (row EBool (sv u17) l_17_2 :: box b3 29 [.int .i64 t.states, .int .i64 t.start, sv fu, sv au] :: []) w')
   (fun ((ag2, l_17_2) : Bool × (List Bool)) => 2 * (l_17_2.count false) + ag2.toNat) (true, l_17_0) ⟨rfl, trivial⟩ ?_ ?_
 ·refine ⟨⟨⟨hl.1, fun s hs => (hl.2 s).2 hs⟩, fun s hs => .base ((hl.2 s).1 hs)⟩, nofun, ?_⟩
  exact M
 rintro ⟨ag2, l_17_2⟩ jj2 w5 ⟨h2, h3, M⟩
 refine wc_seq ?_
 refine wc_seq ?_
 refine wc_region ?_
 refine wl_mv M rfl rfl ?_
 refine wl_nil ?_
 refine wc_cond rfl (fun ht28 => ?_) (fun ht28 => ?_)
 ·refine wc_skip ?_
  refine wc_block ?_
  refine wc_seq ?_
  refine wc_region ?_
  refine wl_as M rfl rfl ?_
  refine wl_nil ?_
  refine wc_seq ?_
  refine wc_region ?_
  refine wl_m M (q_fa fo_29_3 rfl) rfl rfl ?_
  refine wl_m M (q_ldb 1 Tryd.underlying27 rfl rfl rfl rfl) rfl rfl ?_
  refine wl_m M (q_lenR Ra Tryd.underlying27 rfl) rfl rfl ?_
  refine wl_mv M rfl rfl ?_
  refine wl_nil ?_
  refine wc_block ?_
  refine wc_loop (α := Nat × Bool × (List Bool)) [10, 12, 13, 14, 32, 33, 34, 35, 36, 37, 38, 39, 40, 41, 42, 43, 44, 45, 46, 47, 48, 49, 50, 51, 52, 53, 54, 55, 56, 57, 58] (fun ((k4, ag4, l_17_4) : Nat × Bool × (List Bool)) => [(10, .bool ag4), (32, .int .i64 (k4 : Int))])
    (fun ((k4, ag4, l_17_4) : Nat × Bool × (List Bool)) w' => (k4 ≤ t.arcs.length) ∧ (Pass t fwd fr m l_17_2 k4 l_17_4 ag4) ∧ Mem w I I (row EBool (sv u17) l_17_4 :: box b3 29 [.int .i64 t.states, .int .i64 t.start, sv fu, sv au] :: []) w')
    (fun ((k4, ag4, l_17_4) : Nat × Bool × (List Bool)) => t.arcs.length - k4) (0, false, l_17_2) ⟨rfl, rfl, trivial⟩ ?_ ?_
  ·refine ⟨Nat.zero_le _, ⟨h2.1.1, h2.2, h2.1.2, nofun, fun _ => ⟨rfl, by simp⟩⟩, ?_⟩
   exact M
  rintro ⟨k4, ag4, l_17_4⟩ jj4 w6 ⟨hk4, hp, M⟩
  refine wc_seq ?_
  refine wc_region ?_
  refine wl_m M (q_lss rfl rfl) rfl rfl ?_
  refine wl_nil ?_
  refine wc_seq ?_
  refine wc_dec rfl (fun ht33 => ?_) (fun ht33 => ?_)
  ·obtain ⟨x4, hx4⟩ : ∃ x_, t.arcs[k4]? = some x_ := ⟨_, List.getElem?_eq_getElem (by omega)⟩
   have hll4 := (Ra).len_le
   have hx4r := hxs x4 (List.mem_of_getElem? hx4)
   refine wc_skip ?_
   refine wc_seq ?_
   refine wc_block ?_
   refine wc_seq ?_
   refine wc_region ?_
   refine wl_ix (j := k4) M Ra Tryd.underlying27 rfl rfl hx4 rfl (fun b34 o34 p34 => ?_)
   refine wl_m M (q_ldp p34 rfl rfl) rfl rfl ?_
   refine wl_e (e_alloc M z52) rfl rfl ?_
   rintro _ w7 ⟨b12, rfl, M⟩
   refine wl_e0 (e_stW 0 M rfl rfl rfl sz52 rfl rfl) rfl ?_
   intro _ w8 M
   simp only [sC0, sCS] at M
   refine wl_nil ?_
   refine wc_seq ?_
   refine wc_draws (fun w' => Mem w I I (box b12 52 [.int .i64 x4.src, .int .i64 x4.dst, .int .i32 x4.inp, .int .i32 x4.out] :: row EBool (sv u17) l_17_4 :: box b3 29 [.int .i64 t.states, .int .i64 t.start, sv fu, sv au] :: []) w' ∧ True) [] fol ?_
   replace M := M.drew
   have hS := (⟨M, trivial⟩ : _ ∧ _)
   refine wa_q 0 rfl (by kernel_rfl) (q_fa fo_52_0 rfl) hS rfl rfl ?_
   refine wa_q 1 rfl (by kernel_rfl) ((q_ldb 0 Tryd.underlying3 rfl rfl rfl rfl).mono fun _ h => h.1) hS rfl rfl ?_
   refine wa_q 2 rfl (by kernel_rfl) (q_fa fo_52_1 rfl) hS rfl rfl ?_
   refine wa_q 3 rfl (by kernel_rfl) ((q_ldb 0 Tryd.underlying3 rfl rfl rfl rfl).mono fun _ h => h.1) hS rfl rfl ?_
   refine wa_q 4 rfl (by kernel_rfl) (q_assign rfl) hS rfl rfl ?_
   refine wa_q 5 rfl (by kernel_rfl) (q_assign rfl) hS rfl rfl ?_
   refine wa_done (by kernel_rfl) ?_
   refine wc_seq ?_
   refine wc_seq ?_
   refine wc_region ?_
   refine wl_mv M rfl rfl ?_
   refine wl_m M (q_not rfl) rfl rfl ?_
   refine wl_nil ?_
   refine wc_cond rfl (fun ht41 => ?_) (fun ht41 => ?_)
   ·have hea : eA fwd x4 = x4.dst := by rw [eA, show fwd = false by simpa using ht41]; rfl
    have heb : eB fwd x4 = x4.src := by rw [eB, show fwd = false by simpa using ht41]; rfl
    obtain ⟨ya, hya⟩ : ∃ y, l_17_4[(eA fwd x4).toNat]? = some y := ⟨_, List.getElem?_eq_getElem (by rw [hp.len, hea]; omega)⟩
    obtain ⟨yb, hyb⟩ : ∃ y, l_17_4[(eB fwd x4).toNat]? = some y := ⟨_, List.getElem?_eq_getElem (by rw [hp.len, heb]; omega)⟩
    refine wc_region ?_
    refine wl_mv M rfl rfl ?_
    refine wl_mv M rfl rfl ?_
    refine wl_as M rfl rfl ?_
    refine wl_as M rfl rfl ?_
    refine wl_nil ?_
    refine wc_seq ?_
    refine wc_join (α := Unit) [44, 45, 46, 47, 48, 49, 50, 51, 52, 53, 54] (fun _ => [(54, .bool (ya && (!yb)))]) (fun _ w' => Mem w I I (box b12 52 [.int .i64 x4.src, .int .i64 x4.dst, .int .i32 x4.inp, .int .i32 x4.out] :: row EBool (sv u17) l_17_4 :: box b3 29 [.int .i64 t.states, .int .i64 t.start, sv fu, sv au] :: []) w') ?_ ?_
    ·refine wc_region ?_
     refine wl_mv M rfl rfl ?_
     refine wl_mv M rfl rfl ?_
     refine wl_ixr (j := ((eA fwd x4).toNat)) 1 M rfl Tryd.underlying56 rfl (ixe (by rw [hea]; omega)) hya rfl (fun b46 o46 p46 => ?_)
     refine wl_m M (q_ldp p46 rfl rfl) rfl rfl ?_
     refine wl_mv M rfl rfl ?_
     rcases Bool.eq_false_or_eq_true (ya) with hg48 | hg48
     ·refine wl_m M (q_guard 4 rfl rfl rfl hg48 (q_move rfl)) rfl rfl ?_
      refine wl_m M (q_guard 4 rfl rfl rfl hg48 (q_move rfl)) rfl rfl ?_
      refine wl_ixrG (j := ((eB fwd x4).toNat)) 4 rfl rfl rfl hg48 1 M rfl Tryd.underlying56 rfl (ixe (by rw [heb]; omega)) hyb rfl (fun b51 o51 p51 => ?_)
      refine wl_m M (q_guard 4 rfl rfl rfl hg48 (q_ldp p51 rfl rfl)) rfl rfl ?_
      refine wl_m M (q_guard 4 rfl rfl rfl hg48 (q_not rfl)) rfl rfl ?_
      refine wl_m M (q_pickT rfl hg48 rfl) rfl rfl ?_
      refine wl_nil ?_
      exact ⟨(), M, ⟨(show some (Value.bool (!yb)) = some (Value.bool (ya && (!yb))) from by first | (simp only [hg48, Bool.true_or, Bool.false_or, Bool.true_and, Bool.false_and, Bool.or_true, Bool.or_false, Bool.and_true, Bool.and_false]; done) | simp_all), trivial⟩, unw_take 11 rfl rfl⟩
     refine wl_m M (q_off 4 rfl rfl rfl hg48) rfl rfl ?_
     refine wl_m M (q_off 4 rfl rfl rfl hg48) rfl rfl ?_
     refine wl_m M (q_off 4 rfl rfl rfl hg48) rfl rfl ?_
     refine wl_m M (q_off 4 rfl rfl rfl hg48) rfl rfl ?_
     refine wl_m M (q_off 4 rfl rfl rfl hg48) rfl rfl ?_
     refine wl_m M (q_pickF rfl hg48 rfl) rfl rfl ?_
     refine wl_nil ?_
     exact ⟨(), M, ⟨(show some (Value.bool false) = some (Value.bool (ya && (!yb))) from by first | (simp only [hg48, Bool.true_or, Bool.false_or, Bool.true_and, Bool.false_and, Bool.or_true, Bool.or_false, Bool.and_true, Bool.and_false]; done) | simp_all), trivial⟩, unw_take 11 rfl rfl⟩
    rintro _ jr16 w9 M
    refine wc_cond rfl (fun ht54 => ?_) (fun ht54 => ?_)
    ·refine wc_seq ?_
     refine wc_region ?_
     refine wl_mv M rfl rfl ?_
     refine wl_mv M rfl rfl ?_
     refine wl_ixw (j := ((eB fwd x4).toNat)) 1 M rfl Tryd.underlying56 rfl (ixe (by rw [heb]; omega)) (by rw [hp.len, heb]; omega) rfl (fun b57 o57 p57 => ?_)
     refine wl_e0 (e_str (u := true) 1 M rfl rfl rfl p57 (by rw [hp.len, heb]; omega) rfl) rfl ?_
     intro _ w10 M
     simp only [sC0, sCS] at M
     refine wl_nil ?_
     refine wc_region ?_
     refine wl_as M rfl rfl ?_
     refine wl_nil ?_
     refine wc_region ?_
     refine wl_m M (q_add rfl rfl (IntWalk.i64_in _ (by omega))) rfl rfl ?_
     refine wl_mv M rfl rfl ?_
     refine wl_nil ?_
     replace M := M.drop 0
     refine ⟨(k4 + 1, true, l_17_4.set ((eB fwd x4).toNat) true), ?_, ⟨(by omega), (hp.hit hx4 ((bt_of (by rw [hea]; omega) hya).2 (by simpa using (Bool.and_eq_true_iff.1 ht54).1)) (by rw [heb]; omega) (by rw [hyb]; congr 1; simpa using (Bool.and_eq_true_iff.1 ht54).2)), M⟩, ⟨rfl, rfl, trivial⟩, unw_look rfl (unw_hav rfl (unw_look rfl unw_base))⟩
     show t.arcs.length - (k4 + 1) < t.arcs.length - k4
     omega
    refine wc_skip ?_
    refine wc_region ?_
    refine wl_m M (q_add rfl rfl (IntWalk.i64_in _ (by omega))) rfl rfl ?_
    refine wl_mv M rfl rfl ?_
    refine wl_nil ?_
    replace M := M.drop 0
    refine ⟨(k4 + 1, ag4, l_17_4), ?_, ⟨(by omega), (hp.skip hx4 (fun h => (bt_of (by rw [heb]; omega) hyb).2 (by have := (bt_of (by rw [hea]; omega) hya).1 h; subst this; simpa using ht54))), M⟩, ⟨rfl, rfl, trivial⟩, unw_look rfl (unw_hav rfl (unw_look rfl unw_base))⟩
    show t.arcs.length - (k4 + 1) < t.arcs.length - k4
    omega
   have hea : eA fwd x4 = x4.src := by rw [eA, show fwd = true by simpa using ht41]; rfl
   have heb : eB fwd x4 = x4.dst := by rw [eB, show fwd = true by simpa using ht41]; rfl
   obtain ⟨ya, hya⟩ : ∃ y, l_17_4[(eA fwd x4).toNat]? = some y := ⟨_, List.getElem?_eq_getElem (by rw [hp.len, hea]; omega)⟩
   obtain ⟨yb, hyb⟩ : ∃ y, l_17_4[(eB fwd x4).toNat]? = some y := ⟨_, List.getElem?_eq_getElem (by rw [hp.len, heb]; omega)⟩
   refine wc_skip ?_
   refine wc_seq ?_
   refine wc_join (α := Unit) [44, 45, 46, 47, 48, 49, 50, 51, 52, 53, 54] (fun _ => [(54, .bool (ya && (!yb)))]) (fun _ w' => Mem w I I (box b12 52 [.int .i64 x4.src, .int .i64 x4.dst, .int .i32 x4.inp, .int .i32 x4.out] :: row EBool (sv u17) l_17_4 :: box b3 29 [.int .i64 t.states, .int .i64 t.start, sv fu, sv au] :: []) w') ?_ ?_
   ·refine wc_region ?_
    refine wl_mv M rfl rfl ?_
    refine wl_mv M rfl rfl ?_
    refine wl_ixr (j := ((eA fwd x4).toNat)) 1 M rfl Tryd.underlying56 rfl (ixe (by rw [hea]; omega)) hya rfl (fun b46 o46 p46 => ?_)
    refine wl_m M (q_ldp p46 rfl rfl) rfl rfl ?_
    refine wl_mv M rfl rfl ?_
    rcases Bool.eq_false_or_eq_true (ya) with hg48 | hg48
    ·refine wl_m M (q_guard 4 rfl rfl rfl hg48 (q_move rfl)) rfl rfl ?_
     refine wl_m M (q_guard 4 rfl rfl rfl hg48 (q_move rfl)) rfl rfl ?_
     refine wl_ixrG (j := ((eB fwd x4).toNat)) 4 rfl rfl rfl hg48 1 M rfl Tryd.underlying56 rfl (ixe (by rw [heb]; omega)) hyb rfl (fun b51 o51 p51 => ?_)
     refine wl_m M (q_guard 4 rfl rfl rfl hg48 (q_ldp p51 rfl rfl)) rfl rfl ?_
     refine wl_m M (q_guard 4 rfl rfl rfl hg48 (q_not rfl)) rfl rfl ?_
     refine wl_m M (q_pickT rfl hg48 rfl) rfl rfl ?_
     refine wl_nil ?_
     exact ⟨(), M, ⟨(show some (Value.bool (!yb)) = some (Value.bool (ya && (!yb))) from by first | (simp only [hg48, Bool.true_or, Bool.false_or, Bool.true_and, Bool.false_and, Bool.or_true, Bool.or_false, Bool.and_true, Bool.and_false]; done) | simp_all), trivial⟩, unw_take 11 rfl rfl⟩
    refine wl_m M (q_off 4 rfl rfl rfl hg48) rfl rfl ?_
    refine wl_m M (q_off 4 rfl rfl rfl hg48) rfl rfl ?_
    refine wl_m M (q_off 4 rfl rfl rfl hg48) rfl rfl ?_
    refine wl_m M (q_off 4 rfl rfl rfl hg48) rfl rfl ?_
    refine wl_m M (q_off 4 rfl rfl rfl hg48) rfl rfl ?_
    refine wl_m M (q_pickF rfl hg48 rfl) rfl rfl ?_
    refine wl_nil ?_
    exact ⟨(), M, ⟨(show some (Value.bool false) = some (Value.bool (ya && (!yb))) from by first | (simp only [hg48, Bool.true_or, Bool.false_or, Bool.true_and, Bool.false_and, Bool.or_true, Bool.or_false, Bool.and_true, Bool.and_false]; done) | simp_all), trivial⟩, unw_take 11 rfl rfl⟩
   rintro _ jr16 w11 M
   refine wc_cond rfl (fun ht54 => ?_) (fun ht54 => ?_)
   ·refine wc_seq ?_
    refine wc_region ?_
    refine wl_mv M rfl rfl ?_
    refine wl_mv M rfl rfl ?_
    refine wl_ixw (j := ((eB fwd x4).toNat)) 1 M rfl Tryd.underlying56 rfl (ixe (by rw [heb]; omega)) (by rw [hp.len, heb]; omega) rfl (fun b57 o57 p57 => ?_)
    refine wl_e0 (e_str (u := true) 1 M rfl rfl rfl p57 (by rw [hp.len, heb]; omega) rfl) rfl ?_
    intro _ w12 M
    simp only [sC0, sCS] at M
    refine wl_nil ?_
    refine wc_region ?_
    refine wl_as M rfl rfl ?_
    refine wl_nil ?_
    refine wc_region ?_
    refine wl_m M (q_add rfl rfl (IntWalk.i64_in _ (by omega))) rfl rfl ?_
    refine wl_mv M rfl rfl ?_
    refine wl_nil ?_
    replace M := M.drop 0
    refine ⟨(k4 + 1, true, l_17_4.set ((eB fwd x4).toNat) true), ?_, ⟨(by omega), (hp.hit hx4 ((bt_of (by rw [hea]; omega) hya).2 (by simpa using (Bool.and_eq_true_iff.1 ht54).1)) (by rw [heb]; omega) (by rw [hyb]; congr 1; simpa using (Bool.and_eq_true_iff.1 ht54).2)), M⟩, ⟨rfl, rfl, trivial⟩, unw_look rfl (unw_hav rfl (unw_look rfl unw_base))⟩
    show t.arcs.length - (k4 + 1) < t.arcs.length - k4
    omega
   refine wc_skip ?_
   refine wc_region ?_
   refine wl_m M (q_add rfl rfl (IntWalk.i64_in _ (by omega))) rfl rfl ?_
   refine wl_mv M rfl rfl ?_
   refine wl_nil ?_
   replace M := M.drop 0
   refine ⟨(k4 + 1, ag4, l_17_4), ?_, ⟨(by omega), (hp.skip hx4 (fun h => (bt_of (by rw [heb]; omega) hyb).2 (by have := (bt_of (by rw [hea]; omega) hya).1 h; subst this; simpa using ht54))), M⟩, ⟨rfl, rfl, trivial⟩, unw_look rfl (unw_hav rfl (unw_look rfl unw_base))⟩
   show t.arcs.length - (k4 + 1) < t.arcs.length - k4
   omega
  have hke4 : k4 = t.arcs.length := by omega
  refine wc_exit rfl ?_
  refine ⟨(ag4, l_17_4), ?_, ⟨⟨⟨hp.len, hp.frm⟩, hp.sub⟩, (fun e => by have := (hp.cl e).2; rw [hke4, List.take_length] at this; exact this), M⟩, ⟨rfl, trivial⟩, unw_look rfl (unw_hav rfl (unw_look rfl unw_base))⟩
  show 2 * (l_17_4.count false) + ag4.toNat < 2 * (l_17_2.count false) + ag2.toNat
  subst ht28
  cases hag : ag4 with
  | true => have := hp.up hag; simp; omega
  | false => have := (hp.cl hag).1; subst this; simp
 refine wc_exit rfl ?_
 refine wc_seq ?_
 refine wc_region ?_
 refine wl_mv M rfl rfl ?_
 refine wl_as M rfl rfl ?_
 refine wl_nil ?_
 refine wc_ret ?_
 obtain ⟨K1, M, hK1, Rk1⟩ := M.frzRow 0 rfl
 exact out1 rfl rfl ⟨_, K1, rfl, (M.grow : Grow w I _ K1), _, Rk1, h2.1.1, Pass.fin (m := m) h2.2 h2.1.2 (h3 ht28)⟩
theorem with_c {w0 w : World} {I0 I : Heap} {Lt : List Res} {u : SV} {xs l0 : List Arc} (x : Arc) (hc : xs = canon l0) (hxs : xs.length ≤ 1099511627776) (M : Mem w0 I0 I (row EArc (sv u) xs :: Lt) w) :
    Calls A 87 #[sv u, EArc.val x] w (fun e w' => ∃ u' : SV, e = .returned (sv u') ∧ Mem w0 I0 I (row EArc (sv u') (canon (l0 ++ [x])) :: Lt) w') := by
 have hoI := M.old
 refine enter Tryd.func87 rfl 59 Tryd.ntmps87 [_, _] rfl ?_
 refine wc_seq ?_
 refine wc_region ?_
 refine wl_e (e_box M rfl) rfl rfl ?_
 rintro _ w1 ⟨b3, rfl, M⟩
 refine wl_as M rfl rfl ?_
 refine wl_nil ?_
 refine wc_seq ?_
 refine wc_region ?_
 refine wl_mv M rfl rfl ?_
 refine wl_m M (q_lenr 1 M rfl Tryd.underlying27 rfl) rfl rfl ?_
 refine wl_as M rfl rfl ?_
 refine wl_nil ?_
 refine wc_seq ?_
 refine wc_block ?_
 refine wc_loop (α := Nat) [5, 9, 10, 11, 12, 13, 14, 15, 16, 17, 18, 19, 20, 21] (fun (kk : Nat) => [(5, .int .i64 (kk : Int))])
   (fun (kk : Nat) w' => (kk ≤ xs.length ∧ ∀ y ∈ xs.drop kk, ltArc x y) ∧ Mem w0 I0 I (box b3 52 [.int .i64 x.src, .int .i64 x.dst, .int .i32 x.inp, .int .i32 x.out] :: row EArc (sv u) xs :: Lt) w')
   (fun (kk : Nat) => kk) (xs.length) ⟨rfl, trivial⟩ ?_ ?_
 ·refine ⟨⟨Nat.le_refl _, by simp⟩, ?_⟩
  exact M
 rintro kk jj0 w2 ⟨h0, M⟩
 refine wc_seq ?_
 refine wc_seq ?_
 refine wc_join (α := Unit) [9, 10, 11, 12, 13, 14, 15, 16, 17, 18, 19] (fun _ => [(19, .bool ((decide (0 < (kk : Int))) && (ltOf ordA x (xs.getD (kk - 1) (Arc.mk 0 0 0 0)))))]) (fun _ w' => Mem w0 I0 I (box b3 52 [.int .i64 x.src, .int .i64 x.dst, .int .i32 x.inp, .int .i32 x.out] :: row EArc (sv u) xs :: Lt) w') ?_ ?_
 ·refine wc_draws (fun w' => Mem w0 I0 I (box b3 52 [.int .i64 x.src, .int .i64 x.dst, .int .i32 x.inp, .int .i32 x.out] :: row EArc (sv u) xs :: Lt) w' ∧ True) [] fol ?_
  replace M := M.drew
  have hS := (⟨M, trivial⟩ : _ ∧ _)
  refine wa_q 0 rfl (by kernel_rfl) (q_move rfl) hS rfl rfl ?_
  refine wa_q 1 rfl (by kernel_rfl) (q_gtr rfl rfl) hS rfl rfl ?_
  refine wa_q 2 rfl (by kernel_rfl) (q_move rfl) hS rfl rfl ?_
  rcases Bool.eq_false_or_eq_true (decide (0 < (kk : Int))) with hg11 | hg11
  ·refine wa_q 3 rfl (by kernel_rfl) ((q_guard 2 rfl rfl rfl hg11 (q_ldbA 0 Tryd.underlying52 rfl sz52 rfl rfl rfl rfl)).mono fun _ h => h.1) hS rfl rfl ?_
   refine wa_q 4 rfl (by kernel_rfl) (q_guard 2 rfl rfl rfl hg11 (q_move rfl)) hS rfl rfl ?_
   refine wa_q 5 rfl (by kernel_rfl) (q_guard 2 rfl rfl rfl hg11 (q_move rfl)) hS rfl rfl ?_
   refine wa_q 6 rfl (by kernel_rfl) (q_guard 2 rfl rfl rfl hg11 (q_sub rfl rfl (IntWalk.i64_in _ (by omega)))) hS rfl rfl ?_
   have hkp : 0 < kk := by have := of_decide_eq_true hg11; omega
   refine wa_ixSG (j := (kk - 1)) 2 rfl rfl rfl hg11 7 hS (fun _ h => h.1.rd (i := 1) rfl) rfl (by kernel_rfl) Tryd.underlying27 rfl (ixe (by omega)) (getD_at (d := Arc.mk 0 0 0 0) (by omega)) rfl (fun b16 o16 p16 => ?_)
   refine wa_q 8 rfl (by kernel_rfl) (q_guard 2 rfl rfl rfl hg11 (q_ldp p16 rfl rfl)) hS rfl rfl ?_
   refine wa_e 9 rfl (by kernel_rfl) (e_guard 2 rfl rfl rfl hg11 (e_callC M (less_c x (xs.getD (kk - 1) (Arc.mk 0 0 0 0)) M.imm) Tryd.func109 rfl rfl)) rfl rfl ?_
   rintro _ w3 ⟨J18, hJ18, rfl, M⟩
   have hS := (⟨(M.less hJ18 hoI), trivial⟩ : _ ∧ _)
   refine ⟨fun _ => hS, ?_⟩
   replace M := M.less hJ18 hoI
   refine wa_q 10 rfl (by kernel_rfl) (q_pickT rfl hg11 rfl) hS rfl rfl ?_
   refine wa_done (by kernel_rfl) ?_
   exact ⟨(), M, ⟨(show some (Value.bool (ltOf ordA x (xs.getD (kk - 1) (Arc.mk 0 0 0 0)))) = some (Value.bool ((decide (0 < (kk : Int))) && (ltOf ordA x (xs.getD (kk - 1) (Arc.mk 0 0 0 0))))) from by first | (simp only [hg11, Bool.true_or, Bool.false_or, Bool.true_and, Bool.false_and, Bool.or_true, Bool.or_false, Bool.and_true, Bool.and_false]; done) | simp_all), trivial⟩, unw_take 11 rfl rfl⟩
  refine wa_q 3 rfl (by kernel_rfl) (q_off 2 rfl rfl rfl hg11) hS rfl rfl ?_
  refine wa_q 4 rfl (by kernel_rfl) (q_off 2 rfl rfl rfl hg11) hS rfl rfl ?_
  refine wa_q 5 rfl (by kernel_rfl) (q_off 2 rfl rfl rfl hg11) hS rfl rfl ?_
  refine wa_q 6 rfl (by kernel_rfl) (q_off 2 rfl rfl rfl hg11) hS rfl rfl ?_
  refine wa_q 7 rfl (by kernel_rfl) (q_off 2 rfl rfl rfl hg11) hS rfl rfl ?_
  refine wa_q 8 rfl (by kernel_rfl) (q_off 2 rfl rfl rfl hg11) hS rfl rfl ?_
  refine wa_q 9 rfl (by kernel_rfl) (q_off 2 rfl rfl rfl hg11) hS rfl rfl ?_
  refine wa_q 10 rfl (by kernel_rfl) (q_pickF rfl hg11 rfl) hS rfl rfl ?_
  refine wa_done (by kernel_rfl) ?_
  exact ⟨(), M, ⟨(show some (Value.bool false) = some (Value.bool ((decide (0 < (kk : Int))) && (ltOf ordA x (xs.getD (kk - 1) (Arc.mk 0 0 0 0))))) from by first | (simp only [hg11, Bool.true_or, Bool.false_or, Bool.true_and, Bool.false_and, Bool.or_true, Bool.or_false, Bool.and_true, Bool.and_false]; done) | simp_all), trivial⟩, unw_take 11 rfl rfl⟩
 rintro _ jr2 w4 M
 refine wc_cond rfl (fun ht19 => ?_) (fun ht19 => ?_)
 ·have hb19 := Bool.and_eq_true_iff.1 ht19
  have hk19 : 0 < kk := by have := of_decide_eq_true hb19.1; omega
  refine wc_skip ?_
  refine wc_block ?_
  refine wc_region ?_
  refine wl_mv M rfl rfl ?_
  refine wl_m M (q_sub (z := ((kk - 1 : Nat) : Int)) rfl rfl (by rw [IntWalk.i64_in _ (by omega)]; omega)) rfl rfl ?_
  refine wl_as M rfl rfl ?_
  refine wl_nil ?_
  refine ⟨(kk - 1), ?_, ⟨⟨by omega, fun y hy => by rw [drop_cons (getD_at (d := Arc.mk 0 0 0 0) (k := kk - 1) (by omega)), show kk - 1 + 1 = kk by omega] at hy; rcases List.mem_cons.1 hy with rfl | hy; exact (ltA _ _).1 hb19.2; exact h0.2 y hy⟩, M⟩, ⟨rfl, trivial⟩, unw_look rfl (unw_hav rfl (unw_look rfl unw_base))⟩
  show (kk - 1) < kk
  omega
 have hs := canon_sorted l0
 rw [← hc] at hs
 have hlo : ∀ y ∈ xs.take kk, y ≠ x → ltArc y x := fun y hy hne => by
   rcases Nat.eq_zero_or_pos kk with h | h
   · subst h; simp at hy
   · have h1 : ltOf ordA x (xs.getD (kk - 1) (Arc.mk 0 0 0 0)) = false := by
       cases h2 : ltOf ordA x (xs.getD (kk - 1) (Arc.mk 0 0 0 0)) with
       | false => rfl
       | true => rw [h2, Bool.and_true, decide_eq_false_iff_not] at ht19; omega
     have hz := getD_at (xs := xs) (k := kk - 1) (d := Arc.mk 0 0 0 0) (by omega)
     rcases ltArc_tri x (xs.getD (kk - 1) (Arc.mk 0 0 0 0)) with h2 | h2 | h2
     · exact absurd h2 ((ltA' _ _).1 h1)
     · obtain ⟨j, hj⟩ := List.getElem?_of_mem hy
       rw [List.getElem?_take] at hj
       split at hj
       · by_cases e : j = kk - 1
         · subst e; rw [hz] at hj; cases hj; exact absurd h2.symm hne
         · obtain ⟨q1, q2⟩ := List.getElem?_eq_some_iff.1 hj
           obtain ⟨q3, q4⟩ := List.getElem?_eq_some_iff.1 hz
           have := List.pairwise_iff_getElem.1 hs j (kk - 1) q1 q3 (by omega)
           rw [q2, q4, ← h2] at this
           exact this
       · cases hj
     · exact below_of hs (.inr ⟨_, hz, h2⟩) y hy
 refine wc_exit rfl ?_
 refine wc_seq ?_
 refine wc_seq ?_
 refine wc_join (α := Unit) [22, 23, 24, 25, 26, 27, 28, 29, 30, 31, 32] (fun _ => [(32, .bool ((decide (0 < (kk : Int))) && (decide ((xs.getD (kk - 1) (Arc.mk 0 0 0 0)) = x))))]) (fun _ w' => Mem w0 I0 I (box b3 52 [.int .i64 x.src, .int .i64 x.dst, .int .i32 x.inp, .int .i32 x.out] :: row EArc (sv u) xs :: Lt) w') ?_ ?_
 ·refine wc_draws (fun w' => Mem w0 I0 I (box b3 52 [.int .i64 x.src, .int .i64 x.dst, .int .i32 x.inp, .int .i32 x.out] :: row EArc (sv u) xs :: Lt) w' ∧ True) [] fol ?_
  replace M := M.drew
  have hS := (⟨M, trivial⟩ : _ ∧ _)
  refine wa_q 0 rfl (by kernel_rfl) (q_move rfl) hS rfl rfl ?_
  refine wa_q 1 rfl (by kernel_rfl) (q_gtr rfl rfl) hS rfl rfl ?_
  refine wa_q 2 rfl (by kernel_rfl) (q_move rfl) hS rfl rfl ?_
  rcases Bool.eq_false_or_eq_true (decide (0 < (kk : Int))) with hg24 | hg24
  ·refine wa_q 3 rfl (by kernel_rfl) (q_guard 2 rfl rfl rfl hg24 (q_move rfl)) hS rfl rfl ?_
   refine wa_q 4 rfl (by kernel_rfl) (q_guard 2 rfl rfl rfl hg24 (q_move rfl)) hS rfl rfl ?_
   refine wa_q 5 rfl (by kernel_rfl) (q_guard 2 rfl rfl rfl hg24 (q_sub rfl rfl (IntWalk.i64_in _ (by omega)))) hS rfl rfl ?_
   have hkp : 0 < kk := by have := of_decide_eq_true hg24; omega
   refine wa_ixSG (j := (kk - 1)) 2 rfl rfl rfl hg24 6 hS (fun _ h => h.1.rd (i := 1) rfl) rfl (by kernel_rfl) Tryd.underlying27 rfl (ixe (by omega)) (getD_at (d := Arc.mk 0 0 0 0) (by omega)) rfl (fun b28 o28 p28 => ?_)
   refine wa_q 7 rfl (by kernel_rfl) (q_guard 2 rfl rfl rfl hg24 (q_ldp p28 rfl rfl)) hS rfl rfl ?_
   refine wa_q 8 rfl (by kernel_rfl) ((q_guard 2 rfl rfl rfl hg24 (q_ldbA 0 Tryd.underlying52 rfl sz52 rfl rfl rfl rfl)).mono fun _ h => h.1) hS rfl rfl ?_
   refine wa_q 9 rfl (by kernel_rfl) (q_guard 2 rfl rfl rfl hg24 (q_eqlK QArcE (xs.getD (kk - 1) (Arc.mk 0 0 0 0)) x rfl rfl rfl)) hS rfl rfl ?_
   refine wa_q 10 rfl (by kernel_rfl) (q_pickT rfl hg24 rfl) hS rfl rfl ?_
   refine wa_done (by kernel_rfl) ?_
   exact ⟨(), M, ⟨(show some (Value.bool (decide ((xs.getD (kk - 1) (Arc.mk 0 0 0 0)) = x))) = some (Value.bool ((decide (0 < (kk : Int))) && (decide ((xs.getD (kk - 1) (Arc.mk 0 0 0 0)) = x)))) from by first | (simp only [hg24, Bool.true_or, Bool.false_or, Bool.true_and, Bool.false_and, Bool.or_true, Bool.or_false, Bool.and_true, Bool.and_false]; done) | simp_all), trivial⟩, unw_take 11 rfl rfl⟩
  refine wa_q 3 rfl (by kernel_rfl) (q_off 2 rfl rfl rfl hg24) hS rfl rfl ?_
  refine wa_q 4 rfl (by kernel_rfl) (q_off 2 rfl rfl rfl hg24) hS rfl rfl ?_
  refine wa_q 5 rfl (by kernel_rfl) (q_off 2 rfl rfl rfl hg24) hS rfl rfl ?_
  refine wa_q 6 rfl (by kernel_rfl) (q_off 2 rfl rfl rfl hg24) hS rfl rfl ?_
  refine wa_q 7 rfl (by kernel_rfl) (q_off 2 rfl rfl rfl hg24) hS rfl rfl ?_
  refine wa_q 8 rfl (by kernel_rfl) (q_off 2 rfl rfl rfl hg24) hS rfl rfl ?_
  refine wa_q 9 rfl (by kernel_rfl) (q_off 2 rfl rfl rfl hg24) hS rfl rfl ?_
  refine wa_q 10 rfl (by kernel_rfl) (q_pickF rfl hg24 rfl) hS rfl rfl ?_
  refine wa_done (by kernel_rfl) ?_
  exact ⟨(), M, ⟨(show some (Value.bool false) = some (Value.bool ((decide (0 < (kk : Int))) && (decide ((xs.getD (kk - 1) (Arc.mk 0 0 0 0)) = x)))) from by first | (simp only [hg24, Bool.true_or, Bool.false_or, Bool.true_and, Bool.false_and, Bool.or_true, Bool.or_false, Bool.and_true, Bool.and_false]; done) | simp_all), trivial⟩, unw_take 11 rfl rfl⟩
 rintro _ jr4 w5 M
 refine wc_cond rfl (fun ht32 => ?_) (fun ht32 => ?_)
 ·refine wc_seq ?_
  refine wc_region ?_
  refine wl_mv M rfl rfl ?_
  refine wl_as M rfl rfl ?_
  refine wl_nil ?_
  refine wc_ret ?_
  have hb := Bool.and_eq_true_iff.1 ht32
  have hm : x ∈ xs := by
    have := of_decide_eq_true hb.2
    have h1 := of_decide_eq_true hb.1
    rw [← this]; exact List.mem_of_getElem? (getD_at (by omega))
  exact out1 rfl rfl ⟨_, rfl, by rw [hc] at hm; rw [← canon_has hm, ← hc]; exact M.drop 0⟩
 have hnx : x ∉ xs.take kk := fun hm => by
   rcases Nat.eq_zero_or_pos kk with h | h
   · subst h; simp at hm
   · have hz := getD_at (xs := xs) (k := kk - 1) (d := Arc.mk 0 0 0 0) (by omega)
     have hne : xs.getD (kk - 1) (Arc.mk 0 0 0 0) ≠ x := fun e => by rw [e] at ht32; simp at ht32; omega
     have h3 := hlo _ (List.mem_of_getElem? (i := kk - 1) (by rw [List.getElem?_take, if_pos (by omega)]; exact hz)) hne
     exact ltArc_irrefl (below_of hs (.inr ⟨_, hz, h3⟩) x hm)
 refine wc_skip ?_
 refine wc_seq ?_
 refine wc_region ?_
 refine wl_mv M rfl rfl ?_
 refine wl_m M (q_ldbA 0 Tryd.underlying52 rfl sz52 rfl rfl rfl rfl) rfl rfl ?_
 refine wl_e (e_bsI (E := EArc) (xs := [x]) M (bs_27_1 _ _ _ _) ⟨⟨rfl, rfl⟩, trivial⟩ rfl rfl (by decide)) rfl rfl ?_
 rintro _ w6 ⟨u36, J36, rfl, hJ36, R36, M⟩
 have hoJ36 := M.old
 refine wl_e (e_app 1 M rfl R36 Tryd.underlying27 rfl rfl (by show (_ + _) * 24 ≤ _; simp only [List.length_cons, List.length_nil]; omega)) rfl rfl ?_
 rintro _ w7 ⟨u37, rfl, M⟩
 replace M := M.less hJ36 hoI
 simp only [sC0, sCS] at M
 refine wl_as M rfl rfl ?_
 refine wl_nil ?_
 refine wc_seq ?_
 refine wc_seq ?_
 refine wc_region ?_
 refine wl_mv M rfl rfl ?_
 refine wl_m M (q_lenr 1 M rfl Tryd.underlying27 rfl) rfl rfl ?_
 refine wl_m M (q_sub (z := (xs.length : Int)) rfl rfl (by have h9 : ((xs ++ [x]).length : Int) - 1 = (xs.length : Int) := (by simp); rw [h9]; exact IntWalk.i64_in _ (by omega))) rfl rfl ?_
 refine wl_as M rfl rfl ?_
 refine wl_nil ?_
 refine wc_block ?_
 refine wc_loop (α := Nat × (List Arc)) [6, 41, 42, 43, 44, 45, 46, 47, 48, 49, 50, 51, 52, 53] (fun ((ii, l_0_2) : Nat × (List Arc)) => [(6, .int .i64 (ii : Int))])
   (fun ((ii, l_0_2) : Nat × (List Arc)) w' => (l_0_2.length = xs.length + 1 ∧ kk ≤ ii ∧ ii ≤ xs.length) ∧ (l_0_2.take ii = xs.take ii ∧ l_0_2.drop (ii + 1) = xs.drop ii) ∧ Mem w0 I0 I (box b3 52 [.int .i64 x.src, .int .i64 x.dst, .int .i32 x.inp, .int .i32 x.out] :: row EArc (sv u37) l_0_2 :: Lt) w')
   (fun ((ii, l_0_2) : Nat × (List Arc)) => ii) (xs.length, xs ++ [x]) ⟨rfl, trivial⟩ ?_ ?_
 ·refine ⟨⟨by simp, h0.1, Nat.le_refl _⟩, ⟨by simp, by simp⟩, ?_⟩
  exact M
 rintro ⟨ii, l_0_2⟩ jj2 w8 ⟨hi2, hi3, M⟩
 refine wc_seq ?_
 refine wc_seq ?_
 refine wc_region ?_
 refine wl_mv M rfl rfl ?_
 refine wl_mv M rfl rfl ?_
 refine wl_m M (q_gtr rfl rfl) rfl rfl ?_
 refine wl_nil ?_
 refine wc_dec rfl (fun ht43 => ?_) (fun ht43 => ?_)
 ·obtain ⟨z, hz⟩ : ∃ z, l_0_2[ii - 1]? = some z := ⟨_, List.getElem?_eq_getElem (by rw [hi2.1]; omega)⟩
  refine wc_skip ?_
  refine wc_seq ?_
  refine wc_block ?_
  refine wc_region ?_
  refine wl_mv M rfl rfl ?_
  refine wl_mv M rfl rfl ?_
  refine wl_mv M rfl rfl ?_
  refine wl_mv M rfl rfl ?_
  refine wl_m M (q_sub rfl rfl (IntWalk.i64_in _ (by omega))) rfl rfl ?_
  refine wl_ixr (j := (ii - 1)) 1 M rfl Tryd.underlying27 rfl (ixe (by omega)) hz rfl (fun b51 o51 p51 => ?_)
  refine wl_m M (q_ldp p51 rfl rfl) rfl rfl ?_
  refine wl_ixw (j := ii) 1 M rfl Tryd.underlying27 rfl rfl (by rw [hi2.1]; omega) rfl (fun b53 o53 p53 => ?_)
  refine wl_e0 (e_str (u := z) 1 M rfl rfl rfl p53 (by rw [hi2.1]; omega) rfl) rfl ?_
  intro _ w9 M
  simp only [sC0, sCS] at M
  refine wl_nil ?_
  refine wc_region ?_
  refine wl_mv M rfl rfl ?_
  refine wl_m M (q_sub (z := ((ii - 1 : Nat) : Int)) rfl rfl (by rw [IntWalk.i64_in _ (by omega)]; omega)) rfl rfl ?_
  refine wl_as M rfl rfl ?_
  refine wl_nil ?_
  refine ⟨(ii - 1, l_0_2.set ii z), ?_, ⟨⟨by simp [hi2.1], by omega, by omega⟩, (shift_step hi2.1 hi3 (by omega) (by omega) hz), M⟩, ⟨rfl, trivial⟩, unw_look rfl unw_base⟩
  show (ii - 1) < ii
  omega
 obtain rfl : kk = ii := by omega
 refine wc_exit rfl ?_
 refine wc_seq ?_
 refine wc_region ?_
 refine wl_mv M rfl rfl ?_
 refine wl_mv M rfl rfl ?_
 refine wl_m M (q_ldbA 0 Tryd.underlying52 rfl sz52 rfl rfl rfl rfl) rfl rfl ?_
 refine wl_ixw (j := kk) 1 M rfl Tryd.underlying27 rfl rfl (by rw [hi2.1]; omega) rfl (fun b57 o57 p57 => ?_)
 refine wl_e0 (e_str (u := x) 1 M rfl rfl rfl p57 (by rw [hi2.1]; omega) rfl) rfl ?_
 intro _ w10 M
 simp only [sC0, sCS] at M
 refine wl_nil ?_
 refine wc_seq ?_
 refine wc_region ?_
 refine wl_mv M rfl rfl ?_
 refine wl_as M rfl rfl ?_
 refine wl_nil ?_
 refine wc_ret ?_
 rw [place_step hi2.1 hi3 (by omega), hc, insert_canon (by rw [← hc]; omega) (by rw [← hc]; exact h0.2) (by rw [← hc]; exact fun y hy => hlo y hy (fun e => hnx (e ▸ hy)))] at M
 exact out1 rfl rfl ⟨_, rfl, M.drop 0⟩
theorem trim4_c {t : Tra} {m : Nat} (hst : t.states = m) (hm : m ≤ 1073741824) (hxs : ∀ x ∈ t.arcs, (0 ≤ x.src ∧ x.src < m) ∧ 0 ≤ x.dst ∧ x.dst < m) (hs0 : 0 ≤ t.start ∧ t.start < m) (hfr : ∀ f ∈ t.finals, 0 ≤ f ∧ f < m) (hal : t.arcs.length ≤ 274877906944) (hfl : t.finals.length ≤ 274877906944) {v : Value} {I : Heap} {w : World} (hI : hle I (hp w)) (R : t.rd I v) :
    Calls A 73 #[v] w (Ret w I fun r I' => ∃ up dn : List Bool, up.length = m ∧ dn.length = m ∧ (∀ s, bt up s ↔ Reach (stp t true) (· ∈ [t.start]) s) ∧ (∀ s, bt dn s ↔ Reach (stp t false) (· ∈ t.finals) s) ∧ (trimT t m up dn).rd I' r) := by
 obtain ⟨fu, au, rfl, Rf, Ra⟩ := R
 have M := Mem.start hI
 refine enter Tryd.func73 rfl 124 Tryd.ntmps73 [_] rfl ?_
 refine wc_seq ?_
 refine wc_region ?_
 refine wl_e (e_box M rfl) rfl rfl ?_
 rintro _ w1 ⟨b1, rfl, M⟩
 refine wl_e (e_alloc M z29) rfl rfl ?_
 rintro _ w2 ⟨b2, rfl, M⟩
 refine wl_nil ?_
 refine wc_seq ?_
 refine wc_region ?_
 refine wl_m M (q_ldbA 1 Tryd.underlying29 rfl sz29 rfl rfl rfl rfl) rfl rfl ?_
 refine wl_m M (q_fa fo_29_1 rfl) rfl rfl ?_
 refine wl_m M (q_ldb 1 Tryd.underlying3 rfl rfl rfl rfl) rfl rfl ?_
 refine wl_e (e_bsI (E := EInt) (xs := [t.start]) M (bs_26_1 _) ⟨⟨rfl, rfl⟩, trivial⟩ rfl rfl (by decide)) rfl rfl ?_
 rintro _ w3 ⟨u15, J15, rfl, hJ15, R15, M⟩
 have hoJ15 := M.old
 refine wl_e (e_callC M (reached4_c hst hm hxs (fr := [t.start]) (fun f hf => by rw [List.mem_singleton.1 hf]; exact hs0) true M.imm ⟨fu, au, rfl, (Rf.mono hJ15), (Ra.mono hJ15)⟩ R15) Tryd.func86 rfl rfl) rfl rfl ?_
 rintro v16 w4 ⟨J16, hJ16, ⟨up, R16, hul, hup⟩, M⟩
 obtain ⟨u16, rfl⟩ := rdSl_slice R16
 have hoJ16 := M.old
 refine wl_as M rfl rfl ?_
 refine wl_nil ?_
 refine wc_seq ?_
 refine wc_region ?_
 refine wl_m M (q_ldbA 1 Tryd.underlying29 rfl sz29 rfl rfl rfl rfl) rfl rfl ?_
 refine wl_m M (q_fa fo_29_2 rfl) rfl rfl ?_
 refine wl_m M (q_ldb 1 Tryd.underlying26 rfl rfl rfl rfl) rfl rfl ?_
 refine wl_e (e_callC M (reached4_c hst hm hxs hfr false M.imm ⟨fu, au, rfl, ((Rf.mono hJ15).mono hJ16), ((Ra.mono hJ15).mono hJ16)⟩ ((Rf.mono hJ15).mono hJ16)) Tryd.func86 rfl rfl) rfl rfl ?_
 rintro v20 w5 ⟨J20, hJ20, ⟨dn, R20, hdl, hdn⟩, M⟩
 obtain ⟨u20, rfl⟩ := rdSl_slice R20
 have hoJ20 := M.old
 refine wl_as M rfl rfl ?_
 refine wl_nil ?_
 refine wc_seq ?_
 refine wc_seq ?_
 refine wc_region ?_
 refine wl_mv M rfl rfl ?_
 refine wl_m M (q_fa fo_29_1 rfl) rfl rfl ?_
 refine wl_m M (q_ldb 1 Tryd.underlying3 rfl rfl rfl rfl) rfl rfl ?_
 refine wl_ix (j := t.start.toNat) M R20 Tryd.underlying56 rfl (ixe (by omega)) (getD_at (d := false) (by omega)) rfl (fun b24 o24 p24 => ?_)
 refine wl_m M (q_ldp p24 rfl rfl) rfl rfl ?_
 refine wl_m M (q_not rfl) rfl rfl ?_
 refine wl_nil ?_
 refine wc_cond rfl (fun ht26 => ?_) (fun ht26 => ?_)
 ·refine wc_seq ?_
  refine wc_region ?_
  refine wl_m M (q_build (bd_29_0 _) ⟨⟨rfl, rfl⟩, trivial⟩) rfl rfl ?_
  refine wl_e0 (e_stW 0 M rfl rfl rfl sz29 rfl rfl) rfl ?_
  intro _ w6 M
  simp only [sC0, sCS] at M
  refine wl_nil ?_
  refine wc_ret ?_
  exact outc rfl rfl (load_boxA M 0 Tryd.underlying29 rfl sz29 rfl rfl rfl) ⟨_, _, rfl, M.grow, up, dn, hul, hdl, hup, hdn, by rw [trimT, if_neg (by simpa using ht26)]; exact ⟨nilV, nilV, rfl, rdSl_nil _, rdSl_nil _⟩⟩
 refine wc_skip ?_
 refine wc_seq ?_
 refine wc_region ?_
 refine wl_m M (q_build (bd_29) trivial) rfl rfl ?_
 refine wl_e (e_alloc M z29) rfl rfl ?_
 rintro _ w7 ⟨b5, rfl, M⟩
 refine wl_e0 (e_stW 0 M rfl rfl rfl sz29 rfl rfl) rfl ?_
 intro _ w8 M
 simp only [sC0, sCS] at M
 refine wl_nil ?_
 refine wc_seq ?_
 replace M := M.nilRow EInt
 replace M := M.nilRow EArc
 have hlr : (List.replicate m (0 : Int)).length = m := List.length_replicate ..
 obtain ⟨kp, hkp⟩ : ∃ kp, kp = kpB up dn := ⟨_, rfl⟩
 refine wc_region ?_
 refine wl_m M (q_fa fo_29_0 rfl) rfl rfl ?_
 refine wl_m M (q_ldb 4 Tryd.underlying3 rfl rfl rfl rfl) rfl rfl ?_
 refine wl_e (e_make (E := EInt) (zv := 0) (m := m) M Tryd.underlying26 z3 (by rw [hst]; rfl) (by rw [hst]; rfl) (by show _ * 8 ≤ _; omega)) rfl rfl ?_
 rintro _ w9 ⟨u31, rfl, M⟩
 refine wl_as M rfl rfl ?_
 refine wl_nil ?_
 refine wc_seq ?_
 refine wc_seq ?_
 refine wc_region ?_
 refine wl_mv M rfl rfl ?_
 refine wl_m M (q_lenr 0 M rfl Tryd.underlying26 rfl) rfl rfl ?_
 refine wl_mv M rfl rfl ?_
 refine wl_nil ?_
 refine wc_block ?_
 refine wc_loop (α := Nat × (List Int)) [7, 34, 35, 36, 37, 38, 39, 40, 41, 42, 43, 44, 45, 46, 47, 48, 49, 50, 51, 52, 53, 54, 55, 56] (fun ((k0, l_31_0) : Nat × (List Int)) => [(34, .int .i64 (k0 : Int))])
   (fun ((k0, l_31_0) : Nat × (List Int)) w' => (k0 ≤ m) ∧ (l_31_0 = nuL kp m k0) ∧ Mem w I J20 (row EInt (sv u31) l_31_0 :: row EArc (sv nilV) [] :: row EInt (sv nilV) [] :: box b5 29 [.int .i64 (rk kp k0 : Int), .int .i64 0, sv nilV, sv nilV] :: box b2 29 [.int .i64 0, .int .i64 0, .slice none 0 0, .slice none 0 0] :: box b1 29 [.int .i64 t.states, .int .i64 t.start, sv fu, sv au] :: []) w')
   (fun ((k0, l_31_0) : Nat × (List Int)) => m - k0) (0, List.replicate m 0) ⟨rfl, trivial⟩ ?_ ?_
 ·refine ⟨Nat.zero_le _, (by simp [nuL]), ?_⟩
  exact M
 rintro ⟨k0, l_31_0⟩ jj0 w10 ⟨hk0, hnu, M⟩
 have hoJ20 := M.old
 refine wc_seq ?_
 refine wc_region ?_
 refine wl_m M (q_lss rfl rfl) rfl rfl ?_
 refine wl_nil ?_
 refine wc_seq ?_
 refine wc_dec rfl (fun ht35 => ?_) (fun ht35 => ?_)
 ·refine wc_skip ?_
  refine wc_seq ?_
  refine wc_block ?_
  refine wc_seq ?_
  refine wc_region ?_
  refine wl_mv M rfl rfl ?_
  refine wl_as M rfl rfl ?_
  refine wl_nil ?_
  refine wc_seq ?_
  refine wc_join (α := Unit) [37, 38, 39, 40, 41, 42, 43, 44, 45, 46] (fun _ => [(46, .bool ((up.getD k0 false) && (dn.getD k0 false)))]) (fun _ w' => Mem w I J20 (row EInt (sv u31) l_31_0 :: row EArc (sv nilV) [] :: row EInt (sv nilV) [] :: box b5 29 [.int .i64 (rk kp k0 : Int), .int .i64 0, sv nilV, sv nilV] :: box b2 29 [.int .i64 0, .int .i64 0, .slice none 0 0, .slice none 0 0] :: box b1 29 [.int .i64 t.states, .int .i64 t.start, sv fu, sv au] :: []) w') ?_ ?_
  ·refine wc_region ?_
   refine wl_mv M rfl rfl ?_
   refine wl_mv M rfl rfl ?_
   refine wl_ix (j := k0) M (R16.mono hJ20) Tryd.underlying56 rfl (ixe (by omega)) (getD_at (d := false) (by omega)) rfl (fun b39 o39 p39 => ?_)
   refine wl_m M (q_ldp p39 rfl rfl) rfl rfl ?_
   refine wl_mv M rfl rfl ?_
   rcases Bool.eq_false_or_eq_true ((up.getD k0 false)) with hg41 | hg41
   ·refine wl_m M (q_guard 4 rfl rfl rfl hg41 (q_move rfl)) rfl rfl ?_
    refine wl_m M (q_guard 4 rfl rfl rfl hg41 (q_move rfl)) rfl rfl ?_
    refine wl_ixG (j := k0) 4 rfl rfl rfl hg41 M R20 Tryd.underlying56 rfl (ixe (by omega)) (getD_at (d := false) (by omega)) rfl (fun b44 o44 p44 => ?_)
    refine wl_m M (q_guard 4 rfl rfl rfl hg41 (q_ldp p44 rfl rfl)) rfl rfl ?_
    refine wl_m M (q_pickT rfl hg41 rfl) rfl rfl ?_
    refine wl_nil ?_
    exact ⟨(), M, ⟨(show some (Value.bool (dn.getD k0 false)) = some (Value.bool ((up.getD k0 false) && (dn.getD k0 false))) from by first | (simp only [hg41, Bool.true_or, Bool.false_or, Bool.true_and, Bool.false_and, Bool.or_true, Bool.or_false, Bool.and_true, Bool.and_false]; done) | simp_all), trivial⟩, unw_take 10 rfl rfl⟩
   refine wl_m M (q_off 4 rfl rfl rfl hg41) rfl rfl ?_
   refine wl_m M (q_off 4 rfl rfl rfl hg41) rfl rfl ?_
   refine wl_m M (q_off 4 rfl rfl rfl hg41) rfl rfl ?_
   refine wl_m M (q_off 4 rfl rfl rfl hg41) rfl rfl ?_
   refine wl_m M (q_pickF rfl hg41 rfl) rfl rfl ?_
   refine wl_nil ?_
   exact ⟨(), M, ⟨(show some (Value.bool false) = some (Value.bool ((up.getD k0 false) && (dn.getD k0 false))) from by first | (simp only [hg41, Bool.true_or, Bool.false_or, Bool.true_and, Bool.false_and, Bool.or_true, Bool.or_false, Bool.and_true, Bool.and_false]; done) | simp_all), trivial⟩, unw_take 10 rfl rfl⟩
  rintro _ jr10 w11 M
  refine wc_cond rfl (fun ht46 => ?_) (fun ht46 => ?_)
  ·have hrl := rk_le kp k0
   have hkk : kp k0 = true := by rw [hkp]; exact ht46
   refine wc_seq ?_
   refine wc_region ?_
   refine wl_mv M rfl rfl ?_
   refine wl_mv M rfl rfl ?_
   refine wl_m M (q_fa fo_29_0 rfl) rfl rfl ?_
   refine wl_m M (q_ldb 3 Tryd.underlying3 rfl rfl rfl rfl) rfl rfl ?_
   refine wl_ixw (j := k0) 0 M rfl Tryd.underlying26 rfl rfl (by rw [hnu, nuL_len hk0]; omega) rfl (fun b51 o51 p51 => ?_)
   refine wl_e0 (e_str (u := (rk kp k0 : Int)) 0 M rfl rfl rfl p51 (by rw [hnu, nuL_len hk0]; omega) rfl) rfl ?_
   intro _ w12 M
   simp only [sC0, sCS] at M
   refine wl_nil ?_
   refine wc_region ?_
   refine wl_m M (q_fa fo_29_0 rfl) rfl rfl ?_
   refine wl_m M (q_ldb 3 Tryd.underlying3 rfl rfl rfl rfl) rfl rfl ?_
   refine wl_m M (q_add rfl rfl (IntWalk.i64_in _ (by omega))) rfl rfl ?_
   refine wl_m M (q_fa fo_29_0 rfl) rfl rfl ?_
   refine wl_e0 (e_stb 3 M rfl rfl rfl sz3 rfl rfl) rfl ?_
   intro _ w13 M
   simp only [sC0, sCS] at M
   refine wl_nil ?_
   refine wc_region ?_
   refine wl_m M (q_add rfl rfl (IntWalk.i64_in _ (by omega))) rfl rfl ?_
   refine wl_mv M rfl rfl ?_
   refine wl_nil ?_
   rw [rk_hit hkk] at M
   refine ⟨(k0 + 1, l_31_0.set k0 (rk kp k0 : Int)), ?_, ⟨(by omega), (by rw [hnu, nuL_hit (by omega) hkk]), M⟩, ⟨rfl, trivial⟩, unw_look rfl (unw_hav rfl (unw_look rfl unw_base))⟩
   show m - (k0 + 1) < m - k0
   omega
  have hkk : kp k0 = false := by rw [hkp]; exact ht46
  refine wc_skip ?_
  refine wc_region ?_
  refine wl_m M (q_add rfl rfl (IntWalk.i64_in _ (by omega))) rfl rfl ?_
  refine wl_mv M rfl rfl ?_
  refine wl_nil ?_
  rw [← rk_skip hkk] at M
  refine ⟨(k0 + 1, l_31_0), ?_, ⟨(by omega), (by rw [hnu, nuL_skip (by omega) hkk]), M⟩, ⟨rfl, trivial⟩, unw_look rfl (unw_hav rfl (unw_look rfl unw_base))⟩
  show m - (k0 + 1) < m - k0
  omega
 have hke0 : k0 = m := by omega
 rw [hke0] at hnu
 refine wc_exit rfl ?_
 refine wc_seq ?_
 refine wc_region ?_
 refine wl_mv M rfl rfl ?_
 refine wl_m M (q_fa fo_29_1 rfl) rfl rfl ?_
 refine wl_m M (q_ldb 5 Tryd.underlying3 rfl rfl rfl rfl) rfl rfl ?_
 refine wl_ixr (j := ((t.start).toNat)) 0 M rfl Tryd.underlying26 rfl (ixe (by omega)) (by rw [hnu]; exact nuL_at (by omega)) rfl (fun b60 o60 p60 => ?_)
 refine wl_m M (q_ldp p60 rfl rfl) rfl rfl ?_
 refine wl_m M (q_fa fo_29_1 rfl) rfl rfl ?_
 refine wl_e0 (e_stb 3 M rfl rfl rfl sz3 rfl rfl) rfl ?_
 intro _ w14 M
 simp only [sC0, sCS] at M
 refine wl_nil ?_
 refine wc_seq ?_
 refine wc_seq ?_
 refine wc_region ?_
 refine wl_m M (q_fa fo_29_2 rfl) rfl rfl ?_
 refine wl_m M (q_ldb 5 Tryd.underlying26 rfl rfl rfl rfl) rfl rfl ?_
 refine wl_m M (q_lenR (((Rf.mono hJ15).mono hJ16).mono hJ20) Tryd.underlying26 rfl) rfl rfl ?_
 refine wl_mv M rfl rfl ?_
 refine wl_nil ?_
 refine wc_block ?_
 refine wc_loop (α := Nat × SV × (List Int)) [9, 66, 67, 68, 69, 70, 71, 72, 73, 74, 75, 76, 77, 78, 79, 80, 81, 82, 83] (fun ((k2, u_f_2, l_f_2) : Nat × SV × (List Int)) => [(66, .int .i64 (k2 : Int))])
   (fun ((k2, u_f_2, l_f_2) : Nat × SV × (List Int)) w' => (k2 ≤ t.finals.length) ∧ (l_f_2 = (t.finals.take k2).flatMap (finG up dn)) ∧ Mem w I J20 (row EInt (sv u31) l_31_0 :: row EArc (sv nilV) [] :: row EInt (sv u_f_2) l_f_2 :: box b5 29 [.int .i64 (rk kp k0 : Int), .int .i64 (nu kp (t.start).toNat), sv u_f_2, sv nilV] :: box b2 29 [.int .i64 0, .int .i64 0, .slice none 0 0, .slice none 0 0] :: box b1 29 [.int .i64 t.states, .int .i64 t.start, sv fu, sv au] :: []) w')
   (fun ((k2, u_f_2, l_f_2) : Nat × SV × (List Int)) => t.finals.length - k2) (0, nilV, []) ⟨rfl, trivial⟩ ?_ ?_
 ·refine ⟨Nat.zero_le _, rfl, ?_⟩
  exact M
 rintro ⟨k2, u_f_2, l_f_2⟩ jj2 w15 ⟨hk2, hff, M⟩
 have hoJ20 := M.old
 refine wc_seq ?_
 refine wc_region ?_
 refine wl_m M (q_lss rfl rfl) rfl rfl ?_
 refine wl_nil ?_
 refine wc_seq ?_
 refine wc_dec rfl (fun ht67 => ?_) (fun ht67 => ?_)
 ·obtain ⟨x2, hx2⟩ : ∃ x_, t.finals[k2]? = some x_ := ⟨_, List.getElem?_eq_getElem (by omega)⟩
  have hll2 := ((((Rf.mono hJ15).mono hJ16).mono hJ20)).len_le
  have hx2r := hfr x2 (List.mem_of_getElem? hx2)
  refine wc_skip ?_
  refine wc_seq ?_
  refine wc_block ?_
  refine wc_seq ?_
  refine wc_region ?_
  refine wl_ix (j := k2) M (((Rf.mono hJ15).mono hJ16).mono hJ20) Tryd.underlying26 rfl rfl hx2 rfl (fun b68 o68 p68 => ?_)
  refine wl_m M (q_ldp p68 rfl rfl) rfl rfl ?_
  refine wl_as M rfl rfl ?_
  refine wl_nil ?_
  refine wc_seq ?_
  refine wc_region ?_
  refine wl_mv M rfl rfl ?_
  refine wl_mv M rfl rfl ?_
  refine wl_ix (j := x2.toNat) M (R16.mono hJ20) Tryd.underlying56 rfl (ixe (by omega)) (getD_at (d := false) (by omega)) rfl (fun b72 o72 p72 => ?_)
  refine wl_m M (q_ldp p72 rfl rfl) rfl rfl ?_
  refine wl_nil ?_
  refine wc_cond rfl (fun ht73 => ?_) (fun ht73 => ?_)
  ·refine wc_draws (fun w' => Mem w I J20 (row EInt (sv u31) l_31_0 :: row EArc (sv nilV) [] :: box b5 29 [.int .i64 (rk kp k0 : Int), .int .i64 (nu kp (t.start).toNat), sv u_f_2, sv nilV] :: box b2 29 [.int .i64 0, .int .i64 0, .slice none 0 0, .slice none 0 0] :: box b1 29 [.int .i64 t.states, .int .i64 t.start, sv fu, sv au] :: []) w' ∧ True) [9] fol ?_
   replace M := M.drew
   have hS := (⟨(M.drop 2), trivial⟩ : _ ∧ _)
   refine wa_q 0 rfl (by kernel_rfl) (q_fa fo_29_2 rfl) hS rfl rfl ?_
   refine wa_q 1 rfl (by kernel_rfl) ((q_ldb 2 Tryd.underlying26 rfl rfl rfl rfl).mono fun _ h => h.1) hS rfl rfl ?_
   refine wa_q 2 rfl (by kernel_rfl) (q_move rfl) hS rfl rfl ?_
   refine wa_q 3 rfl (by kernel_rfl) (q_move rfl) hS rfl rfl ?_
   refine wa_ixS (j := ((x2).toNat)) 4 hS (fun _ h => h.1.rd (i := 0) rfl) rfl (by kernel_rfl) Tryd.underlying26 rfl (ixe (by omega)) (by rw [hnu]; exact nuL_at (by omega)) rfl (fun b78 o78 p78 => ?_)
   refine wa_q 5 rfl (by kernel_rfl) (q_ldp p78 rfl rfl) hS rfl rfl ?_
   refine wa_e 6 rfl (by kernel_rfl) (e_bsI (E := EInt) (xs := [(nu kp (x2).toNat)]) M (bs_26_1 _) ⟨⟨rfl, rfl⟩, trivial⟩ rfl rfl (by decide)) rfl rfl ?_
   rintro _ w16 ⟨u80, J80, rfl, hJ80, R80, M⟩
   have hoJ80 := M.old
   have hS := (⟨((M.less hJ80 hoJ20).drop 2), trivial⟩ : _ ∧ _)
   refine ⟨fun _ => hS, ?_⟩
   refine wa_e 7 rfl (by kernel_rfl) (e_app 2 M rfl R80 Tryd.underlying26 rfl rfl (by have := take_flat_len (finG_len up dn) t.finals k2; rw [hff]; show (_ + 1) * 8 ≤ _; omega)) rfl rfl ?_
   rintro _ w17 ⟨u81, rfl, M⟩
   simp only [sC0, sCS] at M
   have hS := (⟨((M.less hJ80 hoJ20).drop 2), trivial⟩ : _ ∧ _)
   refine ⟨fun _ => hS, ?_⟩
   replace M := M.less hJ80 hoJ20
   refine wa_q 8 rfl (by kernel_rfl) (q_fa fo_29_2 rfl) hS rfl rfl ?_
   refine wa_e0 9 rfl (by kernel_rfl) (e_stb 3 M rfl rfl rfl sz26 rfl rfl) rfl ?_
   intro _ w18 M
   simp only [sC0, sCS] at M
   refine ⟨nofun, ?_⟩
   refine wa_done (by kernel_rfl) ?_
   refine wc_region ?_
   refine wl_m M (q_add rfl rfl (IntWalk.i64_in _ (by omega))) rfl rfl ?_
   refine wl_mv M rfl rfl ?_
   refine wl_nil ?_
   refine ⟨(k2 + 1, u81, l_f_2 ++ [(nu kp (x2).toNat)]), ?_, ⟨(by omega), (by rw [take_flat hx2, hff, finG, if_pos ht73, hkp]), M⟩, ⟨rfl, trivial⟩, unw_look rfl unw_base⟩
   show t.finals.length - (k2 + 1) < t.finals.length - k2
   omega
  refine wc_skip ?_
  refine wc_region ?_
  refine wl_m M (q_add rfl rfl (IntWalk.i64_in _ (by omega))) rfl rfl ?_
  refine wl_mv M rfl rfl ?_
  refine wl_nil ?_
  refine ⟨(k2 + 1, u_f_2, l_f_2), ?_, ⟨(by omega), (by rw [take_flat hx2, hff, finG, if_neg (by rw [ht73]; decide), List.append_nil]), M⟩, ⟨rfl, trivial⟩, unw_look rfl unw_base⟩
  show t.finals.length - (k2 + 1) < t.finals.length - k2
  omega
 have hke2 : k2 = t.finals.length := by omega
 rw [hke2, List.take_length] at hff
 refine wc_exit rfl ?_
 refine wc_seq ?_
 refine wc_seq ?_
 refine wc_region ?_
 refine wl_m M (q_fa fo_29_3 rfl) rfl rfl ?_
 refine wl_m M (q_ldb 5 Tryd.underlying27 rfl rfl rfl rfl) rfl rfl ?_
 refine wl_m M (q_lenR (((Ra.mono hJ15).mono hJ16).mono hJ20) Tryd.underlying27 rfl) rfl rfl ?_
 refine wl_mv M rfl rfl ?_
 refine wl_nil ?_
 refine wc_block ?_
 refine wc_loop (α := Nat × SV × (List Arc)) [11, 87, 88, 89, 90, 91, 92, 93, 94, 95, 96, 97, 98, 99, 100, 101, 102, 103, 104, 105, 106, 107, 108, 109, 110, 111, 112, 113, 114, 115, 116, 117, 118, 119, 120, 121, 122] (fun ((k4, u_a_4, l_a_4) : Nat × SV × (List Arc)) => [(87, .int .i64 (k4 : Int))])
   (fun ((k4, u_a_4, l_a_4) : Nat × SV × (List Arc)) w' => (k4 ≤ t.arcs.length) ∧ (l_a_4 = canon ((t.arcs.take k4).flatMap (arcG up dn))) ∧ Mem w I J20 (row EInt (sv u31) l_31_0 :: row EArc (sv u_a_4) l_a_4 :: row EInt (sv u_f_2) l_f_2 :: box b5 29 [.int .i64 (rk kp k0 : Int), .int .i64 (nu kp (t.start).toNat), sv u_f_2, sv u_a_4] :: box b2 29 [.int .i64 0, .int .i64 0, .slice none 0 0, .slice none 0 0] :: box b1 29 [.int .i64 t.states, .int .i64 t.start, sv fu, sv au] :: []) w')
   (fun ((k4, u_a_4, l_a_4) : Nat × SV × (List Arc)) => t.arcs.length - k4) (0, nilV, []) ⟨rfl, trivial⟩ ?_ ?_
 ·refine ⟨Nat.zero_le _, (by simp [canon_nil]), ?_⟩
  exact M
 rintro ⟨k4, u_a_4, l_a_4⟩ jj4 w19 ⟨hk4, haa, M⟩
 have hoJ20 := M.old
 refine wc_seq ?_
 refine wc_region ?_
 refine wl_m M (q_lss rfl rfl) rfl rfl ?_
 refine wl_nil ?_
 refine wc_seq ?_
 refine wc_dec rfl (fun ht88 => ?_) (fun ht88 => ?_)
 ·obtain ⟨x4, hx4⟩ : ∃ x_, t.arcs[k4]? = some x_ := ⟨_, List.getElem?_eq_getElem (by omega)⟩
  have hll4 := ((((Ra.mono hJ15).mono hJ16).mono hJ20)).len_le
  have hx4r := hxs x4 (List.mem_of_getElem? hx4)
  refine wc_skip ?_
  refine wc_seq ?_
  refine wc_block ?_
  refine wc_seq ?_
  refine wc_region ?_
  refine wl_ix (j := k4) M (((Ra.mono hJ15).mono hJ16).mono hJ20) Tryd.underlying27 rfl rfl hx4 rfl (fun b89 o89 p89 => ?_)
  refine wl_m M (q_ldp p89 rfl rfl) rfl rfl ?_
  refine wl_e (e_alloc M z52) rfl rfl ?_
  rintro _ w20 ⟨b11, rfl, M⟩
  refine wl_e0 (e_stW 0 M rfl rfl rfl sz52 rfl rfl) rfl ?_
  intro _ w21 M
  simp only [sC0, sCS] at M
  refine wl_nil ?_
  refine wc_seq ?_
  refine wc_join (α := Unit) [91, 92, 93, 94, 95, 96, 97, 98, 99, 100, 101, 102] (fun _ => [(102, .bool ((up.getD x4.src.toNat false) && (dn.getD x4.dst.toNat false)))]) (fun _ w' => Mem w I J20 (box b11 52 [.int .i64 x4.src, .int .i64 x4.dst, .int .i32 x4.inp, .int .i32 x4.out] :: row EInt (sv u31) l_31_0 :: row EArc (sv u_a_4) l_a_4 :: row EInt (sv u_f_2) l_f_2 :: box b5 29 [.int .i64 (rk kp k0 : Int), .int .i64 (nu kp (t.start).toNat), sv u_f_2, sv u_a_4] :: box b2 29 [.int .i64 0, .int .i64 0, .slice none 0 0, .slice none 0 0] :: box b1 29 [.int .i64 t.states, .int .i64 t.start, sv fu, sv au] :: []) w') ?_ ?_
  ·refine wc_region ?_
   refine wl_mv M rfl rfl ?_
   refine wl_m M (q_fa fo_52_0 rfl) rfl rfl ?_
   refine wl_m M (q_ldb 0 Tryd.underlying3 rfl rfl rfl rfl) rfl rfl ?_
   refine wl_ix (j := x4.src.toNat) M (R16.mono hJ20) Tryd.underlying56 rfl (ixe (by omega)) (getD_at (d := false) (by omega)) rfl (fun b94 o94 p94 => ?_)
   refine wl_m M (q_ldp p94 rfl rfl) rfl rfl ?_
   refine wl_mv M rfl rfl ?_
   rcases Bool.eq_false_or_eq_true ((up.getD x4.src.toNat false)) with hg96 | hg96
   ·refine wl_m M (q_guard 5 rfl rfl rfl hg96 (q_move rfl)) rfl rfl ?_
    refine wl_m M (q_guard 5 rfl rfl rfl hg96 (q_fa fo_52_1 rfl)) rfl rfl ?_
    refine wl_m M (q_guard 5 rfl rfl rfl hg96 (q_ldb 0 Tryd.underlying3 rfl rfl rfl rfl)) rfl rfl ?_
    refine wl_ixG (j := x4.dst.toNat) 5 rfl rfl rfl hg96 M R20 Tryd.underlying56 rfl (ixe (by omega)) (getD_at (d := false) (by omega)) rfl (fun b100 o100 p100 => ?_)
    refine wl_m M (q_guard 5 rfl rfl rfl hg96 (q_ldp p100 rfl rfl)) rfl rfl ?_
    refine wl_m M (q_pickT rfl hg96 rfl) rfl rfl ?_
    refine wl_nil ?_
    exact ⟨(), M, ⟨(show some (Value.bool (dn.getD x4.dst.toNat false)) = some (Value.bool ((up.getD x4.src.toNat false) && (dn.getD x4.dst.toNat false))) from by first | (simp only [hg96, Bool.true_or, Bool.false_or, Bool.true_and, Bool.false_and, Bool.or_true, Bool.or_false, Bool.and_true, Bool.and_false]; done) | simp_all), trivial⟩, unw_take 12 rfl rfl⟩
   refine wl_m M (q_off 5 rfl rfl rfl hg96) rfl rfl ?_
   refine wl_m M (q_off 5 rfl rfl rfl hg96) rfl rfl ?_
   refine wl_m M (q_off 5 rfl rfl rfl hg96) rfl rfl ?_
   refine wl_m M (q_off 5 rfl rfl rfl hg96) rfl rfl ?_
   refine wl_m M (q_off 5 rfl rfl rfl hg96) rfl rfl ?_
   refine wl_m M (q_pickF rfl hg96 rfl) rfl rfl ?_
   refine wl_nil ?_
   exact ⟨(), M, ⟨(show some (Value.bool false) = some (Value.bool ((up.getD x4.src.toNat false) && (dn.getD x4.dst.toNat false))) from by first | (simp only [hg96, Bool.true_or, Bool.false_or, Bool.true_and, Bool.false_and, Bool.or_true, Bool.or_false, Bool.and_true, Bool.and_false]; done) | simp_all), trivial⟩, unw_take 12 rfl rfl⟩
  rintro _ jr24 w22 M
  refine wc_cond rfl (fun ht102 => ?_) (fun ht102 => ?_)
  ·refine wc_draws (fun w' => Mem w I J20 (box b11 52 [.int .i64 x4.src, .int .i64 x4.dst, .int .i32 x4.inp, .int .i32 x4.out] :: row EInt (sv u31) l_31_0 :: row EInt (sv u_f_2) l_f_2 :: box b5 29 [.int .i64 (rk kp k0 : Int), .int .i64 (nu kp (t.start).toNat), sv u_f_2, sv u_a_4] :: box b2 29 [.int .i64 0, .int .i64 0, .slice none 0 0, .slice none 0 0] :: box b1 29 [.int .i64 t.states, .int .i64 t.start, sv fu, sv au] :: []) w' ∧ True) [19] fol ?_
   replace M := M.drew
   have hS := (⟨(M.drop 2), trivial⟩ : _ ∧ _)
   refine wa_q 0 rfl (by kernel_rfl) (q_fa fo_29_3 rfl) hS rfl rfl ?_
   refine wa_q 1 rfl (by kernel_rfl) ((q_ldb 3 Tryd.underlying27 rfl rfl rfl rfl).mono fun _ h => h.1) hS rfl rfl ?_
   refine wa_q 2 rfl (by kernel_rfl) (q_move rfl) hS rfl rfl ?_
   refine wa_q 3 rfl (by kernel_rfl) (q_fa fo_52_0 rfl) hS rfl rfl ?_
   refine wa_q 4 rfl (by kernel_rfl) ((q_ldb 0 Tryd.underlying3 rfl rfl rfl rfl).mono fun _ h => h.1) hS rfl rfl ?_
   refine wa_ixS (j := ((x4.src).toNat)) 5 hS (fun _ h => h.1.rd (i := 1) rfl) rfl (by kernel_rfl) Tryd.underlying26 rfl (ixe (by omega)) (by rw [hnu]; exact nuL_at (by omega)) rfl (fun b108 o108 p108 => ?_)
   refine wa_q 6 rfl (by kernel_rfl) (q_ldp p108 rfl rfl) hS rfl rfl ?_
   refine wa_q 7 rfl (by kernel_rfl) (q_move rfl) hS rfl rfl ?_
   refine wa_q 8 rfl (by kernel_rfl) (q_fa fo_52_1 rfl) hS rfl rfl ?_
   refine wa_q 9 rfl (by kernel_rfl) ((q_ldb 0 Tryd.underlying3 rfl rfl rfl rfl).mono fun _ h => h.1) hS rfl rfl ?_
   refine wa_ixS (j := ((x4.dst).toNat)) 10 hS (fun _ h => h.1.rd (i := 1) rfl) rfl (by kernel_rfl) Tryd.underlying26 rfl (ixe (by omega)) (by rw [hnu]; exact nuL_at (by omega)) rfl (fun b113 o113 p113 => ?_)
   refine wa_q 11 rfl (by kernel_rfl) (q_ldp p113 rfl rfl) hS rfl rfl ?_
   refine wa_q 12 rfl (by kernel_rfl) (q_fa fo_52_2 rfl) hS rfl rfl ?_
   refine wa_q 13 rfl (by kernel_rfl) ((q_ldb 0 Tryd.underlying21 rfl rfl rfl rfl).mono fun _ h => h.1) hS rfl rfl ?_
   refine wa_q 14 rfl (by kernel_rfl) (q_fa fo_52_3 rfl) hS rfl rfl ?_
   refine wa_q 15 rfl (by kernel_rfl) ((q_ldb 0 Tryd.underlying21 rfl rfl rfl rfl).mono fun _ h => h.1) hS rfl rfl ?_
   refine wa_q 16 rfl (by kernel_rfl) (q_build (bd_52_0_1_2_3 _ _ _ _) ⟨⟨rfl, rfl⟩, ⟨rfl, rfl⟩, ⟨rfl, rfl⟩, ⟨rfl, rfl⟩, trivial⟩) hS rfl rfl ?_
   refine wa_e 17 rfl (by kernel_rfl) (e_callO (val := sv) Tryd.func87 rfl (vs := [sv u_a_4, .agg #[.int .i64 (nu kp (x4.src).toNat), .int .i64 (nu kp (x4.dst).toNat), .int .i32 x4.inp, .int .i32 x4.out]]) rfl (at_place (fun _ M => with_c (Arc.mk (nu kp x4.src.toNat) (nu kp x4.dst.toNat) x4.inp x4.out) haa (by rw [haa]; have := canon_len ((t.arcs.take k4).flatMap (arcG up dn)); have := take_flat_len (arcG_len up dn) t.arcs k4; omega) M) M 2 rfl)) rfl rfl ?_
   rintro _ w23 ⟨u120, rfl, M⟩
   simp only [sC0, sCS] at M
   have hS := (⟨(M.drop 2), trivial⟩ : _ ∧ _)
   refine ⟨fun _ => hS, ?_⟩
   refine wa_q 18 rfl (by kernel_rfl) (q_fa fo_29_3 rfl) hS rfl rfl ?_
   refine wa_e0 19 rfl (by kernel_rfl) (e_stb 4 M rfl rfl rfl sz27 rfl rfl) rfl ?_
   intro _ w24 M
   simp only [sC0, sCS] at M
   refine ⟨nofun, ?_⟩
   refine wa_done (by kernel_rfl) ?_
   refine wc_region ?_
   refine wl_m M (q_add rfl rfl (IntWalk.i64_in _ (by omega))) rfl rfl ?_
   refine wl_mv M rfl rfl ?_
   refine wl_nil ?_
   replace M := M.drop 0
   refine ⟨(k4 + 1, u120, canon ((t.arcs.take k4).flatMap (arcG up dn) ++ [Arc.mk (nu kp x4.src.toNat) (nu kp x4.dst.toNat) x4.inp x4.out])), ?_, ⟨(by omega), (by rw [take_flat hx4, arcG, if_pos ht102, hkp]), M⟩, ⟨rfl, trivial⟩, unw_look rfl (unw_hav rfl (unw_look rfl unw_base))⟩
   show t.arcs.length - (k4 + 1) < t.arcs.length - k4
   omega
  refine wc_skip ?_
  refine wc_region ?_
  refine wl_m M (q_add rfl rfl (IntWalk.i64_in _ (by omega))) rfl rfl ?_
  refine wl_mv M rfl rfl ?_
  refine wl_nil ?_
  replace M := M.drop 0
  refine ⟨(k4 + 1, u_a_4, l_a_4), ?_, ⟨(by omega), (by rw [take_flat hx4, haa, arcG, if_neg (by rw [ht102]; decide), List.append_nil]), M⟩, ⟨rfl, trivial⟩, unw_look rfl (unw_hav rfl (unw_look rfl unw_base))⟩
  show t.arcs.length - (k4 + 1) < t.arcs.length - k4
  omega
 have hke4 : k4 = t.arcs.length := by omega
 rw [hke4, List.take_length] at haa
 refine wc_exit rfl ?_
 refine wc_seq ?_
 refine wc_region ?_
 refine wl_m M (q_ldbA 3 Tryd.underlying29 rfl sz29 rfl rfl rfl rfl) rfl rfl ?_
 refine wl_e0 (e_stW 4 M rfl rfl rfl sz29 rfl rfl) rfl ?_
 intro _ w25 M
 simp only [sC0, sCS] at M
 refine wl_nil ?_
 refine wc_ret ?_
 obtain ⟨K1, M, hK1, Rk1⟩ := M.frzRow 2 rfl
 obtain ⟨K2, M, hK2, Rk2⟩ := M.frzRow 1 rfl
 rw [hff] at Rk1; rw [haa] at Rk2; rw [hke0, hkp] at M
 have hrd : (trimT t m up dn).rd K2 (.agg #[.int .i64 (rk (kpB up dn) m : Int), .int .i64 (nu (kpB up dn) t.start.toNat), sv u_f_2, sv u_a_4]) := by
   rw [trimT, if_pos (by simpa using ht26)]; exact ⟨_, _, rfl, Rk1.mono hK2, Rk2⟩
 have hld := load_boxA (o := 0) (b := b2) (T0 := 29) (cs := [.int .i64 (rk (kpB up dn) m : Int), .int .i64 (nu (kpB up dn) t.start.toNat), sv u_f_2, sv u_a_4]) (vs := [.int .i64 (rk (kpB up dn) m : Int), .int .i64 (nu (kpB up dn) t.start.toNat), sv u_f_2, sv u_a_4]) M 2 Tryd.underlying29 rfl sz29 rfl rfl rfl
 exact outc rfl rfl hld ⟨_, K2, rfl, (M.grow : Grow w I _ K2), up, dn, hul, hdl, hup, hdn, hrd⟩
end Go.Proofs.YtoilmeiikgegcaaDoor.G
