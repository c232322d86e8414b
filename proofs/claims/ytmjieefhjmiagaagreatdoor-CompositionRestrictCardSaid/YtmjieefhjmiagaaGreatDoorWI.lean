/- Walks of the program's functions. -/
import Derived.Test.YtmjieefhjmiagaaGreatDoorWH
import Derived.Test.YtmjieefhjmiagaaGreatDoorWF
set_option linter.all false
namespace Go.Proofs.YtmjieefhjmiagaaGreatDoor.G
open Go Go.RowKit
theorem compose5_c (a b : Tra) {v1 v2 : Value} {I : Heap} {w : World} (hI : hle I (hp w)) (R1 : a.rd I v1) (R2 : b.rd I v2) :
    Calls A 42 #[v1, v2] w (Ret w I fun r I' => ∃ (v : Value) (t : Tra) (e : Int), r = .tuple #[v, .int .i64 e] ∧ t.rd I' v ∧ RefRes a b t e) := by
 obtain ⟨fu1, au1, rfl, Rf1, Ra1⟩ := R1
 obtain ⟨fu2, au2, rfl, Rf2, Ra2⟩ := R2
 have M := Mem.start hI
 refine enter Tryz.func42 rfl 31 Tryz.ntmps42 [_, _] rfl ?_
 refine wc_seq ?_
 refine wc_region ?_
 refine wl_e (e_box M rfl) rfl rfl ?_
 rintro _ w1 ⟨b2, rfl, M⟩
 refine wl_e (e_box M rfl) rfl rfl ?_
 rintro _ w2 ⟨b3, rfl, M⟩
 refine wl_e (e_alloc M z25) rfl rfl ?_
 rintro _ w3 ⟨b4, rfl, M⟩
 refine wl_as M rfl rfl ?_
 refine wl_nil ?_
 refine wc_seq ?_
 refine wc_seq ?_
 refine wc_join (α := Unit) [7, 8, 9, 10, 11, 12, 13, 14] (fun _ => [(14, .bool ((!(validT a)) || (!(validT b))))]) (fun _ w' => Mem w I I (box b4 25 [.int .i64 0, .int .i64 0, .slice none 0 0, .slice none 0 0] :: box b3 25 [.int .i64 b.states, .int .i64 b.start, sv fu2, sv au2] :: box b2 25 [.int .i64 a.states, .int .i64 a.start, sv fu1, sv au1] :: []) w') ?_ ?_
 ·refine wc_region ?_
  refine wl_m M (q_ldbA 2 Tryz.underlying25 rfl sz25 rfl rfl rfl rfl) rfl rfl ?_
  refine wl_e (e_callC M (valid3_c a M.imm ⟨fu1, au1, rfl, Rf1, Ra1⟩) Tryz.func40 rfl rfl) rfl rfl ?_
  rintro _ w4 ⟨J8, hJ8, rfl, M⟩
  replace M := M.less hJ8 (fun _ _ => rfl)
  refine wl_m M (q_not rfl) rfl rfl ?_
  refine wl_mv M rfl rfl ?_
  rcases Bool.eq_false_or_eq_true (!(validT a)) with hg10 | hg10
  ·refine wl_m M (q_off 3 rfl rfl rfl hg10) rfl rfl ?_
   refine wl_m M (q_off 3 rfl rfl rfl hg10) rfl rfl ?_
   refine wl_m M (q_off 3 rfl rfl rfl hg10) rfl rfl ?_
   refine wl_m M (q_pickT rfl hg10 rfl) rfl rfl ?_
   refine wl_nil ?_
   exact ⟨(), M, ⟨(show some (Value.bool true) = some (Value.bool ((!(validT a)) || (!(validT b)))) from by first | (simp only [hg10, Bool.true_or, Bool.false_or, Bool.true_and, Bool.false_and, Bool.or_true, Bool.or_false, Bool.and_true, Bool.and_false]; done) | simp_all), trivial⟩, unw_take 8 rfl rfl⟩
  refine wl_m M (q_guard 3 rfl rfl rfl hg10 (q_ldbA 1 Tryz.underlying25 rfl sz25 rfl rfl rfl rfl)) rfl rfl ?_
  refine wl_e (e_guard 3 rfl rfl rfl hg10 (e_callC M (valid3_c b M.imm ⟨fu2, au2, rfl, Rf2, Ra2⟩) Tryz.func40 rfl rfl)) rfl rfl ?_
  rintro _ w5 ⟨J12, hJ12, rfl, M⟩
  replace M := M.less hJ12 (fun _ _ => rfl)
  refine wl_m M (q_guard 3 rfl rfl rfl hg10 (q_not rfl)) rfl rfl ?_
  refine wl_m M (q_pickF rfl hg10 rfl) rfl rfl ?_
  refine wl_nil ?_
  exact ⟨(), M, ⟨(show some (Value.bool (!(validT b))) = some (Value.bool ((!(validT a)) || (!(validT b)))) from by first | (simp only [hg10, Bool.true_or, Bool.false_or, Bool.true_and, Bool.false_and, Bool.or_true, Bool.or_false, Bool.and_true, Bool.and_false]; done) | simp_all), trivial⟩, unw_take 8 rfl rfl⟩
 rintro _ jr1 w6 M
 refine wc_cond rfl (fun ht14 => ?_) (fun ht14 => ?_)
 ·refine wc_seq ?_
  refine wc_region ?_
  refine wl_m M (q_build (bd_25) trivial) rfl rfl ?_
  refine wl_e0 (e_stW 0 M rfl rfl rfl sz25 rfl rfl) rfl ?_
  intro _ w7 M
  simp only [sC0, sCS] at M
  refine wl_as M rfl rfl ?_
  refine wl_nil ?_
  refine wc_ret ?_
  refine outc2 rfl rfl (load_boxA M 0 Tryz.underlying25 rfl sz25 rfl rfl rfl) rfl ⟨_, _, rfl, M.grow, _, zeroTra, 1, rfl, ⟨nilV, nilV, rfl, rdSl_nil _, rdSl_nil _⟩, ?_⟩
  rw [RefRes, if_pos ht14]; exact ⟨rfl, rfl⟩
 have hva : validT a = true := by simpa using (Bool.or_eq_false_iff.1 ht14).1
 have hvb : validT b = true := by simpa using (Bool.or_eq_false_iff.1 ht14).2
 obtain ⟨m, ha, hfa, hfal⟩ := validT_ok hva
 obtain ⟨n, hb, hfb, hfbl⟩ := validT_ok hvb
 have hra : ∀ p ∈ a.finals, 0 ≤ p ∧ p < (m : Int) := fun p hp => by have := validT_fin hva p hp; rwa [ha.st] at this
 have hrb : ∀ p ∈ b.finals, 0 ≤ p ∧ p < (n : Int) := fun p hp => by have := validT_fin hvb p hp; rwa [hb.st] at this
 have hN : a.states.toNat * b.states.toNat = m * n := by rw [ha.st, hb.st]; rfl
 refine wc_skip ?_
 refine wc_seq ?_
 refine wc_region ?_
 refine wl_m M (q_ldbA 2 Tryz.underlying25 rfl sz25 rfl rfl rfl rfl) rfl rfl ?_
 refine wl_m M (q_ldbA 1 Tryz.underlying25 rfl sz25 rfl rfl rfl rfl) rfl rfl ?_
 refine wl_e (e_callC M (raw_c ha hb hra hrb hfal hfbl M.imm ⟨fu1, au1, rfl, Rf1, Ra1⟩ ⟨fu2, au2, rfl, Rf2, Ra2⟩) Tryz.func79 rfl rfl) rfl rfl ?_
 rintro v18 w8 ⟨J18, hJ18, Rr, M⟩
 have hoJ18 := M.old
 refine wl_e (e_callC M (trim4_c (t := rawT a b) (m := m * n) (by simp [rawT, ha.st, hb.st]) (by have := Nat.mul_le_mul ha.le hb.le; omega) (raw_arcs ha hb) (by have := raw_rng ha.start hb.start; rw [← hb.st] at this; exact this) (raw_fin hb hra hrb) (raw_lens ha hb hfal hfbl).1 (raw_lens ha hb hfal hfbl).2 M.imm Rr) Tryz.func78 rfl rfl) rfl rfl ?_
 rintro _ w9 ⟨J19, hJ19, ⟨up, dn, hul, hdl, hup, hdn, ⟨fu3, au3, rfl, Rf3, Ra3⟩⟩, M⟩
 have hoJ19 := M.old
 refine wl_e (e_alloc M z25) rfl rfl ?_
 rintro _ w10 ⟨b6, rfl, M⟩
 refine wl_e0 (e_stW 0 M rfl rfl rfl sz25 rfl rfl) rfl ?_
 intro _ w11 M
 simp only [sC0, sCS] at M
 refine wl_nil ?_
 refine wc_seq ?_
 refine wc_seq ?_
 refine wc_join (α := Unit) [20, 21, 22, 23, 24, 25, 26, 27, 28] (fun _ => [(28, .bool ((decide (512 < ((trimT (rawT a b) (m * n) up dn).states))) || (decide (4096 < (((trimT (rawT a b) (m * n) up dn).arcs).length : Int)))))]) (fun _ w' => Mem w I J19 (box b6 25 [.int .i64 ((trimT (rawT a b) (m * n) up dn).states), .int .i64 ((trimT (rawT a b) (m * n) up dn).start), sv fu3, sv au3] :: box b4 25 [.int .i64 0, .int .i64 0, .slice none 0 0, .slice none 0 0] :: box b3 25 [.int .i64 b.states, .int .i64 b.start, sv fu2, sv au2] :: box b2 25 [.int .i64 a.states, .int .i64 a.start, sv fu1, sv au1] :: []) w') ?_ ?_
 ·refine wc_region ?_
  refine wl_m M (q_fa fo_25_0 rfl) rfl rfl ?_
  refine wl_m M (q_ldb 0 Tryz.underlying3 rfl rfl rfl rfl) rfl rfl ?_
  refine wl_m M (q_gtr rfl rfl) rfl rfl ?_
  refine wl_mv M rfl rfl ?_
  rcases Bool.eq_false_or_eq_true (decide (512 < ((trimT (rawT a b) (m * n) up dn).states))) with hg23 | hg23
  ·refine wl_m M (q_off 3 rfl rfl rfl hg23) rfl rfl ?_
   refine wl_m M (q_off 3 rfl rfl rfl hg23) rfl rfl ?_
   refine wl_m M (q_off 3 rfl rfl rfl hg23) rfl rfl ?_
   refine wl_m M (q_off 3 rfl rfl rfl hg23) rfl rfl ?_
   refine wl_m M (q_pickT rfl hg23 rfl) rfl rfl ?_
   refine wl_nil ?_
   exact ⟨(), M, ⟨(show some (Value.bool true) = some (Value.bool ((decide (512 < ((trimT (rawT a b) (m * n) up dn).states))) || (decide (4096 < (((trimT (rawT a b) (m * n) up dn).arcs).length : Int))))) from by first | (simp only [hg23, Bool.true_or, Bool.false_or, Bool.true_and, Bool.false_and, Bool.or_true, Bool.or_false, Bool.and_true, Bool.and_false]; done) | simp_all), trivial⟩, unw_take 9 rfl rfl⟩
  refine wl_m M (q_guard 3 rfl rfl rfl hg23 (q_fa fo_25_3 rfl)) rfl rfl ?_
  refine wl_m M (q_guard 3 rfl rfl rfl hg23 (q_ldb 0 Tryz.underlying23 rfl rfl rfl rfl)) rfl rfl ?_
  refine wl_m M (q_guard 3 rfl rfl rfl hg23 (q_lenR Ra3 Tryz.underlying23 rfl)) rfl rfl ?_
  refine wl_m M (q_guard 3 rfl rfl rfl hg23 (q_gtr rfl rfl)) rfl rfl ?_
  refine wl_m M (q_pickF rfl hg23 rfl) rfl rfl ?_
  refine wl_nil ?_
  exact ⟨(), M, ⟨(show some (Value.bool (decide (4096 < (((trimT (rawT a b) (m * n) up dn).arcs).length : Int)))) = some (Value.bool ((decide (512 < ((trimT (rawT a b) (m * n) up dn).states))) || (decide (4096 < (((trimT (rawT a b) (m * n) up dn).arcs).length : Int))))) from by first | (simp only [hg23, Bool.true_or, Bool.false_or, Bool.true_and, Bool.false_and, Bool.or_true, Bool.or_false, Bool.and_true, Bool.and_false]; done) | simp_all), trivial⟩, unw_take 9 rfl rfl⟩
 rintro _ jr4 w12 M
 refine wc_cond rfl (fun ht28 => ?_) (fun ht28 => ?_)
 ·refine wc_seq ?_
  refine wc_region ?_
  refine wl_m M (q_build (bd_25) trivial) rfl rfl ?_
  refine wl_e0 (e_stW 1 M rfl rfl rfl sz25 rfl rfl) rfl ?_
  intro _ w13 M
  simp only [sC0, sCS] at M
  refine wl_as M rfl rfl ?_
  refine wl_nil ?_
  refine wc_ret ?_
  refine outc2 rfl rfl (load_boxA M 1 Tryz.underlying25 rfl sz25 rfl rfl rfl) rfl ⟨_, _, rfl, M.grow, _, zeroTra, 2, rfl, ⟨nilV, nilV, rfl, rdSl_nil _, rdSl_nil _⟩, ?_⟩
  rw [RefRes, if_neg (by rw [ht14]; decide), hN]
  exact ⟨up, dn, hul, hdl, hup, hdn, by rw [if_pos ht28]; exact ⟨rfl, rfl⟩⟩
 refine wc_skip ?_
 refine wc_seq ?_
 refine wc_region ?_
 refine wl_m M (q_ldbA 0 Tryz.underlying25 rfl sz25 rfl rfl rfl rfl) rfl rfl ?_
 refine wl_e0 (e_stW 1 M rfl rfl rfl sz25 rfl rfl) rfl ?_
 intro _ w14 M
 simp only [sC0, sCS] at M
 refine wl_as M rfl rfl ?_
 refine wl_nil ?_
 refine wc_ret ?_
 refine outc2 rfl rfl (load_boxA M 1 Tryz.underlying25 rfl sz25 rfl rfl rfl) rfl ⟨_, _, rfl, M.grow, _, trimT (rawT a b) (m * n) up dn, 0, rfl, ⟨fu3, au3, rfl, Rf3, Ra3⟩, ?_⟩
 rw [RefRes, if_neg (by rw [ht14]; decide), hN]
 exact ⟨up, dn, hul, hdl, hup, hdn, by rw [if_neg (by rw [ht28]; decide)]; exact ⟨rfl, rfl⟩⟩
end Go.Proofs.YtmjieefhjmiagaaGreatDoor.G
