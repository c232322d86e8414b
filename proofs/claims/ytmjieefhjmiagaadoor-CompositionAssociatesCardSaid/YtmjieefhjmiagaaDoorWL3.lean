/- Walks of the program's functions. -/
import Derived.Test.YtmjieefhjmiagaaDoorWL0
import Derived.Test.YtmjieefhjmiagaaDoorWX
import Derived.Test.YtmjieefhjmiagaaDoorGThr
set_option linter.all false
namespace Go.Proofs.YtmjieefhjmiagaaDoor.G
open Go Go.RowKit
theorem lawAssociates_c (a b c : Tra) (x z : ByteArray) {v1 v2 v3 : Value} {I : Heap} {w : World} (hI : hle I (hp w)) (hT : Tabs I) (R1 : a.rd I v1) (R2 : b.rd I v2) (R3 : c.rd I v3) : Calls A 5 #[v1, v2, v3, .string x, .string z] w (Ret w I fun r _ => r = .bool true) := by
  obtain ⟨fu1, au1, rfl, Rf1, Ra1⟩ := R1
  obtain ⟨fu2, au2, rfl, Rf2, Ra2⟩ := R2
  obtain ⟨fu3, au3, rfl, Rf3, Ra3⟩ := R3
  have M := Mem.start hI
  refine enter Tryd.func5 rfl 116 Tryd.ntmps5 [_, _, _, _, _] rfl ?_
  refine wc_seq ?_
  refine wc_region ?_
  refine wl_e (e_box M rfl) rfl rfl ?_
  rintro _ w1 ⟨b5, rfl, M⟩
  refine wl_e (e_box M rfl) rfl rfl ?_
  rintro _ w2 ⟨b6, rfl, M⟩
  refine wl_e (e_box M rfl) rfl rfl ?_
  rintro _ w3 ⟨b7, rfl, M⟩
  refine wl_m M (q_assign rfl) rfl rfl ?_
  refine wl_nil ?_
  refine wc_seq ?_
  refine wc_seq ?_
  refine wc_join (α := Unit) [19, 20, 21, 22, 23, 24, 25, 26, 27, 28, 29, 30, 31, 32, 33, 34, 35, 36, 37, 38, 39, 40, 41, 42, 43, 44, 45, 46, 47, 48, 49, 50, 51, 52, 53, 54, 55, 56, 57, 58, 59, 60, 61, 62, 63, 64] (fun _ => [(64, .bool (((((((!true) || (!([a, b, c].all fewB))) || (!([x, z].all (fun s => !decide (20 < (s.size : Int))) && decide ((([x, z] : List ByteArray).length : Int) ≤ 6)))) || (decide (3 < a.states))) || (decide (3 < b.states))) || (decide (3 < c.states))) || (decide (18 < (((a.arcs.length : Int) + (b.arcs.length : Int)) + (c.arcs.length : Int))))))]) (fun _ w' => Mem w I I (box b7 25 [.int .i64 c.states, .int .i64 c.start, sv fu3, sv au3] :: box b6 25 [.int .i64 b.states, .int .i64 b.start, sv fu2, sv au2] :: box b5 25 [.int .i64 a.states, .int .i64 a.start, sv fu1, sv au1] :: []) w') ?_ ?_
  · refine wc_region ?_
    refine wl_e (e_callC M (awake_c M.imm hT) Tryd.func10 rfl rfl) rfl rfl ?_
    rintro _ w4 ⟨J19, hJ19, rfl, M⟩
    replace M := M.less hJ19 (fun _ _ => rfl)
    refine wl_m M (q_not rfl) rfl rfl ?_
    refine wl_m M (q_move rfl) rfl rfl ?_
    rcases Bool.eq_false_or_eq_true (!true) with hg21 | hg21
    · refine wl_m M (q_off 2 rfl rfl rfl hg21) rfl rfl ?_
      refine wl_m M (q_off 2 rfl rfl rfl hg21) rfl rfl ?_
      refine wl_m M (q_off 2 rfl rfl rfl hg21) rfl rfl ?_
      refine wl_m M (q_off 2 rfl rfl rfl hg21) rfl rfl ?_
      refine wl_m M (q_off 2 rfl rfl rfl hg21) rfl rfl ?_
      refine wl_m M (q_off 2 rfl rfl rfl hg21) rfl rfl ?_
      refine wl_m M (q_pickT rfl hg21 rfl) rfl rfl ?_
      refine wl_m M (q_move rfl) rfl rfl ?_
      refine wl_m M (q_off 10 rfl rfl rfl rfl) rfl rfl ?_
      refine wl_m M (q_off 10 rfl rfl rfl rfl) rfl rfl ?_
      refine wl_m M (q_off 10 rfl rfl rfl rfl) rfl rfl ?_
      refine wl_m M (q_off 10 rfl rfl rfl rfl) rfl rfl ?_
      refine wl_m M (q_off 10 rfl rfl rfl rfl) rfl rfl ?_
      refine wl_m M (q_pickT rfl rfl rfl) rfl rfl ?_
      refine wl_m M (q_move rfl) rfl rfl ?_
      refine wl_m M (q_off 17 rfl rfl rfl rfl) rfl rfl ?_
      refine wl_m M (q_off 17 rfl rfl rfl rfl) rfl rfl ?_
      refine wl_m M (q_off 17 rfl rfl rfl rfl) rfl rfl ?_
      refine wl_m M (q_pickT rfl rfl rfl) rfl rfl ?_
      refine wl_m M (q_move rfl) rfl rfl ?_
      refine wl_m M (q_off 22 rfl rfl rfl rfl) rfl rfl ?_
      refine wl_m M (q_off 22 rfl rfl rfl rfl) rfl rfl ?_
      refine wl_m M (q_off 22 rfl rfl rfl rfl) rfl rfl ?_
      refine wl_m M (q_pickT rfl rfl rfl) rfl rfl ?_
      refine wl_m M (q_move rfl) rfl rfl ?_
      refine wl_m M (q_off 27 rfl rfl rfl rfl) rfl rfl ?_
      refine wl_m M (q_off 27 rfl rfl rfl rfl) rfl rfl ?_
      refine wl_m M (q_off 27 rfl rfl rfl rfl) rfl rfl ?_
      refine wl_m M (q_pickT rfl rfl rfl) rfl rfl ?_
      refine wl_m M (q_move rfl) rfl rfl ?_
      refine wl_m M (q_off 32 rfl rfl rfl rfl) rfl rfl ?_
      refine wl_m M (q_off 32 rfl rfl rfl rfl) rfl rfl ?_
      refine wl_m M (q_off 32 rfl rfl rfl rfl) rfl rfl ?_
      refine wl_m M (q_off 32 rfl rfl rfl rfl) rfl rfl ?_
      refine wl_m M (q_off 32 rfl rfl rfl rfl) rfl rfl ?_
      refine wl_m M (q_off 32 rfl rfl rfl rfl) rfl rfl ?_
      refine wl_m M (q_off 32 rfl rfl rfl rfl) rfl rfl ?_
      refine wl_m M (q_off 32 rfl rfl rfl rfl) rfl rfl ?_
      refine wl_m M (q_off 32 rfl rfl rfl rfl) rfl rfl ?_
      refine wl_m M (q_off 32 rfl rfl rfl rfl) rfl rfl ?_
      refine wl_m M (q_off 32 rfl rfl rfl rfl) rfl rfl ?_
      refine wl_m M (q_off 32 rfl rfl rfl rfl) rfl rfl ?_
      refine wl_m M (q_pickT rfl rfl rfl) rfl rfl ?_
      refine wl_nil ?_
      exact ⟨(), M, ⟨(show some (Value.bool true) = some (Value.bool (((((((!true) || (!([a, b, c].all fewB))) || (!([x, z].all (fun s => !decide (20 < (s.size : Int))) && decide ((([x, z] : List ByteArray).length : Int) ≤ 6)))) || (decide (3 < a.states))) || (decide (3 < b.states))) || (decide (3 < c.states))) || (decide (18 < (((a.arcs.length : Int) + (b.arcs.length : Int)) + (c.arcs.length : Int)))))) from by first | (simp only [hg21, Bool.true_or, Bool.false_or, Bool.true_and, Bool.false_and, Bool.or_true, Bool.or_false, Bool.and_true, Bool.and_false]; done) | simp_all), trivial⟩, unw_take 46 rfl rfl⟩
    · refine wl_m M (q_guard 2 rfl rfl rfl hg21 (q_ldbA 2 Tryd.underlying25 rfl sz25 rfl rfl rfl rfl)) rfl rfl ?_
      refine wl_m M (q_guard 2 rfl rfl rfl hg21 (q_ldbA 1 Tryd.underlying25 rfl sz25 rfl rfl rfl rfl)) rfl rfl ?_
      refine wl_m M (q_guard 2 rfl rfl rfl hg21 (q_ldbA 0 Tryd.underlying25 rfl sz25 rfl rfl rfl rfl)) rfl rfl ?_
      refine wl_e (e_guard 2 rfl rfl rfl hg21 (e_bsI (E := ETra) (xs := [(RTra.mk a.states a.start fu1 au1), (RTra.mk b.states b.start fu2 au2), (RTra.mk c.states c.start fu3 au3)]) M (bs_37_3 _ _ _ _ _ _ _ _ _ _ _ _) ⟨⟨rfl, rfl⟩, ⟨rfl, rfl⟩, ⟨rfl, rfl⟩, trivial⟩ rfl rfl (by decide))) rfl rfl ?_
      rintro _ w5 ⟨u25, J25, rfl, hJ25, R25, M⟩
      have hoJ25 := M.old
      refine wl_e (e_guard 2 rfl rfl rfl hg21 (e_callC M (few_c M.imm (rdTras3 R25 (Rf1.mono hJ25) (Ra1.mono hJ25) (Rf2.mono hJ25) (Ra2.mono hJ25) (Rf3.mono hJ25) (Ra3.mono hJ25))) Tryd.func11 rfl rfl)) rfl rfl ?_
      rintro _ w6 ⟨J26, hJ26, rfl, M⟩
      replace M := M.less hJ26 hoJ25
      refine wl_m M (q_guard 2 rfl rfl rfl hg21 (q_not rfl)) rfl rfl ?_
      refine wl_m M (q_pickF rfl hg21 rfl) rfl rfl ?_
      refine wl_m M (q_move rfl) rfl rfl ?_
      rcases Bool.eq_false_or_eq_true (!([a, b, c].all fewB)) with hg29 | hg29
      · refine wl_m M (q_off 10 rfl rfl rfl hg29) rfl rfl ?_
        refine wl_m M (q_off 10 rfl rfl rfl hg29) rfl rfl ?_
        refine wl_m M (q_off 10 rfl rfl rfl hg29) rfl rfl ?_
        refine wl_m M (q_off 10 rfl rfl rfl hg29) rfl rfl ?_
        refine wl_m M (q_off 10 rfl rfl rfl hg29) rfl rfl ?_
        refine wl_m M (q_pickT rfl hg29 rfl) rfl rfl ?_
        refine wl_m M (q_move rfl) rfl rfl ?_
        refine wl_m M (q_off 17 rfl rfl rfl rfl) rfl rfl ?_
        refine wl_m M (q_off 17 rfl rfl rfl rfl) rfl rfl ?_
        refine wl_m M (q_off 17 rfl rfl rfl rfl) rfl rfl ?_
        refine wl_m M (q_pickT rfl rfl rfl) rfl rfl ?_
        refine wl_m M (q_move rfl) rfl rfl ?_
        refine wl_m M (q_off 22 rfl rfl rfl rfl) rfl rfl ?_
        refine wl_m M (q_off 22 rfl rfl rfl rfl) rfl rfl ?_
        refine wl_m M (q_off 22 rfl rfl rfl rfl) rfl rfl ?_
        refine wl_m M (q_pickT rfl rfl rfl) rfl rfl ?_
        refine wl_m M (q_move rfl) rfl rfl ?_
        refine wl_m M (q_off 27 rfl rfl rfl rfl) rfl rfl ?_
        refine wl_m M (q_off 27 rfl rfl rfl rfl) rfl rfl ?_
        refine wl_m M (q_off 27 rfl rfl rfl rfl) rfl rfl ?_
        refine wl_m M (q_pickT rfl rfl rfl) rfl rfl ?_
        refine wl_m M (q_move rfl) rfl rfl ?_
        refine wl_m M (q_off 32 rfl rfl rfl rfl) rfl rfl ?_
        refine wl_m M (q_off 32 rfl rfl rfl rfl) rfl rfl ?_
        refine wl_m M (q_off 32 rfl rfl rfl rfl) rfl rfl ?_
        refine wl_m M (q_off 32 rfl rfl rfl rfl) rfl rfl ?_
        refine wl_m M (q_off 32 rfl rfl rfl rfl) rfl rfl ?_
        refine wl_m M (q_off 32 rfl rfl rfl rfl) rfl rfl ?_
        refine wl_m M (q_off 32 rfl rfl rfl rfl) rfl rfl ?_
        refine wl_m M (q_off 32 rfl rfl rfl rfl) rfl rfl ?_
        refine wl_m M (q_off 32 rfl rfl rfl rfl) rfl rfl ?_
        refine wl_m M (q_off 32 rfl rfl rfl rfl) rfl rfl ?_
        refine wl_m M (q_off 32 rfl rfl rfl rfl) rfl rfl ?_
        refine wl_m M (q_off 32 rfl rfl rfl rfl) rfl rfl ?_
        refine wl_m M (q_pickT rfl rfl rfl) rfl rfl ?_
        refine wl_nil ?_
        replace M := M.less hJ25 (fun _ _ => rfl)
        exact ⟨(), M, ⟨(show some (Value.bool true) = some (Value.bool (((((((!true) || (!([a, b, c].all fewB))) || (!([x, z].all (fun s => !decide (20 < (s.size : Int))) && decide ((([x, z] : List ByteArray).length : Int) ≤ 6)))) || (decide (3 < a.states))) || (decide (3 < b.states))) || (decide (3 < c.states))) || (decide (18 < (((a.arcs.length : Int) + (b.arcs.length : Int)) + (c.arcs.length : Int)))))) from by first | (simp only [hg21, hg29, Bool.true_or, Bool.false_or, Bool.true_and, Bool.false_and, Bool.or_true, Bool.or_false, Bool.and_true, Bool.and_false]; done) | simp_all), trivial⟩, unw_take 46 rfl rfl⟩
      · refine wl_m M (q_guard 10 rfl rfl rfl hg29 (q_move rfl)) rfl rfl ?_
        refine wl_m M (q_guard 10 rfl rfl rfl hg29 (q_move rfl)) rfl rfl ?_
        refine wl_e (e_guard 10 rfl rfl rfl hg29 (e_bsI (E := EStr) (xs := [x, z]) M (bs_42_2 _ _) ⟨⟨rfl, rfl⟩, ⟨rfl, rfl⟩, trivial⟩ rfl rfl (by decide))) rfl rfl ?_
        rintro _ w7 ⟨u32, J32, rfl, hJ32, R32, M⟩
        have hoJ32 := M.old
        refine wl_e (e_guard 10 rfl rfl rfl hg29 (e_callC M (brief_c M.imm R32) Tryd.func15 rfl rfl)) rfl rfl ?_
        rintro _ w8 ⟨J33, hJ33, rfl, M⟩
        replace M := M.less hJ33 hoJ32
        refine wl_m M (q_guard 10 rfl rfl rfl hg29 (q_not rfl)) rfl rfl ?_
        refine wl_m M (q_pickF rfl hg29 rfl) rfl rfl ?_
        refine wl_m M (q_move rfl) rfl rfl ?_
        rcases Bool.eq_false_or_eq_true (!([x, z].all (fun s => !decide (20 < (s.size : Int))) && decide ((([x, z] : List ByteArray).length : Int) ≤ 6))) with hg36 | hg36
        · refine wl_m M (q_off 17 rfl rfl rfl hg36) rfl rfl ?_
          refine wl_m M (q_off 17 rfl rfl rfl hg36) rfl rfl ?_
          refine wl_m M (q_off 17 rfl rfl rfl hg36) rfl rfl ?_
          refine wl_m M (q_pickT rfl hg36 rfl) rfl rfl ?_
          refine wl_m M (q_move rfl) rfl rfl ?_
          refine wl_m M (q_off 22 rfl rfl rfl rfl) rfl rfl ?_
          refine wl_m M (q_off 22 rfl rfl rfl rfl) rfl rfl ?_
          refine wl_m M (q_off 22 rfl rfl rfl rfl) rfl rfl ?_
          refine wl_m M (q_pickT rfl rfl rfl) rfl rfl ?_
          refine wl_m M (q_move rfl) rfl rfl ?_
          refine wl_m M (q_off 27 rfl rfl rfl rfl) rfl rfl ?_
          refine wl_m M (q_off 27 rfl rfl rfl rfl) rfl rfl ?_
          refine wl_m M (q_off 27 rfl rfl rfl rfl) rfl rfl ?_
          refine wl_m M (q_pickT rfl rfl rfl) rfl rfl ?_
          refine wl_m M (q_move rfl) rfl rfl ?_
          refine wl_m M (q_off 32 rfl rfl rfl rfl) rfl rfl ?_
          refine wl_m M (q_off 32 rfl rfl rfl rfl) rfl rfl ?_
          refine wl_m M (q_off 32 rfl rfl rfl rfl) rfl rfl ?_
          refine wl_m M (q_off 32 rfl rfl rfl rfl) rfl rfl ?_
          refine wl_m M (q_off 32 rfl rfl rfl rfl) rfl rfl ?_
          refine wl_m M (q_off 32 rfl rfl rfl rfl) rfl rfl ?_
          refine wl_m M (q_off 32 rfl rfl rfl rfl) rfl rfl ?_
          refine wl_m M (q_off 32 rfl rfl rfl rfl) rfl rfl ?_
          refine wl_m M (q_off 32 rfl rfl rfl rfl) rfl rfl ?_
          refine wl_m M (q_off 32 rfl rfl rfl rfl) rfl rfl ?_
          refine wl_m M (q_off 32 rfl rfl rfl rfl) rfl rfl ?_
          refine wl_m M (q_off 32 rfl rfl rfl rfl) rfl rfl ?_
          refine wl_m M (q_pickT rfl rfl rfl) rfl rfl ?_
          refine wl_nil ?_
          replace M := M.less (hle.trans hJ25 hJ32) (fun _ _ => rfl)
          exact ⟨(), M, ⟨(show some (Value.bool true) = some (Value.bool (((((((!true) || (!([a, b, c].all fewB))) || (!([x, z].all (fun s => !decide (20 < (s.size : Int))) && decide ((([x, z] : List ByteArray).length : Int) ≤ 6)))) || (decide (3 < a.states))) || (decide (3 < b.states))) || (decide (3 < c.states))) || (decide (18 < (((a.arcs.length : Int) + (b.arcs.length : Int)) + (c.arcs.length : Int)))))) from by first | (simp only [hg21, hg29, hg36, Bool.true_or, Bool.false_or, Bool.true_and, Bool.false_and, Bool.or_true, Bool.or_false, Bool.and_true, Bool.and_false]; done) | simp_all), trivial⟩, unw_take 46 rfl rfl⟩
        · refine wl_m M (q_guard 17 rfl rfl rfl hg36 (q_fa fo_25_0 rfl)) rfl rfl ?_
          refine wl_m M (q_guard 17 rfl rfl rfl hg36 (q_ldb 2 Tryd.underlying3 rfl rfl rfl rfl)) rfl rfl ?_
          refine wl_m M (q_guard 17 rfl rfl rfl hg36 (q_gtr rfl rfl)) rfl rfl ?_
          refine wl_m M (q_pickF rfl hg36 rfl) rfl rfl ?_
          refine wl_m M (q_move rfl) rfl rfl ?_
          rcases Bool.eq_false_or_eq_true (decide (3 < a.states)) with hg41 | hg41
          · refine wl_m M (q_off 22 rfl rfl rfl hg41) rfl rfl ?_
            refine wl_m M (q_off 22 rfl rfl rfl hg41) rfl rfl ?_
            refine wl_m M (q_off 22 rfl rfl rfl hg41) rfl rfl ?_
            refine wl_m M (q_pickT rfl hg41 rfl) rfl rfl ?_
            refine wl_m M (q_move rfl) rfl rfl ?_
            refine wl_m M (q_off 27 rfl rfl rfl rfl) rfl rfl ?_
            refine wl_m M (q_off 27 rfl rfl rfl rfl) rfl rfl ?_
            refine wl_m M (q_off 27 rfl rfl rfl rfl) rfl rfl ?_
            refine wl_m M (q_pickT rfl rfl rfl) rfl rfl ?_
            refine wl_m M (q_move rfl) rfl rfl ?_
            refine wl_m M (q_off 32 rfl rfl rfl rfl) rfl rfl ?_
            refine wl_m M (q_off 32 rfl rfl rfl rfl) rfl rfl ?_
            refine wl_m M (q_off 32 rfl rfl rfl rfl) rfl rfl ?_
            refine wl_m M (q_off 32 rfl rfl rfl rfl) rfl rfl ?_
            refine wl_m M (q_off 32 rfl rfl rfl rfl) rfl rfl ?_
            refine wl_m M (q_off 32 rfl rfl rfl rfl) rfl rfl ?_
            refine wl_m M (q_off 32 rfl rfl rfl rfl) rfl rfl ?_
            refine wl_m M (q_off 32 rfl rfl rfl rfl) rfl rfl ?_
            refine wl_m M (q_off 32 rfl rfl rfl rfl) rfl rfl ?_
            refine wl_m M (q_off 32 rfl rfl rfl rfl) rfl rfl ?_
            refine wl_m M (q_off 32 rfl rfl rfl rfl) rfl rfl ?_
            refine wl_m M (q_off 32 rfl rfl rfl rfl) rfl rfl ?_
            refine wl_m M (q_pickT rfl rfl rfl) rfl rfl ?_
            refine wl_nil ?_
            replace M := M.less (hle.trans hJ25 hJ32) (fun _ _ => rfl)
            exact ⟨(), M, ⟨(show some (Value.bool true) = some (Value.bool (((((((!true) || (!([a, b, c].all fewB))) || (!([x, z].all (fun s => !decide (20 < (s.size : Int))) && decide ((([x, z] : List ByteArray).length : Int) ≤ 6)))) || (decide (3 < a.states))) || (decide (3 < b.states))) || (decide (3 < c.states))) || (decide (18 < (((a.arcs.length : Int) + (b.arcs.length : Int)) + (c.arcs.length : Int)))))) from by first | (simp only [hg21, hg29, hg36, hg41, Bool.true_or, Bool.false_or, Bool.true_and, Bool.false_and, Bool.or_true, Bool.or_false, Bool.and_true, Bool.and_false]; done) | simp_all), trivial⟩, unw_take 46 rfl rfl⟩
          · refine wl_m M (q_guard 22 rfl rfl rfl hg41 (q_fa fo_25_0 rfl)) rfl rfl ?_
            refine wl_m M (q_guard 22 rfl rfl rfl hg41 (q_ldb 1 Tryd.underlying3 rfl rfl rfl rfl)) rfl rfl ?_
            refine wl_m M (q_guard 22 rfl rfl rfl hg41 (q_gtr rfl rfl)) rfl rfl ?_
            refine wl_m M (q_pickF rfl hg41 rfl) rfl rfl ?_
            refine wl_m M (q_move rfl) rfl rfl ?_
            rcases Bool.eq_false_or_eq_true (decide (3 < b.states)) with hg46 | hg46
            · refine wl_m M (q_off 27 rfl rfl rfl hg46) rfl rfl ?_
              refine wl_m M (q_off 27 rfl rfl rfl hg46) rfl rfl ?_
              refine wl_m M (q_off 27 rfl rfl rfl hg46) rfl rfl ?_
              refine wl_m M (q_pickT rfl hg46 rfl) rfl rfl ?_
              refine wl_m M (q_move rfl) rfl rfl ?_
              refine wl_m M (q_off 32 rfl rfl rfl rfl) rfl rfl ?_
              refine wl_m M (q_off 32 rfl rfl rfl rfl) rfl rfl ?_
              refine wl_m M (q_off 32 rfl rfl rfl rfl) rfl rfl ?_
              refine wl_m M (q_off 32 rfl rfl rfl rfl) rfl rfl ?_
              refine wl_m M (q_off 32 rfl rfl rfl rfl) rfl rfl ?_
              refine wl_m M (q_off 32 rfl rfl rfl rfl) rfl rfl ?_
              refine wl_m M (q_off 32 rfl rfl rfl rfl) rfl rfl ?_
              refine wl_m M (q_off 32 rfl rfl rfl rfl) rfl rfl ?_
              refine wl_m M (q_off 32 rfl rfl rfl rfl) rfl rfl ?_
              refine wl_m M (q_off 32 rfl rfl rfl rfl) rfl rfl ?_
              refine wl_m M (q_off 32 rfl rfl rfl rfl) rfl rfl ?_
              refine wl_m M (q_off 32 rfl rfl rfl rfl) rfl rfl ?_
              refine wl_m M (q_pickT rfl rfl rfl) rfl rfl ?_
              refine wl_nil ?_
              replace M := M.less (hle.trans hJ25 hJ32) (fun _ _ => rfl)
              exact ⟨(), M, ⟨(show some (Value.bool true) = some (Value.bool (((((((!true) || (!([a, b, c].all fewB))) || (!([x, z].all (fun s => !decide (20 < (s.size : Int))) && decide ((([x, z] : List ByteArray).length : Int) ≤ 6)))) || (decide (3 < a.states))) || (decide (3 < b.states))) || (decide (3 < c.states))) || (decide (18 < (((a.arcs.length : Int) + (b.arcs.length : Int)) + (c.arcs.length : Int)))))) from by first | (simp only [hg21, hg29, hg36, hg41, hg46, Bool.true_or, Bool.false_or, Bool.true_and, Bool.false_and, Bool.or_true, Bool.or_false, Bool.and_true, Bool.and_false]; done) | simp_all), trivial⟩, unw_take 46 rfl rfl⟩
            · refine wl_m M (q_guard 27 rfl rfl rfl hg46 (q_fa fo_25_0 rfl)) rfl rfl ?_
              refine wl_m M (q_guard 27 rfl rfl rfl hg46 (q_ldb 0 Tryd.underlying3 rfl rfl rfl rfl)) rfl rfl ?_
              refine wl_m M (q_guard 27 rfl rfl rfl hg46 (q_gtr rfl rfl)) rfl rfl ?_
              refine wl_m M (q_pickF rfl hg46 rfl) rfl rfl ?_
              refine wl_m M (q_move rfl) rfl rfl ?_
              rcases Bool.eq_false_or_eq_true (decide (3 < c.states)) with hg51 | hg51
              · refine wl_m M (q_off 32 rfl rfl rfl hg51) rfl rfl ?_
                refine wl_m M (q_off 32 rfl rfl rfl hg51) rfl rfl ?_
                refine wl_m M (q_off 32 rfl rfl rfl hg51) rfl rfl ?_
                refine wl_m M (q_off 32 rfl rfl rfl hg51) rfl rfl ?_
                refine wl_m M (q_off 32 rfl rfl rfl hg51) rfl rfl ?_
                refine wl_m M (q_off 32 rfl rfl rfl hg51) rfl rfl ?_
                refine wl_m M (q_off 32 rfl rfl rfl hg51) rfl rfl ?_
                refine wl_m M (q_off 32 rfl rfl rfl hg51) rfl rfl ?_
                refine wl_m M (q_off 32 rfl rfl rfl hg51) rfl rfl ?_
                refine wl_m M (q_off 32 rfl rfl rfl hg51) rfl rfl ?_
                refine wl_m M (q_off 32 rfl rfl rfl hg51) rfl rfl ?_
                refine wl_m M (q_off 32 rfl rfl rfl hg51) rfl rfl ?_
                refine wl_m M (q_pickT rfl hg51 rfl) rfl rfl ?_
                refine wl_nil ?_
                replace M := M.less (hle.trans hJ25 hJ32) (fun _ _ => rfl)
                exact ⟨(), M, ⟨(show some (Value.bool true) = some (Value.bool (((((((!true) || (!([a, b, c].all fewB))) || (!([x, z].all (fun s => !decide (20 < (s.size : Int))) && decide ((([x, z] : List ByteArray).length : Int) ≤ 6)))) || (decide (3 < a.states))) || (decide (3 < b.states))) || (decide (3 < c.states))) || (decide (18 < (((a.arcs.length : Int) + (b.arcs.length : Int)) + (c.arcs.length : Int)))))) from by first | (simp only [hg21, hg29, hg36, hg41, hg46, hg51, Bool.true_or, Bool.false_or, Bool.true_and, Bool.false_and, Bool.or_true, Bool.or_false, Bool.and_true, Bool.and_false]; done) | simp_all), trivial⟩, unw_take 46 rfl rfl⟩
              · refine wl_m M (q_guard 32 rfl rfl rfl hg51 (q_fa fo_25_3 rfl)) rfl rfl ?_
                refine wl_m M (q_guard 32 rfl rfl rfl hg51 (q_ldb 2 Tryd.underlying23 rfl rfl rfl rfl)) rfl rfl ?_
                refine wl_m M (q_guard 32 rfl rfl rfl hg51 (q_lenR ((Ra1.mono hJ25).mono hJ32) Tryd.underlying23 rfl)) rfl rfl ?_
                refine wl_m M (q_guard 32 rfl rfl rfl hg51 (q_fa fo_25_3 rfl)) rfl rfl ?_
                refine wl_m M (q_guard 32 rfl rfl rfl hg51 (q_ldb 1 Tryd.underlying23 rfl rfl rfl rfl)) rfl rfl ?_
                refine wl_m M (q_guard 32 rfl rfl rfl hg51 (q_lenR ((Ra2.mono hJ25).mono hJ32) Tryd.underlying23 rfl)) rfl rfl ?_
                have hl3 := few3_lens (a := a) (b := b) (c := c) (by revert hg29; generalize [a, b, c].all fewB = q; cases q <;> simp)
                refine wl_m M (q_guard 32 rfl rfl rfl hg51 (q_add rfl rfl (IntWalk.i64_in _ (by omega)))) rfl rfl ?_
                refine wl_m M (q_guard 32 rfl rfl rfl hg51 (q_fa fo_25_3 rfl)) rfl rfl ?_
                refine wl_m M (q_guard 32 rfl rfl rfl hg51 (q_ldb 0 Tryd.underlying23 rfl rfl rfl rfl)) rfl rfl ?_
                refine wl_m M (q_guard 32 rfl rfl rfl hg51 (q_lenR ((Ra3.mono hJ25).mono hJ32) Tryd.underlying23 rfl)) rfl rfl ?_
                refine wl_m M (q_guard 32 rfl rfl rfl hg51 (q_add rfl rfl (IntWalk.i64_in _ (by omega)))) rfl rfl ?_
                refine wl_m M (q_guard 32 rfl rfl rfl hg51 (q_gtr rfl rfl)) rfl rfl ?_
                refine wl_m M (q_pickF rfl hg51 rfl) rfl rfl ?_
                refine wl_nil ?_
                replace M := M.less (hle.trans hJ25 hJ32) (fun _ _ => rfl)
                exact ⟨(), M, ⟨(show some (Value.bool (decide (18 < (((a.arcs.length : Int) + (b.arcs.length : Int)) + (c.arcs.length : Int))))) = some (Value.bool (((((((!true) || (!([a, b, c].all fewB))) || (!([x, z].all (fun s => !decide (20 < (s.size : Int))) && decide ((([x, z] : List ByteArray).length : Int) ≤ 6)))) || (decide (3 < a.states))) || (decide (3 < b.states))) || (decide (3 < c.states))) || (decide (18 < (((a.arcs.length : Int) + (b.arcs.length : Int)) + (c.arcs.length : Int)))))) from by first | (simp only [hg21, hg29, hg36, hg41, hg46, hg51, Bool.true_or, Bool.false_or, Bool.true_and, Bool.false_and, Bool.or_true, Bool.or_false, Bool.and_true, Bool.and_false]; done) | simp_all), trivial⟩, unw_take 46 rfl rfl⟩
  rintro _ jr1 w9 M
  refine wc_cond rfl (fun ht64 => ?_) (fun ht64 => ?_)
  · refine wc_seq ?_
    refine wc_region ?_
    refine wl_e (e_callC M (awake_c M.imm hT) Tryd.func10 rfl rfl) rfl rfl ?_
    rintro _ w10 ⟨J65, hJ65, rfl, M⟩
    replace M := M.less hJ65 (fun _ _ => rfl)
    refine wl_m M (q_assign rfl) rfl rfl ?_
    refine wl_nil ?_
    refine wc_ret ?_
    exact out1 rfl rfl ⟨_, _, rfl, M.grow, rfl⟩
  · have hff : ([a, b, c].all fewB) = true := by revert ht64; generalize ([a, b, c].all fewB) = q; cases q <;> simp
    obtain ⟨hfa, hfb, hfc⟩ := few3_all hff
    have hbr : ([x, z].all (fun s => !decide (20 < (s.size : Int)))) = true := by revert ht64; generalize ([x, z].all (fun s => !decide (20 < (s.size : Int)))) = q; cases q <;> simp
    obtain ⟨hsx, hsz⟩ := brief2 hbr
    refine wc_skip ?_
    refine wc_seq ?_
    refine wc_region ?_
    refine wl_m M (q_ldbA 2 Tryd.underlying25 rfl sz25 rfl rfl rfl rfl) rfl rfl ?_
    refine wl_m M (q_ldbA 1 Tryd.underlying25 rfl sz25 rfl rfl rfl rfl) rfl rfl ?_
    refine wl_e (e_callC M (compose_c a b (few_big hfa hfb) M.imm ⟨fu1, au1, rfl, Rf1, Ra1⟩ ⟨fu2, au2, rfl, Rf2, Ra2⟩) Tryd.func12 rfl rfl) rfl rfl ?_
    rintro _ w11 ⟨J69, hJ69, ⟨_, t69, e69, rfl, ⟨fu69, au69, rfl, Rf69, Ra69⟩, hc69⟩, M⟩
    replace hc69 : (t69, e69) = CompS a b := cmp_S hc69
    have hoJ69 := M.old
    refine wl_m M (q_move rfl) rfl rfl ?_
    refine wl_m M (q_ext rfl rfl) rfl rfl ?_
    refine wl_m M (q_ext rfl rfl) rfl rfl ?_
    refine wl_e (e_alloc M z25) rfl rfl ?_
    rintro _ w12 ⟨b11, rfl, M⟩
    refine wl_e0 (e_stW 0 M rfl rfl rfl sz25 rfl rfl) rfl ?_
    intro _ w13 M
    simp only [List.set_cons_zero, List.set_cons_succ] at M
    refine wl_m M (q_assign rfl) rfl rfl ?_
    refine wl_nil ?_
    refine wc_seq ?_
    refine wc_region ?_
    refine wl_m M (q_ldbA 2 Tryd.underlying25 rfl sz25 rfl rfl rfl rfl) rfl rfl ?_
    refine wl_m M (q_ldbA 1 Tryd.underlying25 rfl sz25 rfl rfl rfl rfl) rfl rfl ?_
    refine wl_e (e_callC M (compose_c b c (few_big hfb hfc) M.imm ⟨fu2, au2, rfl, (Rf2.mono hJ69), (Ra2.mono hJ69)⟩ ⟨fu3, au3, rfl, (Rf3.mono hJ69), (Ra3.mono hJ69)⟩) Tryd.func12 rfl rfl) rfl rfl ?_
    rintro _ w14 ⟨J75, hJ75, ⟨_, t75, e75, rfl, ⟨fu75, au75, rfl, Rf75, Ra75⟩, hc75⟩, M⟩
    replace hc75 : (t75, e75) = CompS b c := cmp_S hc75
    have hoJ75 := M.old
    refine wl_m M (q_move rfl) rfl rfl ?_
    refine wl_m M (q_ext rfl rfl) rfl rfl ?_
    refine wl_m M (q_ext rfl rfl) rfl rfl ?_
    refine wl_e (e_alloc M z25) rfl rfl ?_
    rintro _ w15 ⟨b13, rfl, M⟩
    refine wl_e0 (e_stW 0 M rfl rfl rfl sz25 rfl rfl) rfl ?_
    intro _ w16 M
    simp only [List.set_cons_zero, List.set_cons_succ] at M
    refine wl_m M (q_assign rfl) rfl rfl ?_
    refine wl_nil ?_
    refine wc_seq ?_
    refine wc_seq ?_
    refine wc_join (α := Unit) [78, 79, 80, 81, 82, 83] (fun _ => [(83, .bool ((!decide (e69 = 0)) || (!decide (e75 = 0))))]) (fun _ w' => Mem w I J75 (box b13 25 [.int .i64 t75.states, .int .i64 t75.start, sv fu75, sv au75] :: box b11 25 [.int .i64 t69.states, .int .i64 t69.start, sv fu69, sv au69] :: box b7 25 [.int .i64 c.states, .int .i64 c.start, sv fu3, sv au3] :: box b6 25 [.int .i64 b.states, .int .i64 b.start, sv fu2, sv au2] :: box b5 25 [.int .i64 a.states, .int .i64 a.start, sv fu1, sv au1] :: []) w') ?_ ?_
    · refine wc_region ?_
      refine wl_m M (q_move rfl) rfl rfl ?_
      refine wl_m M (q_neq rfl rfl) rfl rfl ?_
      refine wl_m M (q_move rfl) rfl rfl ?_
      rcases Bool.eq_false_or_eq_true (!decide (e69 = 0)) with hg80 | hg80
      · refine wl_m M (q_off 2 rfl rfl rfl hg80) rfl rfl ?_
        refine wl_m M (q_off 2 rfl rfl rfl hg80) rfl rfl ?_
        refine wl_m M (q_pickT rfl hg80 rfl) rfl rfl ?_
        refine wl_nil ?_
        exact ⟨(), M, ⟨(show some (Value.bool true) = some (Value.bool ((!decide (e69 = 0)) || (!decide (e75 = 0)))) from by first | (simp only [hg80, Bool.true_or, Bool.false_or, Bool.true_and, Bool.false_and, Bool.or_true, Bool.or_false, Bool.and_true, Bool.and_false]; done) | simp_all), trivial⟩, unw_take 6 rfl rfl⟩
      · refine wl_m M (q_guard 2 rfl rfl rfl hg80 (q_move rfl)) rfl rfl ?_
        refine wl_m M (q_guard 2 rfl rfl rfl hg80 (q_neq rfl rfl)) rfl rfl ?_
        refine wl_m M (q_pickF rfl hg80 rfl) rfl rfl ?_
        refine wl_nil ?_
        exact ⟨(), M, ⟨(show some (Value.bool (!decide (e75 = 0))) = some (Value.bool ((!decide (e69 = 0)) || (!decide (e75 = 0)))) from by first | (simp only [hg80, Bool.true_or, Bool.false_or, Bool.true_and, Bool.false_and, Bool.or_true, Bool.or_false, Bool.and_true, Bool.and_false]; done) | simp_all), trivial⟩, unw_take 6 rfl rfl⟩
    rintro _ jr5 w17 M
    refine wc_cond rfl (fun ht83 => ?_) (fun ht83 => ?_)
    · refine wc_seq ?_
      refine wc_join (α := Unit) [10, 84, 85, 86, 87, 88, 89] (fun _ => [(10, .bool ((decide (e69 = 1)) || (decide (e75 = 1))))]) (fun _ w' => Mem w I J75 (box b13 25 [.int .i64 t75.states, .int .i64 t75.start, sv fu75, sv au75] :: box b11 25 [.int .i64 t69.states, .int .i64 t69.start, sv fu69, sv au69] :: box b7 25 [.int .i64 c.states, .int .i64 c.start, sv fu3, sv au3] :: box b6 25 [.int .i64 b.states, .int .i64 b.start, sv fu2, sv au2] :: box b5 25 [.int .i64 a.states, .int .i64 a.start, sv fu1, sv au1] :: []) w') ?_ ?_
      · refine wc_region ?_
        refine wl_m M (q_move rfl) rfl rfl ?_
        refine wl_m M (q_eql rfl rfl) rfl rfl ?_
        refine wl_m M (q_move rfl) rfl rfl ?_
        rcases Bool.eq_false_or_eq_true (decide (e69 = 1)) with hg86 | hg86
        · refine wl_m M (q_off 2 rfl rfl rfl hg86) rfl rfl ?_
          refine wl_m M (q_off 2 rfl rfl rfl hg86) rfl rfl ?_
          refine wl_m M (q_pickT rfl hg86 rfl) rfl rfl ?_
          refine wl_m M (q_assign rfl) rfl rfl ?_
          refine wl_nil ?_
          exact ⟨(), M, ⟨(show some (Value.bool true) = some (Value.bool ((decide (e69 = 1)) || (decide (e75 = 1)))) from by first | (simp only [hg86, Bool.true_or, Bool.false_or, Bool.true_and, Bool.false_and, Bool.or_true, Bool.or_false, Bool.and_true, Bool.and_false]; done) | simp_all), trivial⟩, unw_take 7 rfl rfl⟩
        · refine wl_m M (q_guard 2 rfl rfl rfl hg86 (q_move rfl)) rfl rfl ?_
          refine wl_m M (q_guard 2 rfl rfl rfl hg86 (q_eql rfl rfl)) rfl rfl ?_
          refine wl_m M (q_pickF rfl hg86 rfl) rfl rfl ?_
          refine wl_m M (q_assign rfl) rfl rfl ?_
          refine wl_nil ?_
          exact ⟨(), M, ⟨(show some (Value.bool (decide (e75 = 1))) = some (Value.bool ((decide (e69 = 1)) || (decide (e75 = 1)))) from by first | (simp only [hg86, Bool.true_or, Bool.false_or, Bool.true_and, Bool.false_and, Bool.or_true, Bool.or_false, Bool.and_true, Bool.and_false]; done) | simp_all), trivial⟩, unw_take 7 rfl rfl⟩
      rintro _ jr6 w18 M
      refine wc_ret ?_
      exact out1 rfl rfl ⟨_, _, rfl, M.grow, by rw [assoc_err hfa hfb hfc hc69 hc75 ht83]⟩
    · obtain ⟨rfl, rfl⟩ : e69 = 0 ∧ e75 = 0 := by simpa using ht83
      refine wc_skip ?_
      refine wc_seq ?_
      refine wc_region ?_
      refine wl_m M (q_ldbA 1 Tryd.underlying25 rfl sz25 rfl rfl rfl rfl) rfl rfl ?_
      refine wl_m M (q_ldbA 2 Tryd.underlying25 rfl sz25 rfl rfl rfl rfl) rfl rfl ?_
      refine wl_m M (q_move rfl) rfl rfl ?_
      refine wl_m M (q_move rfl) rfl rfl ?_
      refine wl_e (e_callC M (through_c t69 c x z (by omega) (by omega) M.imm ((hT.mono hJ69).mono hJ75) ⟨_, _, rfl, (Rf69.mono hJ75), (Ra69.mono hJ75)⟩ ⟨fu3, au3, rfl, ((Rf3.mono hJ69).mono hJ75), ((Ra3.mono hJ69).mono hJ75)⟩) Tryd.func16 rfl rfl) rfl rfl ?_
      rintro _ w19 ⟨J95, hJ95, rfl, M⟩
      replace M := M.less hJ95 hoJ75
      refine wl_m M (q_move rfl) rfl rfl ?_
      refine wl_m M (q_ext rfl rfl) rfl rfl ?_
      refine wl_m M (q_ext rfl rfl) rfl rfl ?_
      refine wl_m M (q_assign rfl) rfl rfl ?_
      refine wl_m M (q_assign rfl) rfl rfl ?_
      refine wl_nil ?_
      refine wc_seq ?_
      refine wc_region ?_
      refine wl_m M (q_ldbA 4 Tryd.underlying25 rfl sz25 rfl rfl rfl rfl) rfl rfl ?_
      refine wl_m M (q_ldbA 0 Tryd.underlying25 rfl sz25 rfl rfl rfl rfl) rfl rfl ?_
      refine wl_m M (q_move rfl) rfl rfl ?_
      refine wl_m M (q_move rfl) rfl rfl ?_
      refine wl_e (e_callC M (through_c a t75 x z (by omega) (by omega) M.imm ((hT.mono hJ69).mono hJ75) ⟨fu1, au1, rfl, ((Rf1.mono hJ69).mono hJ75), ((Ra1.mono hJ69).mono hJ75)⟩ ⟨_, _, rfl, Rf75, Ra75⟩) Tryd.func16 rfl rfl) rfl rfl ?_
      rintro _ w20 ⟨J103, hJ103, rfl, M⟩
      replace M := M.less hJ103 hoJ75
      refine wl_m M (q_move rfl) rfl rfl ?_
      refine wl_m M (q_ext rfl rfl) rfl rfl ?_
      refine wl_m M (q_ext rfl rfl) rfl rfl ?_
      refine wl_m M (q_assign rfl) rfl rfl ?_
      refine wl_m M (q_assign rfl) rfl rfl ?_
      refine wl_nil ?_
      refine wc_seq ?_
      refine wc_join (α := Unit) [10, 106, 107, 108, 109, 110, 111, 112, 113, 114, 115] (fun _ => [(10, .bool ((((thrS t69 c x z).1) == ((thrS a t75 x z).1)) && ((decide (((thrS t69 c x z).2) = 0)) == (decide (((thrS a t75 x z).2) = 0)))))]) (fun _ w' => Mem w I J75 (box b13 25 [.int .i64 t75.states, .int .i64 t75.start, sv fu75, sv au75] :: box b11 25 [.int .i64 t69.states, .int .i64 t69.start, sv fu69, sv au69] :: box b7 25 [.int .i64 c.states, .int .i64 c.start, sv fu3, sv au3] :: box b6 25 [.int .i64 b.states, .int .i64 b.start, sv fu2, sv au2] :: box b5 25 [.int .i64 a.states, .int .i64 a.start, sv fu1, sv au1] :: []) w') ?_ ?_
      · refine wc_region ?_
        refine wl_m M (q_move rfl) rfl rfl ?_
        refine wl_m M (q_move rfl) rfl rfl ?_
        refine wl_m M (q_eqlB Tryd.underlying4 rfl rfl) rfl rfl ?_
        refine wl_m M (q_move rfl) rfl rfl ?_
        rcases Bool.eq_false_or_eq_true (((thrS t69 c x z).1) == ((thrS a t75 x z).1)) with hg109 | hg109
        · refine wl_m M (q_guard 3 rfl rfl rfl hg109 (q_move rfl)) rfl rfl ?_
          refine wl_m M (q_guard 3 rfl rfl rfl hg109 (q_eql rfl rfl)) rfl rfl ?_
          refine wl_m M (q_guard 3 rfl rfl rfl hg109 (q_move rfl)) rfl rfl ?_
          refine wl_m M (q_guard 3 rfl rfl rfl hg109 (q_eql rfl rfl)) rfl rfl ?_
          refine wl_m M (q_guard 3 rfl rfl rfl hg109 (q_eqlB Tryd.underlying4 rfl rfl)) rfl rfl ?_
          refine wl_m M (q_pickT rfl hg109 rfl) rfl rfl ?_
          refine wl_m M (q_assign rfl) rfl rfl ?_
          refine wl_nil ?_
          exact ⟨(), M, ⟨(show some (Value.bool ((decide (((thrS t69 c x z).2) = 0)) == (decide (((thrS a t75 x z).2) = 0)))) = some (Value.bool ((((thrS t69 c x z).1) == ((thrS a t75 x z).1)) && ((decide (((thrS t69 c x z).2) = 0)) == (decide (((thrS a t75 x z).2) = 0))))) from by first | (simp only [hg109, Bool.true_or, Bool.false_or, Bool.true_and, Bool.false_and, Bool.or_true, Bool.or_false, Bool.and_true, Bool.and_false]; done) | simp_all), trivial⟩, unw_take 11 rfl rfl⟩
        · refine wl_m M (q_off 3 rfl rfl rfl hg109) rfl rfl ?_
          refine wl_m M (q_off 3 rfl rfl rfl hg109) rfl rfl ?_
          refine wl_m M (q_off 3 rfl rfl rfl hg109) rfl rfl ?_
          refine wl_m M (q_off 3 rfl rfl rfl hg109) rfl rfl ?_
          refine wl_m M (q_off 3 rfl rfl rfl hg109) rfl rfl ?_
          refine wl_m M (q_pickF rfl hg109 rfl) rfl rfl ?_
          refine wl_m M (q_assign rfl) rfl rfl ?_
          refine wl_nil ?_
          exact ⟨(), M, ⟨(show some (Value.bool false) = some (Value.bool ((((thrS t69 c x z).1) == ((thrS a t75 x z).1)) && ((decide (((thrS t69 c x z).2) = 0)) == (decide (((thrS a t75 x z).2) = 0))))) from by first | (simp only [hg109, Bool.true_or, Bool.false_or, Bool.true_and, Bool.false_and, Bool.or_true, Bool.or_false, Bool.and_true, Bool.and_false]; done) | simp_all), trivial⟩, unw_take 11 rfl rfl⟩
      rintro _ jr9 w21 M
      refine wc_ret ?_
      exact out1 rfl rfl ⟨_, _, rfl, M.grow, by rw [thr_assoc hc69 hc75]; simp⟩
end Go.Proofs.YtmjieefhjmiagaaDoor.G
