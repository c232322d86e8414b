/- Walks of the program's functions. -/
import Derived.Test.YtfepjcmjkaolgaaWSj
import Derived.Test.YtfepjcmjkaolgaaWBa
set_option linter.all false
namespace Go.Proofs.Ytfepjcmjkaolgaa.G
open Go Go.RowKit
set_option maxRecDepth 4000 in
set_option maxHeartbeats 1000000 in
theorem lawValid_c (t : Tra) (x y : ByteArray) (n r : Int) (hx : x.size ≤ 1048576) (hy : y.size ≤ 1048576) {v1 : Value} {I : Heap} {w : World} (hI : hle I (hp w)) (R1 : t.rd I v1) : Calls A 3 #[v1, .string x, .string y, .int .i64 n, .int .i32 r] w (Ret w I fun r _ => r = .bool true) := by
 obtain ⟨fu1, au1, rfl, Rf1, Ra1⟩ := R1
 have M := Mem.start hI
 refine enter Try.func3 rfl 90 Try.ntmps3 [_, _, _, _, _] rfl ?_
 refine wc_seq ?_
 refine wc_region ?_
 refine wl_e (e_box M rfl) rfl rfl ?_
 rintro _ w1 ⟨b5, rfl, M⟩
 refine wl_as M rfl rfl ?_
 refine wl_nil ?_
 refine wc_seq ?_
 refine wc_region ?_
 refine wl_m M (q_ldbA 0 Try.underlying25 rfl sz25 rfl rfl rfl rfl) rfl rfl ?_
 refine wl_e (e_callC M (valid3_c t M.imm ⟨_, _, rfl, Rf1, Ra1⟩) Try.func10 rfl rfl) rfl rfl ?_
 rintro _ w2 ⟨J18, hJ18, rfl, M⟩
 replace M := M.less hJ18 (fun _ _ => rfl)
 refine wl_as M rfl rfl ?_
 refine wl_nil ?_
 refine wc_seq ?_
 refine wc_seq ?_
 refine wc_region ?_
 refine wl_m M (q_ldbA 0 Try.underlying25 rfl sz25 rfl rfl rfl rfl) rfl rfl ?_
 refine wl_e (e_callC M (valid_c t M.imm ⟨_, _, rfl, Rf1, Ra1⟩) Try.func11 rfl rfl) rfl rfl ?_
 rintro _ w3 ⟨J20, hJ20, rfl, M⟩
 replace M := M.less hJ20 (fun _ _ => rfl)
 refine wl_mv M rfl rfl ?_
 refine wl_m M (q_neqB Try.underlying4 rfl rfl) rfl rfl ?_
 refine wl_nil ?_
 refine wc_cond rfl (fun ht22 => ?_) (fun ht22 => ?_)
 ·simp at ht22
 refine wc_skip ?_
 refine wc_seq ?_
 refine wc_seq ?_
 refine wc_region ?_
 refine wl_mv M rfl rfl ?_
 refine wl_nil ?_
 refine wc_cond rfl (fun ht23 => ?_) (fun ht23 => ?_)
 ·refine wc_seq ?_
  refine wc_region ?_
  refine wl_e (e_callC M (awake3_c M.imm) Try.func12 rfl rfl) rfl rfl ?_
  rintro _ w4 ⟨J24, hJ24, rfl, M⟩
  replace M := M.less hJ24 (fun _ _ => rfl)
  refine wl_as M rfl rfl ?_
  refine wl_nil ?_
  refine wc_ret ?_
  exact out1 rfl rfl ⟨_, _, rfl, M.grow, rfl⟩
 have hv := ht23
 have he : emptyS t = true := by rw [emptyS, hv]; rfl
 refine wc_skip ?_
 refine wc_seq ?_
 refine wc_region ?_
 refine wl_m M (q_ldbA 0 Try.underlying25 rfl sz25 rfl rfl rfl rfl) rfl rfl ?_
 refine wl_e (e_callC M (shortest_c t (fun h => by rw [hv] at h; cases h) (fun h => by rw [hv] at h; cases h) (fun h => by rw [he] at h; cases h) M.imm ⟨_, _, rfl, Rf1, Ra1⟩) Try.func13 rfl rfl) rfl rfl ?_
 rintro _ w5 ⟨J27, hJ27, ⟨a_, b_, c_, rfl, hs⟩, M⟩
 obtain ⟨rfl, rfl, rfl⟩ := hs.1 he
 have hoJ27 := M.old
 refine wl_mv M rfl rfl ?_
 refine wl_m M (q_ext rfl rfl) rfl rfl ?_
 refine wl_m M (q_ext rfl rfl) rfl rfl ?_
 refine wl_m M (q_ext rfl rfl) rfl rfl ?_
 refine wl_as M rfl rfl ?_
 refine wl_as M rfl rfl ?_
 refine wl_as M rfl rfl ?_
 refine wl_nil ?_
 refine wc_seq ?_
 refine wc_region ?_
 refine wl_m M (q_ldbA 0 Try.underlying25 rfl sz25 rfl rfl rfl rfl) rfl rfl ?_
 refine wl_mv M rfl rfl ?_
 refine wl_e (e_callC M (outputsBad_c t x 3 hv (by omega) M.imm ⟨_, _, rfl, (Rf1.mono hJ27), (Ra1.mono hJ27)⟩) Try.func14 rfl rfl) rfl rfl ?_
 rintro _ w6 ⟨J34, hJ34, rfl, M⟩
 have R34 : rdSl EStr J34 (sv nilV) ([] : List ByteArray) := rdSl_nil _
 have hoJ34 := M.old
 refine wl_mv M rfl rfl ?_
 refine wl_m M (q_ext rfl rfl) rfl rfl ?_
 refine wl_m M (q_ext rfl rfl) rfl rfl ?_
 refine wl_as M rfl rfl ?_
 refine wl_as M rfl rfl ?_
 refine wl_nil ?_
 refine wc_seq ?_
 refine wc_join (α := Unit) [10, 37, 38, 39, 40, 41, 42, 43, 44, 45, 46, 47, 48, 49, 50, 51, 52, 53, 54, 55, 56, 57, 58, 59, 60, 61, 62, 63, 64, 65, 66, 67, 68, 69, 70, 71, 72, 73, 74, 75, 76, 77, 78, 79, 80, 81, 82, 83, 84, 85, 86, 87, 88, 89] (fun _ => [(10, .bool ((((((((((true && true) && true) && true) && true) && true) && true) && true) && true) && true) && true))]) (fun _ w' => Mem w I J34 (box b5 25 [.int .i64 t.states, .int .i64 t.start, sv fu1, sv au1] :: []) w') ?_ ?_
 ·refine wc_region ?_
  refine wl_e (e_callC M (awake3_c M.imm) Try.func12 rfl rfl) rfl rfl ?_
  rintro _ w7 ⟨J37, hJ37, rfl, M⟩
  replace M := M.less hJ37 hoJ34
  refine wl_mv M rfl rfl ?_
  refine wl_m M (q_guard 1 rfl rfl rfl rfl (q_ldbA 0 Try.underlying25 rfl sz25 rfl rfl rfl rfl)) rfl rfl ?_
  refine wl_m M (q_guard 1 rfl rfl rfl rfl (q_move rfl)) rfl rfl ?_
  refine wl_m M (q_guard 1 rfl rfl rfl rfl (q_move rfl)) rfl rfl ?_
  refine wl_e (e_guard 1 rfl rfl rfl rfl (e_callC M (relatesBad_c t x y hv (by omega) (by omega) M.imm ⟨_, _, rfl, ((Rf1.mono hJ27).mono hJ34), ((Ra1.mono hJ27).mono hJ34)⟩) Try.func15 rfl rfl)) rfl rfl ?_
  rintro _ w8 ⟨J42, hJ42, rfl, M⟩
  replace M := M.less hJ42 hoJ34
  refine wl_m M (q_guard 1 rfl rfl rfl rfl (q_not rfl)) rfl rfl ?_
  refine wl_m M (q_pickT rfl rfl rfl) rfl rfl ?_
  refine wl_mv M rfl rfl ?_
  refine wl_m M (q_guard 8 rfl rfl rfl rfl (q_ldbA 0 Try.underlying25 rfl sz25 rfl rfl rfl rfl)) rfl rfl ?_
  refine wl_e (e_guard 8 rfl rfl rfl rfl (e_callC M (bool_to (show seqS t = false by rw [seqS, hv]; rfl) (sequentialT_c t M.imm ⟨_, _, rfl, ((Rf1.mono hJ27).mono hJ34), ((Ra1.mono hJ27).mono hJ34)⟩)) Try.func16 rfl rfl)) rfl rfl ?_
  rintro _ w9 ⟨J47, hJ47, rfl, M⟩
  replace M := M.less hJ47 hoJ34
  refine wl_m M (q_guard 8 rfl rfl rfl rfl (q_not rfl)) rfl rfl ?_
  refine wl_m M (q_pickT rfl rfl rfl) rfl rfl ?_
  refine wl_mv M rfl rfl ?_
  refine wl_m M (q_guard 13 rfl rfl rfl rfl (q_ldbA 0 Try.underlying25 rfl sz25 rfl rfl rfl rfl)) rfl rfl ?_
  refine wl_e (e_guard 13 rfl rfl rfl rfl (e_callC M (bool_to he (emptyT_c t M.imm ⟨_, _, rfl, ((Rf1.mono hJ27).mono hJ34), ((Ra1.mono hJ27).mono hJ34)⟩)) Try.func17 rfl rfl)) rfl rfl ?_
  rintro _ w10 ⟨J52, hJ52, rfl, M⟩
  replace M := M.less hJ52 hoJ34
  refine wl_m M (q_pickT rfl rfl rfl) rfl rfl ?_
  refine wl_mv M rfl rfl ?_
  refine wl_m M (q_guard 17 rfl rfl rfl rfl (q_ldbA 0 Try.underlying25 rfl sz25 rfl rfl rfl rfl)) rfl rfl ?_
  refine wl_e (e_guard 17 rfl rfl rfl rfl (e_callC M (trimP_c t M.imm ⟨_, _, rfl, ((Rf1.mono hJ27).mono hJ34), ((Ra1.mono hJ27).mono hJ34)⟩) Try.func19 rfl rfl)) rfl rfl ?_
  rintro _ w11 ⟨J56, hJ56, Rt56, M⟩
  rw [trimP_bad (by rw [hv]; rfl)] at Rt56
  obtain ⟨fu56, au56, rfl, Rf56, Ra56⟩ := Rt56
  have hoJ56 := M.old
  refine wl_m M (q_guard 17 rfl rfl rfl rfl (q_build (bd_25) trivial)) rfl rfl ?_
  refine wl_e (e_guard 17 rfl rfl rfl rfl (e_callC M (bool_to (decide_eq_true rfl) (same_c zeroTra zeroTra M.imm ⟨_, _, rfl, Rf56, Ra56⟩ ⟨nilV, nilV, rfl, rdSl_nil _, rdSl_nil _⟩)) Try.func18 rfl rfl)) rfl rfl ?_
  rintro _ w12 ⟨J58, hJ58, rfl, M⟩
  replace M := M.less hJ58 hoJ56
  refine wl_m M (q_pickT rfl rfl rfl) rfl rfl ?_
  refine wl_mv M rfl rfl ?_
  refine wl_m M (q_guard 23 rfl rfl rfl rfl (q_move rfl)) rfl rfl ?_
  refine wl_m M (q_guard 23 rfl rfl rfl rfl (q_eqlS rfl rfl)) rfl rfl ?_
  refine wl_m M (q_pickT rfl rfl rfl) rfl rfl ?_
  refine wl_mv M rfl rfl ?_
  refine wl_m M (q_guard 27 rfl rfl rfl rfl (q_move rfl)) rfl rfl ?_
  refine wl_m M (q_guard 27 rfl rfl rfl rfl (q_eqlS rfl rfl)) rfl rfl ?_
  refine wl_m M (q_pickT rfl rfl rfl) rfl rfl ?_
  refine wl_mv M rfl rfl ?_
  refine wl_m M (q_guard 31 rfl rfl rfl rfl (q_move rfl)) rfl rfl ?_
  refine wl_m M (q_guard 31 rfl rfl rfl rfl (q_not rfl)) rfl rfl ?_
  refine wl_m M (q_pickT rfl rfl rfl) rfl rfl ?_
  refine wl_mv M rfl rfl ?_
  refine wl_m M (q_guard 35 rfl rfl rfl rfl (q_ldbA 0 Try.underlying25 rfl sz25 rfl rfl rfl rfl)) rfl rfl ?_
  refine wl_m M (q_guard 35 rfl rfl rfl rfl (q_move rfl)) rfl rfl ?_
  refine wl_e (e_guard 35 rfl rfl rfl rfl (e_bsI (E := EInt) (xs := [n]) M (bs_22_1 _) ⟨⟨rfl, rfl⟩, trivial⟩ rfl rfl (by decide))) rfl rfl ?_
  rintro _ w13 ⟨u75, J75, rfl, hJ75, R75, M⟩
  have hoJ75 := M.old
  refine wl_m M (q_guard 35 rfl rfl rfl rfl (q_move rfl)) rfl rfl ?_
  refine wl_e (e_guard 35 rfl rfl rfl rfl (e_callC M (stepT_c t [n] r (by simp) M.imm ⟨_, _, rfl, ((((Rf1.mono hJ27).mono hJ34).mono hJ56).mono hJ75), ((((Ra1.mono hJ27).mono hJ34).mono hJ56).mono hJ75)⟩ R75) Try.func20 rfl rfl)) rfl rfl ?_
  rintro v77 w14 ⟨J77, hJ77, ⟨out, R77, hs1, _⟩, M⟩
  obtain rfl := hs1 hv
  obtain ⟨u77, rfl⟩ := rdSl_slice R77
  have hoJ77 := M.old
  refine wl_m M (q_guard 35 rfl rfl rfl rfl (q_lenR R77 Try.underlying22 rfl)) rfl rfl ?_
  refine wl_m M (q_guard 35 rfl rfl rfl rfl (q_eql rfl rfl)) rfl rfl ?_
  refine wl_m M (q_pickT rfl rfl rfl) rfl rfl ?_
  refine wl_mv M rfl rfl ?_
  refine wl_m M (q_guard 44 rfl rfl rfl rfl (q_move rfl)) rfl rfl ?_
  refine wl_m M (q_guard 44 rfl rfl rfl rfl (q_eql rfl rfl)) rfl rfl ?_
  refine wl_m M (q_pickT rfl rfl rfl) rfl rfl ?_
  refine wl_mv M rfl rfl ?_
  refine wl_m M (q_guard 48 rfl rfl rfl rfl (q_move rfl)) rfl rfl ?_
  refine wl_m M (q_guard 48 rfl rfl rfl rfl (q_lenR (((R34.mono hJ56).mono hJ75).mono hJ77) Try.underlying30 rfl)) rfl rfl ?_
  refine wl_m M (q_guard 48 rfl rfl rfl rfl (q_eql rfl rfl)) rfl rfl ?_
  refine wl_m M (q_pickT rfl rfl rfl) rfl rfl ?_
  refine wl_as M rfl rfl ?_
  refine wl_nil ?_
  replace M := M.less (hle.trans (hle.trans hJ56 hJ75) hJ77) hoJ34
  exact ⟨(), M, ⟨rfl, trivial⟩, unw_take 54 rfl rfl⟩
 rintro _ jr8 w15 M
 refine wc_ret ?_
 exact out1 rfl rfl ⟨_, _, rfl, M.grow, rfl⟩
end Go.Proofs.Ytfepjcmjkaolgaa.G
