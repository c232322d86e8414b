/- Walks of the program's functions. -/
import Derived.Test.YtoilmeiikgegcaaDoorWQa
import Derived.Test.YtoilmeiikgegcaaDoorWQb
import Derived.Test.YtoilmeiikgegcaaDoorGRpa
set_option linter.all false
namespace Go.Proofs.YtoilmeiikgegcaaDoor.G
open Go Go.RowKit
set_option maxRecDepth 4000 in
set_option maxHeartbeats 2000000 in
theorem pairs4_c (ps : List SPair) (hps : ps.length ≤ 1000) (hsz : ∀ p ∈ ps, p.x.size ≤ 100000 ∧ p.y.size ≤ 100000) {u : SV} {I : Heap} {w : World} (hI : hle I (hp w)) (R0 : rdSl ESPair I (sv u) ps) :
    Calls A 16 #[sv u] w (Ret w I fun r I' => ∃ v', r = .tuple #[v', .int .i64 (PairsS ps).2] ∧ (PairsS ps).1.rd I' v') := by
 have M := Mem.start hI
 refine enter Tryd.func16 rfl 145 Tryd.ntmps16 [_] rfl ?_
 refine wc_seq ?_
 refine wc_region ?_
 refine wl_e (e_alloc M z29) rfl rfl ?_
 rintro _ w1 ⟨b2, rfl, M⟩
 refine wl_as M rfl rfl ?_
 refine wl_nil ?_
 refine wc_seq ?_
 refine wc_region ?_
 refine wl_m M (q_build (bd_29_0 _) ⟨⟨rfl, rfl⟩, trivial⟩) rfl rfl ?_
 refine wl_e (e_alloc M z29) rfl rfl ?_
 rintro _ w2 ⟨b4, rfl, M⟩
 refine wl_e0 (e_stW 0 M rfl rfl rfl sz29 rfl rfl) rfl ?_
 intro _ w3 M
 simp only [sC0, sCS] at M
 refine wl_nil ?_
 refine wc_seq ?_
 replace M := M.nilRow EInt
 replace M := M.nilRow EArc
 refine wc_region ?_
 refine wl_as M rfl rfl ?_
 replace M := M.nilRow EBool
 refine wl_nil ?_
 refine wc_seq ?_
 refine wc_region ?_
 refine wl_mv M rfl rfl ?_
 refine wl_e (e_bsI (E := EBool) (xs := [false]) M (bs_56_1 _) ⟨⟨rfl, rfl⟩, trivial⟩ rfl rfl (by decide)) rfl rfl ?_
 rintro _ w4 ⟨u21, J21, rfl, hJ21, R21, M⟩
 have hoJ21 := M.old
 refine wl_e (e_app 0 M rfl R21 Tryd.underlying56 rfl rfl (by show (_ + _) * 1 ≤ _; simp only [List.length_cons, List.length_nil]; omega)) rfl rfl ?_
 rintro _ w5 ⟨u22, rfl, M⟩
 replace M := M.less hJ21 (fun _ _ => rfl)
 simp only [sC0, sCS] at M
 refine wl_as M rfl rfl ?_
 refine wl_nil ?_
 refine wc_seq ?_
 refine wc_seq ?_
 refine wc_region ?_
 refine wl_mv M rfl rfl ?_
 refine wl_m M (q_lenR R0 Tryd.underlying22 rfl) rfl rfl ?_
 refine wl_mv M rfl rfl ?_
 refine wl_nil ?_
 refine wc_block ?_
 refine wc_loop (α := Nat × (List Int) × SV × (List Arc) × SV × (List Bool)) [3, 5, 7, 8, 9, 10, 11, 12, 13, 14, 16, 25, 26, 27, 28, 29, 30, 31, 32, 33, 34, 35, 36, 37, 38, 39, 40, 41, 42, 43, 44, 45, 46, 47, 48, 49, 50, 51, 52, 53, 54, 55, 56, 57, 58, 59, 60, 61, 62, 63, 64, 65, 66, 67, 68, 69, 70, 71, 72, 73, 74, 75, 76, 77, 78, 79, 80, 81, 82, 83, 84, 85, 86, 87, 88, 89, 90, 91, 92, 93, 94, 95, 96, 97, 98, 99, 100, 101, 102, 103, 104, 105, 106, 107, 108, 109, 110, 111, 112, 113, 114, 115, 116, 117, 118, 119, 120, 121, 122, 123, 124, 125] (fun ((k0, F0, u_a_0, l_a_0, u_5_0, l_5_0) : Nat × (List Int) × SV × (List Arc) × SV × (List Bool)) => [(25, .int .i64 (k0 : Int)), (5, sv u_5_0)])
   (fun ((k0, F0, u_a_0, l_a_0, u_5_0, l_5_0) : Nat × (List Int) × SV × (List Arc) × SV × (List Bool)) w' => (k0 ≤ ps.length) ∧ ((ps.take k0).all okP = true) ∧ ((l_a_0, F0) = (ps.take k0).foldl tone (([] : List Arc), ([] : List Int))) ∧ (Flg l_5_0 l_a_0.length F0) ∧ (l_a_0.length ≤ k0 * 100000) ∧ Mem w I I (row EBool (sv u_5_0) l_5_0 :: row EArc (sv u_a_0) l_a_0 :: row EInt (sv nilV) [] :: box b4 29 [.int .i64 ((l_a_0.length : Int) + 1), .int .i64 0, sv nilV, sv u_a_0] :: box b2 29 [.int .i64 0, .int .i64 0, .slice none 0 0, .slice none 0 0] :: []) w')
   (fun ((k0, F0, u_a_0, l_a_0, u_5_0, l_5_0) : Nat × (List Int) × SV × (List Arc) × SV × (List Bool)) => ps.length - k0) (0, [], nilV, [], u22, [] ++ [false]) ⟨rfl, rfl, trivial⟩ ?_ ?_
 ·refine ⟨Nat.zero_le _, rfl, rfl, ⟨rfl, fun i => by cases i <;> simp⟩, (by simp), ?_⟩
  exact M
 rintro ⟨k0, F0, u_a_0, l_a_0, u_5_0, l_5_0⟩ jj0 w6 ⟨hk0, hok0, hA, hG0, hlen, M⟩
 refine wc_seq ?_
 refine wc_region ?_
 refine wl_m M (q_lss rfl rfl) rfl rfl ?_
 refine wl_nil ?_
 refine wc_seq ?_
 refine wc_dec rfl (fun ht26 => ?_) (fun ht26 => ?_)
 ·obtain ⟨x0, hx0⟩ : ∃ x_, ps[k0]? = some x_ := ⟨_, List.getElem?_eq_getElem (by omega)⟩
  have hll0 := (R0).len_le
  have hsx0 := hsz x0 (List.mem_of_getElem? hx0)
  have hlx := runesL_le x0.x
  have hly := runesL_le x0.y
  refine wc_skip ?_
  refine wc_seq ?_
  refine wc_block ?_
  refine wc_seq ?_
  refine wc_region ?_
  refine wl_ix (j := k0) M R0 Tryd.underlying22 rfl rfl hx0 rfl (fun b27 o27 p27 => ?_)
  refine wl_m M (q_ldp p27 rfl rfl) rfl rfl ?_
  refine wl_e (e_alloc M z25) rfl rfl ?_
  rintro _ w7 ⟨b7, rfl, M⟩
  refine wl_e0 (e_stW 0 M rfl rfl rfl sz25 rfl rfl) rfl ?_
  intro _ w8 M
  simp only [sC0, sCS] at M
  refine wl_nil ?_
  refine wc_seq ?_
  refine wc_seq ?_
  refine wc_join (α := Unit) [29, 30, 31, 32, 33, 34, 35, 36, 37, 38] (fun _ => [(38, .bool ((!(okT x0.x)) || (!(okT x0.y))))]) (fun _ w' => Mem w I I (box b7 25 [.string x0.x, .string x0.y] :: row EBool (sv u_5_0) l_5_0 :: row EArc (sv u_a_0) l_a_0 :: row EInt (sv nilV) [] :: box b4 29 [.int .i64 ((l_a_0.length : Int) + 1), .int .i64 0, sv nilV, sv u_a_0] :: box b2 29 [.int .i64 0, .int .i64 0, .slice none 0 0, .slice none 0 0] :: []) w') ?_ ?_
  ·refine wc_region ?_
   refine wl_m M (q_ia (i := 0) Tryd.underlying25 sz9 rfl rfl (by decide)) rfl rfl ?_
   refine wl_m M (q_ldb 0 Tryd.underlying9 rfl rfl rfl rfl) rfl rfl ?_
   refine wl_e (e_callC M (text4_c x0.x (by omega) M.imm) Tryd.func44 rfl rfl) rfl rfl ?_
   rintro _ w9 ⟨J31, hJ31, rfl, M⟩
   replace M := M.less hJ31 (fun _ _ => rfl)
   refine wl_m M (q_not rfl) rfl rfl ?_
   refine wl_mv M rfl rfl ?_
   rcases Bool.eq_false_or_eq_true (!(okT x0.x)) with hg33 | hg33
   ·refine wl_m M (q_off 4 rfl rfl rfl hg33) rfl rfl ?_
    refine wl_m M (q_off 4 rfl rfl rfl hg33) rfl rfl ?_
    refine wl_m M (q_off 4 rfl rfl rfl hg33) rfl rfl ?_
    refine wl_m M (q_off 4 rfl rfl rfl hg33) rfl rfl ?_
    refine wl_m M (q_pickT rfl hg33 rfl) rfl rfl ?_
    refine wl_nil ?_
    exact ⟨(), M, ⟨(show some (Value.bool true) = some (Value.bool ((!(okT x0.x)) || (!(okT x0.y)))) from by first | (simp only [hg33, Bool.true_or, Bool.false_or, Bool.true_and, Bool.false_and, Bool.or_true, Bool.or_false, Bool.and_true, Bool.and_false]; done) | simp_all), trivial⟩, unw_take 10 rfl rfl⟩
   refine wl_m M (q_guard 4 rfl rfl rfl hg33 (q_ia (i := 1) Tryd.underlying25 sz9 rfl rfl (by decide))) rfl rfl ?_
   refine wl_m M (q_guard 4 rfl rfl rfl hg33 (q_ldb 0 Tryd.underlying9 rfl rfl rfl rfl)) rfl rfl ?_
   refine wl_e (e_guard 4 rfl rfl rfl hg33 (e_callC M (text4_c x0.y (by omega) M.imm) Tryd.func44 rfl rfl)) rfl rfl ?_
   rintro _ w10 ⟨J36, hJ36, rfl, M⟩
   replace M := M.less hJ36 (fun _ _ => rfl)
   refine wl_m M (q_guard 4 rfl rfl rfl hg33 (q_not rfl)) rfl rfl ?_
   refine wl_m M (q_pickF rfl hg33 rfl) rfl rfl ?_
   refine wl_nil ?_
   exact ⟨(), M, ⟨(show some (Value.bool (!(okT x0.y))) = some (Value.bool ((!(okT x0.x)) || (!(okT x0.y)))) from by first | (simp only [hg33, Bool.true_or, Bool.false_or, Bool.true_and, Bool.false_and, Bool.or_true, Bool.or_false, Bool.and_true, Bool.and_false]; done) | simp_all), trivial⟩, unw_take 10 rfl rfl⟩
  rintro _ jr7 w11 M
  refine wc_cond rfl (fun ht38 => ?_) (fun ht38 => ?_)
  ·refine wc_seq ?_
   refine wc_region ?_
   refine wl_m M (q_build (bd_29) trivial) rfl rfl ?_
   refine wl_e0 (e_stW 5 M rfl rfl rfl sz29 rfl rfl) rfl ?_
   intro _ w12 M
   simp only [sC0, sCS] at M
   refine wl_as M rfl rfl ?_
   refine wl_nil ?_
   refine wc_ret ?_
   exact outc2 rfl rfl (load_boxA M 5 Tryd.underlying29 rfl sz29 rfl rfl rfl) rfl ⟨_, _, rfl, M.grow, _, by rw [pairs_bad hx0 (okT_bad2 ht38)], by rw [pairs_bad hx0 (okT_bad2 ht38)]; exact ⟨nilV, nilV, rfl, rdSl_nil _, rdSl_nil _⟩⟩
  refine wc_skip ?_
  refine wc_seq ?_
  refine wc_join (α := Heap × SV × SV) [8, 9, 40, 41, 42, 43, 44, 45] (fun ((I6, u42, u45) : Heap × SV × SV) => [(8, sv u42), (9, sv u45)]) (fun ((I6, u42, u45) : Heap × SV × SV) w' => hle I I6 ∧ rdSl ERune I6 (sv u42) (runesL x0.x) ∧ rdSl ERune I6 (sv u45) (runesL x0.y) ∧ Mem w I I6 (box b7 25 [.string x0.x, .string x0.y] :: row EBool (sv u_5_0) l_5_0 :: row EArc (sv u_a_0) l_a_0 :: row EInt (sv nilV) [] :: box b4 29 [.int .i64 ((l_a_0.length : Int) + 1), .int .i64 0, sv nilV, sv u_a_0] :: box b2 29 [.int .i64 0, .int .i64 0, .slice none 0 0, .slice none 0 0] :: []) w') ?_ ?_
  ·refine wc_draws (fun w' => Mem w I I (box b7 25 [.string x0.x, .string x0.y] :: row EBool (sv u_5_0) l_5_0 :: row EArc (sv u_a_0) l_a_0 :: row EInt (sv nilV) [] :: box b4 29 [.int .i64 ((l_a_0.length : Int) + 1), .int .i64 0, sv nilV, sv u_a_0] :: box b2 29 [.int .i64 0, .int .i64 0, .slice none 0 0, .slice none 0 0] :: []) w' ∧ True) [] fol ?_
   replace M := M.drew
   have hS := (⟨M, trivial⟩ : _ ∧ _)
   refine wa_q 0 rfl (by kernel_rfl) (q_ia (i := 0) Tryd.underlying25 sz9 rfl rfl (by decide)) hS rfl rfl ?_
   refine wa_q 1 rfl (by kernel_rfl) ((q_ldb 0 Tryd.underlying9 rfl rfl rfl rfl).mono fun _ h => h.1) hS rfl rfl ?_
   refine wa_q 3 rfl (by kernel_rfl) (q_ia (i := 1) Tryd.underlying25 sz9 rfl rfl (by decide)) hS rfl rfl ?_
   refine wa_q 4 rfl (by kernel_rfl) ((q_ldb 0 Tryd.underlying9 rfl rfl rfl rfl).mono fun _ h => h.1) hS rfl rfl ?_
   refine wa_es [2, 5] (by kernel_rfl) (by decide) ⟨?_, ?_, trivial⟩
   ·refine one_e 2 rfl (e_cvRI (E := ERune) (s := x0.x) M (fun _ => rfl) Tryd.underlying9 Tryd.underlying47 Tryd.underlying21 (by omega) rfl) rfl rfl ?_
    rintro v42 w13 ⟨J42, hJ42, R42, M⟩
    obtain ⟨u42, rfl⟩ := rdSl_slice R42
    have hoJ42 := M.old
    have hS := (⟨(M.less hJ42 (fun _ _ => rfl)), trivial⟩ : _ ∧ _)
    refine ⟨fun _ => hS, ?_⟩
    replace R42 : rdSl ERune J42 (sv u42) (runesL x0.x) := R42
    refine wa_q 6 rfl (by kernel_rfl) (q_assign rfl) hS rfl rfl ?_
    refine wa_e 5 rfl (by kernel_rfl) (e_cvRI (E := ERune) (s := x0.y) M (fun _ => rfl) Tryd.underlying9 Tryd.underlying47 Tryd.underlying21 (by omega) rfl) rfl rfl ?_
    rintro v45 w14 ⟨J45, hJ45, R45, M⟩
    obtain ⟨u45, rfl⟩ := rdSl_slice R45
    have hoJ45 := M.old
    have hS := (⟨(M.less (hle.trans hJ42 hJ45) (fun _ _ => rfl)), trivial⟩ : _ ∧ _)
    refine ⟨fun _ => hS, ?_⟩
    replace R45 : rdSl ERune J45 (sv u45) (runesL x0.y) := R45
    refine wa_q 7 rfl (by kernel_rfl) (q_assign rfl) hS rfl rfl ?_
    refine wa_done (by kernel_rfl) ?_
    exact ⟨(J45, u42, u45), ⟨(hle.trans hJ42 hJ45), (R42.mono hJ45), R45, M⟩, ⟨rfl, rfl, trivial⟩, unw_take 8 rfl rfl⟩
   ·refine one_e 5 rfl (e_cvRI (E := ERune) (s := x0.y) M (fun _ => rfl) Tryd.underlying9 Tryd.underlying47 Tryd.underlying21 (by omega) rfl) rfl rfl ?_
    rintro v45 w15 ⟨J45, hJ45, R45, M⟩
    obtain ⟨u45, rfl⟩ := rdSl_slice R45
    have hoJ45 := M.old
    have hS := (⟨(M.less hJ45 (fun _ _ => rfl)), trivial⟩ : _ ∧ _)
    refine ⟨fun _ => hS, ?_⟩
    replace R45 : rdSl ERune J45 (sv u45) (runesL x0.y) := R45
    refine wa_e 2 rfl (by kernel_rfl) (e_cvRI (E := ERune) (s := x0.x) M (fun _ => rfl) Tryd.underlying9 Tryd.underlying47 Tryd.underlying21 (by omega) rfl) rfl rfl ?_
    rintro v42 w16 ⟨J42, hJ42, R42, M⟩
    obtain ⟨u42, rfl⟩ := rdSl_slice R42
    have hoJ42 := M.old
    have hS := (⟨(M.less (hle.trans hJ45 hJ42) (fun _ _ => rfl)), trivial⟩ : _ ∧ _)
    refine ⟨fun _ => hS, ?_⟩
    replace R42 : rdSl ERune J42 (sv u42) (runesL x0.x) := R42
    refine wa_q 6 rfl (by kernel_rfl) (q_assign rfl) hS rfl rfl ?_
    refine wa_q 7 rfl (by kernel_rfl) (q_assign rfl) hS rfl rfl ?_
    refine wa_done (by kernel_rfl) ?_
    exact ⟨(J42, u42, u45), ⟨(hle.trans hJ45 hJ42), R42, (R45.mono hJ42), M⟩, ⟨rfl, rfl, trivial⟩, unw_take 8 rfl rfl⟩
  rintro ⟨I6, u42, u45⟩ jr9 w17 ⟨hI6, R42, R45, M⟩
  have hoI6 := M.old
  refine wc_seq ?_
  refine wc_region ?_
  refine wl_as M rfl rfl ?_
  refine wl_nil ?_
  refine wc_seq ?_
  refine wc_seq ?_
  refine wc_region ?_
  refine wl_as M rfl rfl ?_
  refine wl_nil ?_
  refine wc_block ?_
  refine wc_loop (α := Nat × Int × SV × (List Arc) × SV × (List Bool)) [5, 10, 11, 12, 13, 14, 16, 46, 47, 48, 49, 50, 51, 52, 53, 54, 55, 56, 57, 58, 59, 60, 61, 62, 63, 64, 65, 66, 67, 68, 69, 70, 71, 72, 73, 74, 75, 76, 77, 78, 79, 80, 81, 82, 83, 84, 85, 86, 87, 88, 89, 90, 91, 92, 93, 94, 95, 96, 97, 98, 99, 100, 101, 102, 103, 104, 105, 106, 107, 108, 109, 110, 111, 112, 113, 114, 115, 116, 117, 118, 119, 120, 121] (fun ((i2, at2, u_a_2, l_a_2, u_5_2, l_5_2) : Nat × Int × SV × (List Arc) × SV × (List Bool)) => [(11, .int .i64 (i2 : Int)), (10, .int .i64 at2), (5, sv u_5_2)])
    (fun ((i2, at2, u_a_2, l_a_2, u_5_2, l_5_2) : Nat × Int × SV × (List Arc) × SV × (List Bool)) w' => (i2 ≤ max (runesL x0.x).length (runesL x0.y).length) ∧ ((l_a_2, at2) = ((zipL (runesL x0.x) (runesL x0.y)).take i2).foldl tstep (l_a_0, 0)) ∧ (Flg l_5_2 l_a_2.length F0) ∧ (l_a_2.length ≤ k0 * 100000 + i2) ∧ Mem w I I6 (box b7 25 [.string x0.x, .string x0.y] :: row EBool (sv u_5_2) l_5_2 :: row EArc (sv u_a_2) l_a_2 :: row EInt (sv nilV) [] :: box b4 29 [.int .i64 ((l_a_2.length : Int) + 1), .int .i64 0, sv nilV, sv u_a_2] :: box b2 29 [.int .i64 0, .int .i64 0, .slice none 0 0, .slice none 0 0] :: []) w')
    (fun ((i2, at2, u_a_2, l_a_2, u_5_2, l_5_2) : Nat × Int × SV × (List Arc) × SV × (List Bool)) => (max (runesL x0.x).length (runesL x0.y).length) - i2) (0, 0, u_a_0, l_a_0, u_5_0, l_5_0) ⟨rfl, rfl, rfl, trivial⟩ ?_ ?_
  ·refine ⟨(by omega), rfl, hG0, (Nat.le_trans hlen (Nat.le_add_right _ _)), ?_⟩
   exact M
  rintro ⟨i2, at2, u_a_2, l_a_2, u_5_2, l_5_2⟩ jj2 w18 ⟨hi2, hW, hG, hlen2, M⟩
  have hoI6 := M.old
  refine wc_seq ?_
  refine wc_seq ?_
  refine wc_join (α := Unit) [46, 47, 48, 49, 50, 51, 52, 53, 54, 55] (fun _ => [(55, .bool ((decide ((i2 : Int) < ((runesL x0.x).length : Int))) || (decide ((i2 : Int) < ((runesL x0.y).length : Int)))))]) (fun _ w' => Mem w I I6 (box b7 25 [.string x0.x, .string x0.y] :: row EBool (sv u_5_2) l_5_2 :: row EArc (sv u_a_2) l_a_2 :: row EInt (sv nilV) [] :: box b4 29 [.int .i64 ((l_a_2.length : Int) + 1), .int .i64 0, sv nilV, sv u_a_2] :: box b2 29 [.int .i64 0, .int .i64 0, .slice none 0 0, .slice none 0 0] :: []) w') ?_ ?_
  ·refine wc_region ?_
   refine wl_mv M rfl rfl ?_
   refine wl_mv M rfl rfl ?_
   refine wl_m M (q_lenR R42 Tryd.underlying47 rfl) rfl rfl ?_
   refine wl_m M (q_lss rfl rfl) rfl rfl ?_
   refine wl_mv M rfl rfl ?_
   rcases Bool.eq_false_or_eq_true (decide ((i2 : Int) < ((runesL x0.x).length : Int))) with hg50 | hg50
   ·refine wl_m M (q_off 4 rfl rfl rfl hg50) rfl rfl ?_
    refine wl_m M (q_off 4 rfl rfl rfl hg50) rfl rfl ?_
    refine wl_m M (q_off 4 rfl rfl rfl hg50) rfl rfl ?_
    refine wl_m M (q_off 4 rfl rfl rfl hg50) rfl rfl ?_
    refine wl_m M (q_pickT rfl hg50 rfl) rfl rfl ?_
    refine wl_nil ?_
    exact ⟨(), M, ⟨(show some (Value.bool true) = some (Value.bool ((decide ((i2 : Int) < ((runesL x0.x).length : Int))) || (decide ((i2 : Int) < ((runesL x0.y).length : Int))))) from by first | (simp only [hg50, Bool.true_or, Bool.false_or, Bool.true_and, Bool.false_and, Bool.or_true, Bool.or_false, Bool.and_true, Bool.and_false]; done) | simp_all), trivial⟩, unw_take 10 rfl rfl⟩
   refine wl_m M (q_guard 4 rfl rfl rfl hg50 (q_move rfl)) rfl rfl ?_
   refine wl_m M (q_guard 4 rfl rfl rfl hg50 (q_move rfl)) rfl rfl ?_
   refine wl_m M (q_guard 4 rfl rfl rfl hg50 (q_lenR R45 Tryd.underlying47 rfl)) rfl rfl ?_
   refine wl_m M (q_guard 4 rfl rfl rfl hg50 (q_lss rfl rfl)) rfl rfl ?_
   refine wl_m M (q_pickF rfl hg50 rfl) rfl rfl ?_
   refine wl_nil ?_
   exact ⟨(), M, ⟨(show some (Value.bool (decide ((i2 : Int) < ((runesL x0.y).length : Int)))) = some (Value.bool ((decide ((i2 : Int) < ((runesL x0.x).length : Int))) || (decide ((i2 : Int) < ((runesL x0.y).length : Int))))) from by first | (simp only [hg50, Bool.true_or, Bool.false_or, Bool.true_and, Bool.false_and, Bool.or_true, Bool.or_false, Bool.and_true, Bool.and_false]; done) | simp_all), trivial⟩, unw_take 10 rfl rfl⟩
  rintro _ jr12 w19 M
  refine wc_cond rfl (fun ht55 => ?_) (fun ht55 => ?_)
  ·have hk2x : i2 < max (runesL x0.x).length (runesL x0.y).length := by simp at ht55; omega
   obtain ⟨hku, hto2, hat, hds, hll2⟩ := mid_ok hA hW
   have hFr : ∀ f ∈ F0, f ≤ (l_a_2.length : Int) := fun f hf => by
     have h := tries_ok (ps.take k0) (s := (([] : List Arc), ([] : List Int))) ⟨fun x hx => (by simp at hx), by simp⟩
     rw [← hA] at h
     have := h.2 f hf
     simp only [] at this
     omega
   refine wc_skip ?_
   refine wc_seq ?_
   refine wc_block ?_
   refine wc_seq ?_
   refine wc_region ?_
   refine wl_as M rfl rfl ?_
   refine wl_as M rfl rfl ?_
   refine wl_nil ?_
   refine wc_seq ?_
   refine wc_seq ?_
   refine wc_region ?_
   refine wl_mv M rfl rfl ?_
   refine wl_mv M rfl rfl ?_
   refine wl_m M (q_lenR R42 Tryd.underlying47 rfl) rfl rfl ?_
   refine wl_m M (q_lss rfl rfl) rfl rfl ?_
   refine wl_nil ?_
   refine wc_dec rfl (fun ht61 => ?_) (fun ht61 => ?_)
   ·refine wc_region ?_
    refine wl_mv M rfl rfl ?_
    refine wl_mv M rfl rfl ?_
    refine wl_ix (j := i2) M R42 Tryd.underlying47 rfl (ixe (by omega)) (getD_at (d := 0) (by omega)) rfl (fun b64 o64 p64 => ?_)
    refine wl_m M (q_ldp p64 rfl rfl) rfl rfl ?_
    refine wl_as M rfl rfl ?_
    refine wl_nil ?_
    refine wc_seq ?_
    refine wc_seq ?_
    refine wc_region ?_
    refine wl_mv M rfl rfl ?_
    refine wl_mv M rfl rfl ?_
    refine wl_m M (q_lenR R45 Tryd.underlying47 rfl) rfl rfl ?_
    refine wl_m M (q_lss rfl rfl) rfl rfl ?_
    refine wl_nil ?_
    refine wc_dec rfl (fun ht69 => ?_) (fun ht69 => ?_)
    ·refine wc_region ?_
     refine wl_mv M rfl rfl ?_
     refine wl_mv M rfl rfl ?_
     refine wl_ix (j := i2) M R45 Tryd.underlying47 rfl (ixe (by omega)) (getD_at (d := 0) (by omega)) rfl (fun b72 o72 p72 => ?_)
     refine wl_m M (q_ldp p72 rfl rfl) rfl rfl ?_
     refine wl_as M rfl rfl ?_
     refine wl_nil ?_
     refine wc_seq ?_
     refine wc_region ?_
     refine wl_as M rfl rfl ?_
     refine wl_nil ?_
     refine wc_seq ?_
     refine wc_seq ?_
     refine wc_region ?_
     refine wl_m M (q_fa fo_29_3 rfl) rfl rfl ?_
     refine wl_m M (q_ldb 4 Tryd.underlying27 rfl rfl rfl rfl) rfl rfl ?_
     refine wl_m M (q_lenr 2 M rfl Tryd.underlying27 rfl) rfl rfl ?_
     refine wl_mv M rfl rfl ?_
     refine wl_nil ?_
     refine wc_block ?_
     refine wc_loop (α := Nat × Int) [14, 16, 77, 78, 79, 80, 81, 82, 83, 84, 85, 86, 87, 88, 89, 90, 91, 92, 93, 94, 95, 96, 97, 98, 99] (fun ((k4, nx4) : Nat × Int) => [(14, .int .i64 nx4), (77, .int .i64 (k4 : Int))])
       (fun ((k4, nx4) : Nat × Int) w' => (k4 ≤ l_a_2.length) ∧ (nx4 = lastD (l_a_2.take k4) at2 ((runesL x0.x).getD i2 0) ((runesL x0.y).getD i2 0)) ∧ Mem w I I6 (box b7 25 [.string x0.x, .string x0.y] :: row EBool (sv u_5_2) l_5_2 :: row EArc (sv u_a_2) l_a_2 :: row EInt (sv nilV) [] :: box b4 29 [.int .i64 ((l_a_2.length : Int) + 1), .int .i64 0, sv nilV, sv u_a_2] :: box b2 29 [.int .i64 0, .int .i64 0, .slice none 0 0, .slice none 0 0] :: []) w')
       (fun ((k4, nx4) : Nat × Int) => l_a_2.length - k4) (0, -1) ⟨rfl, rfl, trivial⟩ ?_ ?_
     ·refine ⟨Nat.zero_le _, rfl, ?_⟩
      exact M
     rintro ⟨k4, nx4⟩ jj4 w20 ⟨hk4, hs4, M⟩
     have hoI6 := M.old
     refine wc_seq ?_
     refine wc_region ?_
     refine wl_m M (q_lss rfl rfl) rfl rfl ?_
     refine wl_nil ?_
     refine wc_seq ?_
     refine wc_dec rfl (fun ht78 => ?_) (fun ht78 => ?_)
     ·obtain ⟨x4, hx4⟩ : ∃ x_, l_a_2[k4]? = some x_ := ⟨_, List.getElem?_eq_getElem (by omega)⟩
      refine wc_skip ?_
      refine wc_seq ?_
      refine wc_block ?_
      refine wc_seq ?_
      refine wc_region ?_
      refine wl_ixr (j := k4) 2 M rfl Tryd.underlying27 rfl rfl hx4 rfl (fun b79 o79 p79 => ?_)
      refine wl_m M (q_ldp p79 rfl rfl) rfl rfl ?_
      refine wl_e (e_alloc M z52) rfl rfl ?_
      rintro _ w21 ⟨b16, rfl, M⟩
      refine wl_e0 (e_stW 0 M rfl rfl rfl sz52 rfl rfl) rfl ?_
      intro _ w22 M
      simp only [sC0, sCS] at M
      refine wl_nil ?_
      refine wc_seq ?_
      refine wc_join (α := Unit) [81, 82, 83, 84, 85, 86, 87, 88, 89, 90, 91, 92, 93, 94, 95, 96] (fun _ => [(96, .bool (((decide (x4.src = at2)) && (decide (x4.inp = ((runesL x0.x).getD i2 0)))) && (decide (x4.out = ((runesL x0.y).getD i2 0)))))]) (fun _ w' => Mem w I I6 (box b16 52 [.int .i64 x4.src, .int .i64 x4.dst, .int .i32 x4.inp, .int .i32 x4.out] :: box b7 25 [.string x0.x, .string x0.y] :: row EBool (sv u_5_2) l_5_2 :: row EArc (sv u_a_2) l_a_2 :: row EInt (sv nilV) [] :: box b4 29 [.int .i64 ((l_a_2.length : Int) + 1), .int .i64 0, sv nilV, sv u_a_2] :: box b2 29 [.int .i64 0, .int .i64 0, .slice none 0 0, .slice none 0 0] :: []) w') ?_ ?_
      ·refine wc_region ?_
       refine wl_m M (q_fa fo_52_0 rfl) rfl rfl ?_
       refine wl_m M (q_ldb 0 Tryd.underlying3 rfl rfl rfl rfl) rfl rfl ?_
       refine wl_mv M rfl rfl ?_
       refine wl_m M (q_eql rfl rfl) rfl rfl ?_
       refine wl_mv M rfl rfl ?_
       rcases Bool.eq_false_or_eq_true (decide (x4.src = at2)) with hg85 | hg85
       ·refine wl_m M (q_guard 4 rfl rfl rfl hg85 (q_fa fo_52_2 rfl)) rfl rfl ?_
        refine wl_m M (q_guard 4 rfl rfl rfl hg85 (q_ldb 0 Tryd.underlying21 rfl rfl rfl rfl)) rfl rfl ?_
        refine wl_m M (q_guard 4 rfl rfl rfl hg85 (q_move rfl)) rfl rfl ?_
        refine wl_m M (q_guard 4 rfl rfl rfl hg85 (q_eql rfl rfl)) rfl rfl ?_
        refine wl_m M (q_pickT rfl hg85 rfl) rfl rfl ?_
        refine wl_mv M rfl rfl ?_
        rcases Bool.eq_false_or_eq_true (decide (x4.inp = ((runesL x0.x).getD i2 0))) with hg91 | hg91
        ·refine wl_m M (q_guard 10 rfl rfl rfl hg91 (q_fa fo_52_3 rfl)) rfl rfl ?_
         refine wl_m M (q_guard 10 rfl rfl rfl hg91 (q_ldb 0 Tryd.underlying21 rfl rfl rfl rfl)) rfl rfl ?_
         refine wl_m M (q_guard 10 rfl rfl rfl hg91 (q_move rfl)) rfl rfl ?_
         refine wl_m M (q_guard 10 rfl rfl rfl hg91 (q_eql rfl rfl)) rfl rfl ?_
         refine wl_m M (q_pickT rfl hg91 rfl) rfl rfl ?_
         refine wl_nil ?_
         exact ⟨(), M, ⟨(show some (Value.bool (decide (x4.out = ((runesL x0.y).getD i2 0)))) = some (Value.bool (((decide (x4.src = at2)) && (decide (x4.inp = ((runesL x0.x).getD i2 0)))) && (decide (x4.out = ((runesL x0.y).getD i2 0))))) from by first | (simp only [hg85, hg91, Bool.true_or, Bool.false_or, Bool.true_and, Bool.false_and, Bool.or_true, Bool.or_false, Bool.and_true, Bool.and_false]; done) | simp_all), trivial⟩, unw_take 16 rfl rfl⟩
        refine wl_m M (q_off 10 rfl rfl rfl hg91) rfl rfl ?_
        refine wl_m M (q_off 10 rfl rfl rfl hg91) rfl rfl ?_
        refine wl_m M (q_off 10 rfl rfl rfl hg91) rfl rfl ?_
        refine wl_m M (q_off 10 rfl rfl rfl hg91) rfl rfl ?_
        refine wl_m M (q_pickF rfl hg91 rfl) rfl rfl ?_
        refine wl_nil ?_
        exact ⟨(), M, ⟨(show some (Value.bool false) = some (Value.bool (((decide (x4.src = at2)) && (decide (x4.inp = ((runesL x0.x).getD i2 0)))) && (decide (x4.out = ((runesL x0.y).getD i2 0))))) from by first | (simp only [hg85, hg91, Bool.true_or, Bool.false_or, Bool.true_and, Bool.false_and, Bool.or_true, Bool.or_false, Bool.and_true, Bool.and_false]; done) | simp_all), trivial⟩, unw_take 16 rfl rfl⟩
       refine wl_m M (q_off 4 rfl rfl rfl hg85) rfl rfl ?_
       refine wl_m M (q_off 4 rfl rfl rfl hg85) rfl rfl ?_
       refine wl_m M (q_off 4 rfl rfl rfl hg85) rfl rfl ?_
       refine wl_m M (q_off 4 rfl rfl rfl hg85) rfl rfl ?_
       refine wl_m M (q_pickF rfl hg85 rfl) rfl rfl ?_
       refine wl_mv M rfl rfl ?_
       refine wl_m M (q_off 10 rfl rfl rfl rfl) rfl rfl ?_
       refine wl_m M (q_off 10 rfl rfl rfl rfl) rfl rfl ?_
       refine wl_m M (q_off 10 rfl rfl rfl rfl) rfl rfl ?_
       refine wl_m M (q_off 10 rfl rfl rfl rfl) rfl rfl ?_
       refine wl_m M (q_pickF rfl rfl rfl) rfl rfl ?_
       refine wl_nil ?_
       exact ⟨(), M, ⟨(show some (Value.bool false) = some (Value.bool (((decide (x4.src = at2)) && (decide (x4.inp = ((runesL x0.x).getD i2 0)))) && (decide (x4.out = ((runesL x0.y).getD i2 0))))) from by first | (simp only [hg85, Bool.true_or, Bool.false_or, Bool.true_and, Bool.false_and, Bool.or_true, Bool.or_false, Bool.and_true, Bool.and_false]; done) | simp_all), trivial⟩, unw_take 16 rfl rfl⟩
      rintro _ jr23 w23 M
      refine wc_cond rfl (fun ht96 => ?_) (fun ht96 => ?_)
      ·refine wc_region ?_
       refine wl_m M (q_fa fo_52_1 rfl) rfl rfl ?_
       refine wl_m M (q_ldb 0 Tryd.underlying3 rfl rfl rfl rfl) rfl rfl ?_
       refine wl_as M rfl rfl ?_
       refine wl_nil ?_
       refine wc_region ?_
       refine wl_m M (q_add rfl rfl (IntWalk.i64_in _ (by omega))) rfl rfl ?_
       refine wl_mv M rfl rfl ?_
       refine wl_nil ?_
       replace M := M.drop 0
       refine ⟨(k4 + 1, x4.dst), ?_, ⟨(by omega), (by rw [lastD_snoc hx4]; exact (if_pos ht96).symm), M⟩, ⟨rfl, rfl, trivial⟩, unw_look rfl (unw_hav rfl (unw_look rfl unw_base))⟩
       show l_a_2.length - (k4 + 1) < l_a_2.length - k4
       omega
      refine wc_skip ?_
      refine wc_region ?_
      refine wl_m M (q_add rfl rfl (IntWalk.i64_in _ (by omega))) rfl rfl ?_
      refine wl_mv M rfl rfl ?_
      refine wl_nil ?_
      replace M := M.drop 0
      refine ⟨(k4 + 1, nx4), ?_, ⟨(by omega), (by rw [lastD_snoc hx4, if_neg (by rw [hitB, ht96]; decide)]; exact hs4), M⟩, ⟨rfl, rfl, trivial⟩, unw_look rfl (unw_hav rfl (unw_look rfl unw_base))⟩
      show l_a_2.length - (k4 + 1) < l_a_2.length - k4
      omega
     have hke4 : k4 = l_a_2.length := by omega
     rw [hke4, List.take_length] at hs4
     refine wc_exit rfl ?_
     refine wc_seq ?_
     refine wc_seq ?_
     refine wc_region ?_
     refine wl_mv M rfl rfl ?_
     refine wl_m M (q_lss rfl rfl) rfl rfl ?_
     refine wl_nil ?_
     refine wc_dec rfl (fun ht101 => ?_) (fun ht101 => ?_)
     ·refine wc_seq ?_
      refine wc_region ?_
      refine wl_m M (q_fa fo_29_0 rfl) rfl rfl ?_
      refine wl_m M (q_ldb 4 Tryd.underlying3 rfl rfl rfl rfl) rfl rfl ?_
      refine wl_as M rfl rfl ?_
      refine wl_nil ?_
      refine wc_seq ?_
      refine wc_region ?_
      refine wl_m M (q_fa fo_29_0 rfl) rfl rfl ?_
      refine wl_m M (q_ldb 4 Tryd.underlying3 rfl rfl rfl rfl) rfl rfl ?_
      refine wl_m M (q_add rfl rfl (IntWalk.i64_in _ (by omega))) rfl rfl ?_
      refine wl_m M (q_fa fo_29_0 rfl) rfl rfl ?_
      refine wl_e0 (e_stb 4 M rfl rfl rfl sz3 rfl rfl) rfl ?_
      intro _ w24 M
      simp only [sC0, sCS] at M
      refine wl_nil ?_
      refine wc_seq ?_
      refine wc_region ?_
      refine wl_mv M rfl rfl ?_
      refine wl_e (e_bsI (E := EBool) (xs := [false]) M (bs_56_1 _) ⟨⟨rfl, rfl⟩, trivial⟩ rfl rfl (by decide)) rfl rfl ?_
      rintro _ w25 ⟨u109, J109, rfl, hJ109, R109, M⟩
      have hoJ109 := M.old
      refine wl_e (e_app 1 M rfl R109 Tryd.underlying56 rfl rfl (by have := hG.1; show (_ + 1) * 1 ≤ _; omega)) rfl rfl ?_
      rintro _ w26 ⟨u110, rfl, M⟩
      replace M := M.less hJ109 hoI6
      simp only [sC0, sCS] at M
      refine wl_as M rfl rfl ?_
      refine wl_nil ?_
      refine wc_region ?_
      refine wl_m M (q_fa fo_29_3 rfl) rfl rfl ?_
      refine wl_m M (q_ldb 4 Tryd.underlying27 rfl rfl rfl rfl) rfl rfl ?_
      refine wl_mv M rfl rfl ?_
      refine wl_mv M rfl rfl ?_
      refine wl_mv M rfl rfl ?_
      refine wl_mv M rfl rfl ?_
      refine wl_m M (q_build (bd_52_0_1_2_3 _ _ _ _) ⟨⟨rfl, rfl⟩, ⟨rfl, rfl⟩, ⟨rfl, rfl⟩, ⟨rfl, rfl⟩, trivial⟩) rfl rfl ?_
      refine wl_e (e_bsI (E := EArc) (xs := [(Arc.mk at2 ((l_a_2.length : Int) + 1) ((runesL x0.x).getD i2 0) ((runesL x0.y).getD i2 0))]) M (bs_27_1 _ _ _ _) ⟨⟨rfl, rfl⟩, trivial⟩ rfl rfl (by decide)) rfl rfl ?_
      rintro _ w27 ⟨u118, J118, rfl, hJ118, R118, M⟩
      have hoJ118 := M.old
      refine wl_e (e_app 2 M rfl R118 Tryd.underlying27 rfl rfl (by show (_ + 1) * 24 ≤ _; omega)) rfl rfl ?_
      rintro _ w28 ⟨u119, rfl, M⟩
      replace M := M.less hJ118 hoI6
      simp only [sC0, sCS] at M
      refine wl_m M (q_fa fo_29_3 rfl) rfl rfl ?_
      refine wl_e0 (e_stb 4 M rfl rfl rfl sz27 rfl rfl) rfl ?_
      intro _ w29 M
      simp only [sC0, sCS] at M
      refine wl_nil ?_
      refine wc_region ?_
      refine wl_mv M rfl rfl ?_
      refine wl_as M rfl rfl ?_
      refine wl_nil ?_
      refine wc_region ?_
      refine wl_mv M rfl rfl ?_
      refine wl_m M (q_add rfl rfl (IntWalk.i64_in _ (by omega))) rfl rfl ?_
      refine wl_as M rfl rfl ?_
      refine wl_nil ?_
      have hn101 := last_none (p := at2) (a := ((runesL x0.x).getD i2 0)) (b := ((runesL x0.y).getD i2 0)) hku hds (by rw [← hs4]; exact ht101)
      rw [show ((l_a_2.length : Int) + 1) + 1 = ((l_a_2 ++ [(⟨at2, (l_a_2.length : Int) + 1, ((runesL x0.x).getD i2 0), ((runesL x0.y).getD i2 0)⟩ : Arc)]).length : Int) + 1 by simp] at M
      refine ⟨(i2 + 1, (l_a_2.length : Int) + 1, u119, l_a_2 ++ [(Arc.mk at2 ((l_a_2.length : Int) + 1) ((runesL x0.x).getD i2 0) ((runesL x0.y).getD i2 0))], u110, l_5_2 ++ [false]), ?_, ⟨(by omega), (trie_new hk2x hW rfl rfl hn101), (by rw [List.length_append, List.length_singleton]; exact hG.grow hFr), (by simp; omega), M⟩, ⟨rfl, rfl, rfl, trivial⟩, unw_look rfl (unw_hav rfl (unw_look rfl (unw_hav rfl (unw_look rfl unw_base))))⟩
      show (max (runesL x0.x).length (runesL x0.y).length) - (i2 + 1) < (max (runesL x0.x).length (runesL x0.y).length) - i2
      omega
     refine wc_skip ?_
     refine wc_region ?_
     refine wl_mv M rfl rfl ?_
     refine wl_as M rfl rfl ?_
     refine wl_nil ?_
     refine wc_region ?_
     refine wl_mv M rfl rfl ?_
     refine wl_m M (q_add rfl rfl (IntWalk.i64_in _ (by omega))) rfl rfl ?_
     refine wl_as M rfl rfl ?_
     refine wl_nil ?_
     have hn101 := last_some (p := at2) (a := ((runesL x0.x).getD i2 0)) (b := ((runesL x0.y).getD i2 0)) hku (by rw [← hs4]; exact ht101)
     have hs5 := hs4.trans hn101.2
     refine ⟨(i2 + 1, nx4, u_a_2, l_a_2, u_5_2, l_5_2), ?_, ⟨(by omega), (by rw [hs5]; exact trie_old hk2x hW rfl rfl hn101.1), hG, (by omega), M⟩, ⟨rfl, rfl, rfl, trivial⟩, unw_look rfl (unw_hav rfl (unw_look rfl (unw_hav rfl (unw_look rfl unw_base))))⟩
     show (max (runesL x0.x).length (runesL x0.y).length) - (i2 + 1) < (max (runesL x0.x).length (runesL x0.y).length) - i2
     omega
    refine wc_skip ?_
    refine wc_seq ?_
    refine wc_region ?_
    refine wl_as M rfl rfl ?_
    refine wl_nil ?_
    refine wc_seq ?_
    refine wc_seq ?_
    refine wc_region ?_
    refine wl_m M (q_fa fo_29_3 rfl) rfl rfl ?_
    refine wl_m M (q_ldb 4 Tryd.underlying27 rfl rfl rfl rfl) rfl rfl ?_
    refine wl_m M (q_lenr 2 M rfl Tryd.underlying27 rfl) rfl rfl ?_
    refine wl_mv M rfl rfl ?_
    refine wl_nil ?_
    refine wc_block ?_
    refine wc_loop (α := Nat × Int) [14, 16, 77, 78, 79, 80, 81, 82, 83, 84, 85, 86, 87, 88, 89, 90, 91, 92, 93, 94, 95, 96, 97, 98, 99] (fun ((k4, nx4) : Nat × Int) => [(14, .int .i64 nx4), (77, .int .i64 (k4 : Int))])
      (fun ((k4, nx4) : Nat × Int) w' => (k4 ≤ l_a_2.length) ∧ (nx4 = lastD (l_a_2.take k4) at2 ((runesL x0.x).getD i2 0) 0) ∧ Mem w I I6 (box b7 25 [.string x0.x, .string x0.y] :: row EBool (sv u_5_2) l_5_2 :: row EArc (sv u_a_2) l_a_2 :: row EInt (sv nilV) [] :: box b4 29 [.int .i64 ((l_a_2.length : Int) + 1), .int .i64 0, sv nilV, sv u_a_2] :: box b2 29 [.int .i64 0, .int .i64 0, .slice none 0 0, .slice none 0 0] :: []) w')
      (fun ((k4, nx4) : Nat × Int) => l_a_2.length - k4) (0, -1) ⟨rfl, rfl, trivial⟩ ?_ ?_
    ·refine ⟨Nat.zero_le _, rfl, ?_⟩
     exact M
    rintro ⟨k4, nx4⟩ jj4 w30 ⟨hk4, hs4, M⟩
    have hoI6 := M.old
    refine wc_seq ?_
    refine wc_region ?_
    refine wl_m M (q_lss rfl rfl) rfl rfl ?_
    refine wl_nil ?_
    refine wc_seq ?_
    refine wc_dec rfl (fun ht78 => ?_) (fun ht78 => ?_)
    ·obtain ⟨x4, hx4⟩ : ∃ x_, l_a_2[k4]? = some x_ := ⟨_, List.getElem?_eq_getElem (by omega)⟩
     refine wc_skip ?_
     refine wc_seq ?_
     refine wc_block ?_
     refine wc_seq ?_
     refine wc_region ?_
     refine wl_ixr (j := k4) 2 M rfl Tryd.underlying27 rfl rfl hx4 rfl (fun b79 o79 p79 => ?_)
     refine wl_m M (q_ldp p79 rfl rfl) rfl rfl ?_
     refine wl_e (e_alloc M z52) rfl rfl ?_
     rintro _ w31 ⟨b16, rfl, M⟩
     refine wl_e0 (e_stW 0 M rfl rfl rfl sz52 rfl rfl) rfl ?_
     intro _ w32 M
     simp only [sC0, sCS] at M
     refine wl_nil ?_
     refine wc_seq ?_
     refine wc_join (α := Unit) [81, 82, 83, 84, 85, 86, 87, 88, 89, 90, 91, 92, 93, 94, 95, 96] (fun _ => [(96, .bool (((decide (x4.src = at2)) && (decide (x4.inp = ((runesL x0.x).getD i2 0)))) && (decide (x4.out = 0))))]) (fun _ w' => Mem w I I6 (box b16 52 [.int .i64 x4.src, .int .i64 x4.dst, .int .i32 x4.inp, .int .i32 x4.out] :: box b7 25 [.string x0.x, .string x0.y] :: row EBool (sv u_5_2) l_5_2 :: row EArc (sv u_a_2) l_a_2 :: row EInt (sv nilV) [] :: box b4 29 [.int .i64 ((l_a_2.length : Int) + 1), .int .i64 0, sv nilV, sv u_a_2] :: box b2 29 [.int .i64 0, .int .i64 0, .slice none 0 0, .slice none 0 0] :: []) w') ?_ ?_
     ·refine wc_region ?_
      refine wl_m M (q_fa fo_52_0 rfl) rfl rfl ?_
      refine wl_m M (q_ldb 0 Tryd.underlying3 rfl rfl rfl rfl) rfl rfl ?_
      refine wl_mv M rfl rfl ?_
      refine wl_m M (q_eql rfl rfl) rfl rfl ?_
      refine wl_mv M rfl rfl ?_
      rcases Bool.eq_false_or_eq_true (decide (x4.src = at2)) with hg85 | hg85
      ·refine wl_m M (q_guard 4 rfl rfl rfl hg85 (q_fa fo_52_2 rfl)) rfl rfl ?_
       refine wl_m M (q_guard 4 rfl rfl rfl hg85 (q_ldb 0 Tryd.underlying21 rfl rfl rfl rfl)) rfl rfl ?_
       refine wl_m M (q_guard 4 rfl rfl rfl hg85 (q_move rfl)) rfl rfl ?_
       refine wl_m M (q_guard 4 rfl rfl rfl hg85 (q_eql rfl rfl)) rfl rfl ?_
       refine wl_m M (q_pickT rfl hg85 rfl) rfl rfl ?_
       refine wl_mv M rfl rfl ?_
       rcases Bool.eq_false_or_eq_true (decide (x4.inp = ((runesL x0.x).getD i2 0))) with hg91 | hg91
       ·refine wl_m M (q_guard 10 rfl rfl rfl hg91 (q_fa fo_52_3 rfl)) rfl rfl ?_
        refine wl_m M (q_guard 10 rfl rfl rfl hg91 (q_ldb 0 Tryd.underlying21 rfl rfl rfl rfl)) rfl rfl ?_
        refine wl_m M (q_guard 10 rfl rfl rfl hg91 (q_move rfl)) rfl rfl ?_
        refine wl_m M (q_guard 10 rfl rfl rfl hg91 (q_eql rfl rfl)) rfl rfl ?_
        refine wl_m M (q_pickT rfl hg91 rfl) rfl rfl ?_
        refine wl_nil ?_
        exact ⟨(), M, ⟨(show some (Value.bool (decide (x4.out = 0))) = some (Value.bool (((decide (x4.src = at2)) && (decide (x4.inp = ((runesL x0.x).getD i2 0)))) && (decide (x4.out = 0)))) from by first | (simp only [hg85, hg91, Bool.true_or, Bool.false_or, Bool.true_and, Bool.false_and, Bool.or_true, Bool.or_false, Bool.and_true, Bool.and_false]; done) | simp_all), trivial⟩, unw_take 16 rfl rfl⟩
       refine wl_m M (q_off 10 rfl rfl rfl hg91) rfl rfl ?_
       refine wl_m M (q_off 10 rfl rfl rfl hg91) rfl rfl ?_
       refine wl_m M (q_off 10 rfl rfl rfl hg91) rfl rfl ?_
       refine wl_m M (q_off 10 rfl rfl rfl hg91) rfl rfl ?_
       refine wl_m M (q_pickF rfl hg91 rfl) rfl rfl ?_
       refine wl_nil ?_
       exact ⟨(), M, ⟨(show some (Value.bool false) = some (Value.bool (((decide (x4.src = at2)) && (decide (x4.inp = ((runesL x0.x).getD i2 0)))) && (decide (x4.out = 0)))) from by first | (simp only [hg85, hg91, Bool.true_or, Bool.false_or, Bool.true_and, Bool.false_and, Bool.or_true, Bool.or_false, Bool.and_true, Bool.and_false]; done) | simp_all), trivial⟩, unw_take 16 rfl rfl⟩
      refine wl_m M (q_off 4 rfl rfl rfl hg85) rfl rfl ?_
      refine wl_m M (q_off 4 rfl rfl rfl hg85) rfl rfl ?_
      refine wl_m M (q_off 4 rfl rfl rfl hg85) rfl rfl ?_
      refine wl_m M (q_off 4 rfl rfl rfl hg85) rfl rfl ?_
      refine wl_m M (q_pickF rfl hg85 rfl) rfl rfl ?_
      refine wl_mv M rfl rfl ?_
      refine wl_m M (q_off 10 rfl rfl rfl rfl) rfl rfl ?_
      refine wl_m M (q_off 10 rfl rfl rfl rfl) rfl rfl ?_
      refine wl_m M (q_off 10 rfl rfl rfl rfl) rfl rfl ?_
      refine wl_m M (q_off 10 rfl rfl rfl rfl) rfl rfl ?_
      refine wl_m M (q_pickF rfl rfl rfl) rfl rfl ?_
      refine wl_nil ?_
      exact ⟨(), M, ⟨(show some (Value.bool false) = some (Value.bool (((decide (x4.src = at2)) && (decide (x4.inp = ((runesL x0.x).getD i2 0)))) && (decide (x4.out = 0)))) from by first | (simp only [hg85, Bool.true_or, Bool.false_or, Bool.true_and, Bool.false_and, Bool.or_true, Bool.or_false, Bool.and_true, Bool.and_false]; done) | simp_all), trivial⟩, unw_take 16 rfl rfl⟩
     rintro _ jr23 w33 M
     refine wc_cond rfl (fun ht96 => ?_) (fun ht96 => ?_)
     ·refine wc_region ?_
      refine wl_m M (q_fa fo_52_1 rfl) rfl rfl ?_
      refine wl_m M (q_ldb 0 Tryd.underlying3 rfl rfl rfl rfl) rfl rfl ?_
      refine wl_as M rfl rfl ?_
      refine wl_nil ?_
      refine wc_region ?_
      refine wl_m M (q_add rfl rfl (IntWalk.i64_in _ (by omega))) rfl rfl ?_
      refine wl_mv M rfl rfl ?_
      refine wl_nil ?_
      replace M := M.drop 0
      refine ⟨(k4 + 1, x4.dst), ?_, ⟨(by omega), (by rw [lastD_snoc hx4]; exact (if_pos ht96).symm), M⟩, ⟨rfl, rfl, trivial⟩, unw_look rfl (unw_hav rfl (unw_look rfl unw_base))⟩
      show l_a_2.length - (k4 + 1) < l_a_2.length - k4
      omega
     refine wc_skip ?_
     refine wc_region ?_
     refine wl_m M (q_add rfl rfl (IntWalk.i64_in _ (by omega))) rfl rfl ?_
     refine wl_mv M rfl rfl ?_
     refine wl_nil ?_
     replace M := M.drop 0
     refine ⟨(k4 + 1, nx4), ?_, ⟨(by omega), (by rw [lastD_snoc hx4, if_neg (by rw [hitB, ht96]; decide)]; exact hs4), M⟩, ⟨rfl, rfl, trivial⟩, unw_look rfl (unw_hav rfl (unw_look rfl unw_base))⟩
     show l_a_2.length - (k4 + 1) < l_a_2.length - k4
     omega
    have hke4 : k4 = l_a_2.length := by omega
    rw [hke4, List.take_length] at hs4
    refine wc_exit rfl ?_
    refine wc_seq ?_
    refine wc_seq ?_
    refine wc_region ?_
    refine wl_mv M rfl rfl ?_
    refine wl_m M (q_lss rfl rfl) rfl rfl ?_
    refine wl_nil ?_
    refine wc_dec rfl (fun ht101 => ?_) (fun ht101 => ?_)
    ·refine wc_seq ?_
     refine wc_region ?_
     refine wl_m M (q_fa fo_29_0 rfl) rfl rfl ?_
     refine wl_m M (q_ldb 4 Tryd.underlying3 rfl rfl rfl rfl) rfl rfl ?_
     refine wl_as M rfl rfl ?_
     refine wl_nil ?_
     refine wc_seq ?_
     refine wc_region ?_
     refine wl_m M (q_fa fo_29_0 rfl) rfl rfl ?_
     refine wl_m M (q_ldb 4 Tryd.underlying3 rfl rfl rfl rfl) rfl rfl ?_
     refine wl_m M (q_add rfl rfl (IntWalk.i64_in _ (by omega))) rfl rfl ?_
     refine wl_m M (q_fa fo_29_0 rfl) rfl rfl ?_
     refine wl_e0 (e_stb 4 M rfl rfl rfl sz3 rfl rfl) rfl ?_
     intro _ w34 M
     simp only [sC0, sCS] at M
     refine wl_nil ?_
     refine wc_seq ?_
     refine wc_region ?_
     refine wl_mv M rfl rfl ?_
     refine wl_e (e_bsI (E := EBool) (xs := [false]) M (bs_56_1 _) ⟨⟨rfl, rfl⟩, trivial⟩ rfl rfl (by decide)) rfl rfl ?_
     rintro _ w35 ⟨u109, J109, rfl, hJ109, R109, M⟩
     have hoJ109 := M.old
     refine wl_e (e_app 1 M rfl R109 Tryd.underlying56 rfl rfl (by have := hG.1; show (_ + 1) * 1 ≤ _; omega)) rfl rfl ?_
     rintro _ w36 ⟨u110, rfl, M⟩
     replace M := M.less hJ109 hoI6
     simp only [sC0, sCS] at M
     refine wl_as M rfl rfl ?_
     refine wl_nil ?_
     refine wc_region ?_
     refine wl_m M (q_fa fo_29_3 rfl) rfl rfl ?_
     refine wl_m M (q_ldb 4 Tryd.underlying27 rfl rfl rfl rfl) rfl rfl ?_
     refine wl_mv M rfl rfl ?_
     refine wl_mv M rfl rfl ?_
     refine wl_mv M rfl rfl ?_
     refine wl_mv M rfl rfl ?_
     refine wl_m M (q_build (bd_52_0_1_2_3 _ _ _ _) ⟨⟨rfl, rfl⟩, ⟨rfl, rfl⟩, ⟨rfl, rfl⟩, ⟨rfl, rfl⟩, trivial⟩) rfl rfl ?_
     refine wl_e (e_bsI (E := EArc) (xs := [(Arc.mk at2 ((l_a_2.length : Int) + 1) ((runesL x0.x).getD i2 0) 0)]) M (bs_27_1 _ _ _ _) ⟨⟨rfl, rfl⟩, trivial⟩ rfl rfl (by decide)) rfl rfl ?_
     rintro _ w37 ⟨u118, J118, rfl, hJ118, R118, M⟩
     have hoJ118 := M.old
     refine wl_e (e_app 2 M rfl R118 Tryd.underlying27 rfl rfl (by show (_ + 1) * 24 ≤ _; omega)) rfl rfl ?_
     rintro _ w38 ⟨u119, rfl, M⟩
     replace M := M.less hJ118 hoI6
     simp only [sC0, sCS] at M
     refine wl_m M (q_fa fo_29_3 rfl) rfl rfl ?_
     refine wl_e0 (e_stb 4 M rfl rfl rfl sz27 rfl rfl) rfl ?_
     intro _ w39 M
     simp only [sC0, sCS] at M
     refine wl_nil ?_
     refine wc_region ?_
     refine wl_mv M rfl rfl ?_
     refine wl_as M rfl rfl ?_
     refine wl_nil ?_
     refine wc_region ?_
     refine wl_mv M rfl rfl ?_
     refine wl_m M (q_add rfl rfl (IntWalk.i64_in _ (by omega))) rfl rfl ?_
     refine wl_as M rfl rfl ?_
     refine wl_nil ?_
     have hn101 := last_none (p := at2) (a := ((runesL x0.x).getD i2 0)) (b := 0) hku hds (by rw [← hs4]; exact ht101)
     rw [show ((l_a_2.length : Int) + 1) + 1 = ((l_a_2 ++ [(⟨at2, (l_a_2.length : Int) + 1, ((runesL x0.x).getD i2 0), 0⟩ : Arc)]).length : Int) + 1 by simp] at M
     refine ⟨(i2 + 1, (l_a_2.length : Int) + 1, u119, l_a_2 ++ [(Arc.mk at2 ((l_a_2.length : Int) + 1) ((runesL x0.x).getD i2 0) 0)], u110, l_5_2 ++ [false]), ?_, ⟨(by omega), (trie_new hk2x hW rfl (getD_none (by omega)) hn101), (by rw [List.length_append, List.length_singleton]; exact hG.grow hFr), (by simp; omega), M⟩, ⟨rfl, rfl, rfl, trivial⟩, unw_look rfl (unw_hav rfl (unw_look rfl (unw_hav rfl (unw_look rfl unw_base))))⟩
     show (max (runesL x0.x).length (runesL x0.y).length) - (i2 + 1) < (max (runesL x0.x).length (runesL x0.y).length) - i2
     omega
    refine wc_skip ?_
    refine wc_region ?_
    refine wl_mv M rfl rfl ?_
    refine wl_as M rfl rfl ?_
    refine wl_nil ?_
    refine wc_region ?_
    refine wl_mv M rfl rfl ?_
    refine wl_m M (q_add rfl rfl (IntWalk.i64_in _ (by omega))) rfl rfl ?_
    refine wl_as M rfl rfl ?_
    refine wl_nil ?_
    have hn101 := last_some (p := at2) (a := ((runesL x0.x).getD i2 0)) (b := 0) hku (by rw [← hs4]; exact ht101)
    have hs5 := hs4.trans hn101.2
    refine ⟨(i2 + 1, nx4, u_a_2, l_a_2, u_5_2, l_5_2), ?_, ⟨(by omega), (by rw [hs5]; exact trie_old hk2x hW rfl (getD_none (by omega)) hn101.1), hG, (by omega), M⟩, ⟨rfl, rfl, rfl, trivial⟩, unw_look rfl (unw_hav rfl (unw_look rfl (unw_hav rfl (unw_look rfl unw_base))))⟩
    show (max (runesL x0.x).length (runesL x0.y).length) - (i2 + 1) < (max (runesL x0.x).length (runesL x0.y).length) - i2
    omega
   refine wc_skip ?_
   refine wc_seq ?_
   refine wc_seq ?_
   refine wc_region ?_
   refine wl_mv M rfl rfl ?_
   refine wl_mv M rfl rfl ?_
   refine wl_m M (q_lenR R45 Tryd.underlying47 rfl) rfl rfl ?_
   refine wl_m M (q_lss rfl rfl) rfl rfl ?_
   refine wl_nil ?_
   refine wc_dec rfl (fun ht69 => ?_) (fun ht69 => ?_)
   ·refine wc_region ?_
    refine wl_mv M rfl rfl ?_
    refine wl_mv M rfl rfl ?_
    refine wl_ix (j := i2) M R45 Tryd.underlying47 rfl (ixe (by omega)) (getD_at (d := 0) (by omega)) rfl (fun b72 o72 p72 => ?_)
    refine wl_m M (q_ldp p72 rfl rfl) rfl rfl ?_
    refine wl_as M rfl rfl ?_
    refine wl_nil ?_
    refine wc_seq ?_
    refine wc_region ?_
    refine wl_as M rfl rfl ?_
    refine wl_nil ?_
    refine wc_seq ?_
    refine wc_seq ?_
    refine wc_region ?_
    refine wl_m M (q_fa fo_29_3 rfl) rfl rfl ?_
    refine wl_m M (q_ldb 4 Tryd.underlying27 rfl rfl rfl rfl) rfl rfl ?_
    refine wl_m M (q_lenr 2 M rfl Tryd.underlying27 rfl) rfl rfl ?_
    refine wl_mv M rfl rfl ?_
    refine wl_nil ?_
    refine wc_block ?_
    refine wc_loop (α := Nat × Int) [14, 16, 77, 78, 79, 80, 81, 82, 83, 84, 85, 86, 87, 88, 89, 90, 91, 92, 93, 94, 95, 96, 97, 98, 99] (fun ((k4, nx4) : Nat × Int) => [(14, .int .i64 nx4), (77, .int .i64 (k4 : Int))])
      (fun ((k4, nx4) : Nat × Int) w' => (k4 ≤ l_a_2.length) ∧ (nx4 = lastD (l_a_2.take k4) at2 0 ((runesL x0.y).getD i2 0)) ∧ Mem w I I6 (box b7 25 [.string x0.x, .string x0.y] :: row EBool (sv u_5_2) l_5_2 :: row EArc (sv u_a_2) l_a_2 :: row EInt (sv nilV) [] :: box b4 29 [.int .i64 ((l_a_2.length : Int) + 1), .int .i64 0, sv nilV, sv u_a_2] :: box b2 29 [.int .i64 0, .int .i64 0, .slice none 0 0, .slice none 0 0] :: []) w')
      (fun ((k4, nx4) : Nat × Int) => l_a_2.length - k4) (0, -1) ⟨rfl, rfl, trivial⟩ ?_ ?_
    ·refine ⟨Nat.zero_le _, rfl, ?_⟩
     exact M
    rintro ⟨k4, nx4⟩ jj4 w40 ⟨hk4, hs4, M⟩
    have hoI6 := M.old
    refine wc_seq ?_
    refine wc_region ?_
    refine wl_m M (q_lss rfl rfl) rfl rfl ?_
    refine wl_nil ?_
    refine wc_seq ?_
    refine wc_dec rfl (fun ht78 => ?_) (fun ht78 => ?_)
    ·obtain ⟨x4, hx4⟩ : ∃ x_, l_a_2[k4]? = some x_ := ⟨_, List.getElem?_eq_getElem (by omega)⟩
     refine wc_skip ?_
     refine wc_seq ?_
     refine wc_block ?_
     refine wc_seq ?_
     refine wc_region ?_
     refine wl_ixr (j := k4) 2 M rfl Tryd.underlying27 rfl rfl hx4 rfl (fun b79 o79 p79 => ?_)
     refine wl_m M (q_ldp p79 rfl rfl) rfl rfl ?_
     refine wl_e (e_alloc M z52) rfl rfl ?_
     rintro _ w41 ⟨b16, rfl, M⟩
     refine wl_e0 (e_stW 0 M rfl rfl rfl sz52 rfl rfl) rfl ?_
     intro _ w42 M
     simp only [sC0, sCS] at M
     refine wl_nil ?_
     refine wc_seq ?_
     refine wc_join (α := Unit) [81, 82, 83, 84, 85, 86, 87, 88, 89, 90, 91, 92, 93, 94, 95, 96] (fun _ => [(96, .bool (((decide (x4.src = at2)) && (decide (x4.inp = 0))) && (decide (x4.out = ((runesL x0.y).getD i2 0)))))]) (fun _ w' => Mem w I I6 (box b16 52 [.int .i64 x4.src, .int .i64 x4.dst, .int .i32 x4.inp, .int .i32 x4.out] :: box b7 25 [.string x0.x, .string x0.y] :: row EBool (sv u_5_2) l_5_2 :: row EArc (sv u_a_2) l_a_2 :: row EInt (sv nilV) [] :: box b4 29 [.int .i64 ((l_a_2.length : Int) + 1), .int .i64 0, sv nilV, sv u_a_2] :: box b2 29 [.int .i64 0, .int .i64 0, .slice none 0 0, .slice none 0 0] :: []) w') ?_ ?_
     ·refine wc_region ?_
      refine wl_m M (q_fa fo_52_0 rfl) rfl rfl ?_
      refine wl_m M (q_ldb 0 Tryd.underlying3 rfl rfl rfl rfl) rfl rfl ?_
      refine wl_mv M rfl rfl ?_
      refine wl_m M (q_eql rfl rfl) rfl rfl ?_
      refine wl_mv M rfl rfl ?_
      rcases Bool.eq_false_or_eq_true (decide (x4.src = at2)) with hg85 | hg85
      ·refine wl_m M (q_guard 4 rfl rfl rfl hg85 (q_fa fo_52_2 rfl)) rfl rfl ?_
       refine wl_m M (q_guard 4 rfl rfl rfl hg85 (q_ldb 0 Tryd.underlying21 rfl rfl rfl rfl)) rfl rfl ?_
       refine wl_m M (q_guard 4 rfl rfl rfl hg85 (q_move rfl)) rfl rfl ?_
       refine wl_m M (q_guard 4 rfl rfl rfl hg85 (q_eql rfl rfl)) rfl rfl ?_
       refine wl_m M (q_pickT rfl hg85 rfl) rfl rfl ?_
       refine wl_mv M rfl rfl ?_
       rcases Bool.eq_false_or_eq_true (decide (x4.inp = 0)) with hg91 | hg91
       ·refine wl_m M (q_guard 10 rfl rfl rfl hg91 (q_fa fo_52_3 rfl)) rfl rfl ?_
        refine wl_m M (q_guard 10 rfl rfl rfl hg91 (q_ldb 0 Tryd.underlying21 rfl rfl rfl rfl)) rfl rfl ?_
        refine wl_m M (q_guard 10 rfl rfl rfl hg91 (q_move rfl)) rfl rfl ?_
        refine wl_m M (q_guard 10 rfl rfl rfl hg91 (q_eql rfl rfl)) rfl rfl ?_
        refine wl_m M (q_pickT rfl hg91 rfl) rfl rfl ?_
        refine wl_nil ?_
        exact ⟨(), M, ⟨(show some (Value.bool (decide (x4.out = ((runesL x0.y).getD i2 0)))) = some (Value.bool (((decide (x4.src = at2)) && (decide (x4.inp = 0))) && (decide (x4.out = ((runesL x0.y).getD i2 0))))) from by first | (simp only [hg85, hg91, Bool.true_or, Bool.false_or, Bool.true_and, Bool.false_and, Bool.or_true, Bool.or_false, Bool.and_true, Bool.and_false]; done) | simp_all), trivial⟩, unw_take 16 rfl rfl⟩
       refine wl_m M (q_off 10 rfl rfl rfl hg91) rfl rfl ?_
       refine wl_m M (q_off 10 rfl rfl rfl hg91) rfl rfl ?_
       refine wl_m M (q_off 10 rfl rfl rfl hg91) rfl rfl ?_
       refine wl_m M (q_off 10 rfl rfl rfl hg91) rfl rfl ?_
       refine wl_m M (q_pickF rfl hg91 rfl) rfl rfl ?_
       refine wl_nil ?_
       exact ⟨(), M, ⟨(show some (Value.bool false) = some (Value.bool (((decide (x4.src = at2)) && (decide (x4.inp = 0))) && (decide (x4.out = ((runesL x0.y).getD i2 0))))) from by first | (simp only [hg85, hg91, Bool.true_or, Bool.false_or, Bool.true_and, Bool.false_and, Bool.or_true, Bool.or_false, Bool.and_true, Bool.and_false]; done) | simp_all), trivial⟩, unw_take 16 rfl rfl⟩
      refine wl_m M (q_off 4 rfl rfl rfl hg85) rfl rfl ?_
      refine wl_m M (q_off 4 rfl rfl rfl hg85) rfl rfl ?_
      refine wl_m M (q_off 4 rfl rfl rfl hg85) rfl rfl ?_
      refine wl_m M (q_off 4 rfl rfl rfl hg85) rfl rfl ?_
      refine wl_m M (q_pickF rfl hg85 rfl) rfl rfl ?_
      refine wl_mv M rfl rfl ?_
      refine wl_m M (q_off 10 rfl rfl rfl rfl) rfl rfl ?_
      refine wl_m M (q_off 10 rfl rfl rfl rfl) rfl rfl ?_
      refine wl_m M (q_off 10 rfl rfl rfl rfl) rfl rfl ?_
      refine wl_m M (q_off 10 rfl rfl rfl rfl) rfl rfl ?_
      refine wl_m M (q_pickF rfl rfl rfl) rfl rfl ?_
      refine wl_nil ?_
      exact ⟨(), M, ⟨(show some (Value.bool false) = some (Value.bool (((decide (x4.src = at2)) && (decide (x4.inp = 0))) && (decide (x4.out = ((runesL x0.y).getD i2 0))))) from by first | (simp only [hg85, Bool.true_or, Bool.false_or, Bool.true_and, Bool.false_and, Bool.or_true, Bool.or_false, Bool.and_true, Bool.and_false]; done) | simp_all), trivial⟩, unw_take 16 rfl rfl⟩
     rintro _ jr23 w43 M
     refine wc_cond rfl (fun ht96 => ?_) (fun ht96 => ?_)
     ·refine wc_region ?_
      refine wl_m M (q_fa fo_52_1 rfl) rfl rfl ?_
      refine wl_m M (q_ldb 0 Tryd.underlying3 rfl rfl rfl rfl) rfl rfl ?_
      refine wl_as M rfl rfl ?_
      refine wl_nil ?_
      refine wc_region ?_
      refine wl_m M (q_add rfl rfl (IntWalk.i64_in _ (by omega))) rfl rfl ?_
      refine wl_mv M rfl rfl ?_
      refine wl_nil ?_
      replace M := M.drop 0
      refine ⟨(k4 + 1, x4.dst), ?_, ⟨(by omega), (by rw [lastD_snoc hx4]; exact (if_pos ht96).symm), M⟩, ⟨rfl, rfl, trivial⟩, unw_look rfl (unw_hav rfl (unw_look rfl unw_base))⟩
      show l_a_2.length - (k4 + 1) < l_a_2.length - k4
      omega
     refine wc_skip ?_
     refine wc_region ?_
     refine wl_m M (q_add rfl rfl (IntWalk.i64_in _ (by omega))) rfl rfl ?_
     refine wl_mv M rfl rfl ?_
     refine wl_nil ?_
     replace M := M.drop 0
     refine ⟨(k4 + 1, nx4), ?_, ⟨(by omega), (by rw [lastD_snoc hx4, if_neg (by rw [hitB, ht96]; decide)]; exact hs4), M⟩, ⟨rfl, rfl, trivial⟩, unw_look rfl (unw_hav rfl (unw_look rfl unw_base))⟩
     show l_a_2.length - (k4 + 1) < l_a_2.length - k4
     omega
    have hke4 : k4 = l_a_2.length := by omega
    rw [hke4, List.take_length] at hs4
    refine wc_exit rfl ?_
    refine wc_seq ?_
    refine wc_seq ?_
    refine wc_region ?_
    refine wl_mv M rfl rfl ?_
    refine wl_m M (q_lss rfl rfl) rfl rfl ?_
    refine wl_nil ?_
    refine wc_dec rfl (fun ht101 => ?_) (fun ht101 => ?_)
    ·refine wc_seq ?_
     refine wc_region ?_
     refine wl_m M (q_fa fo_29_0 rfl) rfl rfl ?_
     refine wl_m M (q_ldb 4 Tryd.underlying3 rfl rfl rfl rfl) rfl rfl ?_
     refine wl_as M rfl rfl ?_
     refine wl_nil ?_
     refine wc_seq ?_
     refine wc_region ?_
     refine wl_m M (q_fa fo_29_0 rfl) rfl rfl ?_
     refine wl_m M (q_ldb 4 Tryd.underlying3 rfl rfl rfl rfl) rfl rfl ?_
     refine wl_m M (q_add rfl rfl (IntWalk.i64_in _ (by omega))) rfl rfl ?_
     refine wl_m M (q_fa fo_29_0 rfl) rfl rfl ?_
     refine wl_e0 (e_stb 4 M rfl rfl rfl sz3 rfl rfl) rfl ?_
     intro _ w44 M
     simp only [sC0, sCS] at M
     refine wl_nil ?_
     refine wc_seq ?_
     refine wc_region ?_
     refine wl_mv M rfl rfl ?_
     refine wl_e (e_bsI (E := EBool) (xs := [false]) M (bs_56_1 _) ⟨⟨rfl, rfl⟩, trivial⟩ rfl rfl (by decide)) rfl rfl ?_
     rintro _ w45 ⟨u109, J109, rfl, hJ109, R109, M⟩
     have hoJ109 := M.old
     refine wl_e (e_app 1 M rfl R109 Tryd.underlying56 rfl rfl (by have := hG.1; show (_ + 1) * 1 ≤ _; omega)) rfl rfl ?_
     rintro _ w46 ⟨u110, rfl, M⟩
     replace M := M.less hJ109 hoI6
     simp only [sC0, sCS] at M
     refine wl_as M rfl rfl ?_
     refine wl_nil ?_
     refine wc_region ?_
     refine wl_m M (q_fa fo_29_3 rfl) rfl rfl ?_
     refine wl_m M (q_ldb 4 Tryd.underlying27 rfl rfl rfl rfl) rfl rfl ?_
     refine wl_mv M rfl rfl ?_
     refine wl_mv M rfl rfl ?_
     refine wl_mv M rfl rfl ?_
     refine wl_mv M rfl rfl ?_
     refine wl_m M (q_build (bd_52_0_1_2_3 _ _ _ _) ⟨⟨rfl, rfl⟩, ⟨rfl, rfl⟩, ⟨rfl, rfl⟩, ⟨rfl, rfl⟩, trivial⟩) rfl rfl ?_
     refine wl_e (e_bsI (E := EArc) (xs := [(Arc.mk at2 ((l_a_2.length : Int) + 1) 0 ((runesL x0.y).getD i2 0))]) M (bs_27_1 _ _ _ _) ⟨⟨rfl, rfl⟩, trivial⟩ rfl rfl (by decide)) rfl rfl ?_
     rintro _ w47 ⟨u118, J118, rfl, hJ118, R118, M⟩
     have hoJ118 := M.old
     refine wl_e (e_app 2 M rfl R118 Tryd.underlying27 rfl rfl (by show (_ + 1) * 24 ≤ _; omega)) rfl rfl ?_
     rintro _ w48 ⟨u119, rfl, M⟩
     replace M := M.less hJ118 hoI6
     simp only [sC0, sCS] at M
     refine wl_m M (q_fa fo_29_3 rfl) rfl rfl ?_
     refine wl_e0 (e_stb 4 M rfl rfl rfl sz27 rfl rfl) rfl ?_
     intro _ w49 M
     simp only [sC0, sCS] at M
     refine wl_nil ?_
     refine wc_region ?_
     refine wl_mv M rfl rfl ?_
     refine wl_as M rfl rfl ?_
     refine wl_nil ?_
     refine wc_region ?_
     refine wl_mv M rfl rfl ?_
     refine wl_m M (q_add rfl rfl (IntWalk.i64_in _ (by omega))) rfl rfl ?_
     refine wl_as M rfl rfl ?_
     refine wl_nil ?_
     have hn101 := last_none (p := at2) (a := 0) (b := ((runesL x0.y).getD i2 0)) hku hds (by rw [← hs4]; exact ht101)
     rw [show ((l_a_2.length : Int) + 1) + 1 = ((l_a_2 ++ [(⟨at2, (l_a_2.length : Int) + 1, 0, ((runesL x0.y).getD i2 0)⟩ : Arc)]).length : Int) + 1 by simp] at M
     refine ⟨(i2 + 1, (l_a_2.length : Int) + 1, u119, l_a_2 ++ [(Arc.mk at2 ((l_a_2.length : Int) + 1) 0 ((runesL x0.y).getD i2 0))], u110, l_5_2 ++ [false]), ?_, ⟨(by omega), (trie_new hk2x hW (getD_none (by omega)) rfl hn101), (by rw [List.length_append, List.length_singleton]; exact hG.grow hFr), (by simp; omega), M⟩, ⟨rfl, rfl, rfl, trivial⟩, unw_look rfl (unw_hav rfl (unw_look rfl (unw_hav rfl (unw_look rfl unw_base))))⟩
     show (max (runesL x0.x).length (runesL x0.y).length) - (i2 + 1) < (max (runesL x0.x).length (runesL x0.y).length) - i2
     omega
    refine wc_skip ?_
    refine wc_region ?_
    refine wl_mv M rfl rfl ?_
    refine wl_as M rfl rfl ?_
    refine wl_nil ?_
    refine wc_region ?_
    refine wl_mv M rfl rfl ?_
    refine wl_m M (q_add rfl rfl (IntWalk.i64_in _ (by omega))) rfl rfl ?_
    refine wl_as M rfl rfl ?_
    refine wl_nil ?_
    have hn101 := last_some (p := at2) (a := 0) (b := ((runesL x0.y).getD i2 0)) hku (by rw [← hs4]; exact ht101)
    have hs5 := hs4.trans hn101.2
    refine ⟨(i2 + 1, nx4, u_a_2, l_a_2, u_5_2, l_5_2), ?_, ⟨(by omega), (by rw [hs5]; exact trie_old hk2x hW (getD_none (by omega)) rfl hn101.1), hG, (by omega), M⟩, ⟨rfl, rfl, rfl, trivial⟩, unw_look rfl (unw_hav rfl (unw_look rfl (unw_hav rfl (unw_look rfl unw_base))))⟩
    show (max (runesL x0.x).length (runesL x0.y).length) - (i2 + 1) < (max (runesL x0.x).length (runesL x0.y).length) - i2
    omega
   refine wc_skip ?_
   refine wc_seq ?_
   refine wc_region ?_
   refine wl_as M rfl rfl ?_
   refine wl_nil ?_
   refine wc_seq ?_
   refine wc_seq ?_
   refine wc_region ?_
   refine wl_m M (q_fa fo_29_3 rfl) rfl rfl ?_
   refine wl_m M (q_ldb 4 Tryd.underlying27 rfl rfl rfl rfl) rfl rfl ?_
   refine wl_m M (q_lenr 2 M rfl Tryd.underlying27 rfl) rfl rfl ?_
   refine wl_mv M rfl rfl ?_
   refine wl_nil ?_
   refine wc_block ?_
   refine wc_loop (α := Nat × Int) [14, 16, 77, 78, 79, 80, 81, 82, 83, 84, 85, 86, 87, 88, 89, 90, 91, 92, 93, 94, 95, 96, 97, 98, 99] (fun ((k4, nx4) : Nat × Int) => [(14, .int .i64 nx4), (77, .int .i64 (k4 : Int))])
     (fun ((k4, nx4) : Nat × Int) w' => (k4 ≤ l_a_2.length) ∧ (nx4 = lastD (l_a_2.take k4) at2 0 0) ∧ Mem w I I6 (box b7 25 [.string x0.x, .string x0.y] :: row EBool (sv u_5_2) l_5_2 :: row EArc (sv u_a_2) l_a_2 :: row EInt (sv nilV) [] :: box b4 29 [.int .i64 ((l_a_2.length : Int) + 1), .int .i64 0, sv nilV, sv u_a_2] :: box b2 29 [.int .i64 0, .int .i64 0, .slice none 0 0, .slice none 0 0] :: []) w')
     (fun ((k4, nx4) : Nat × Int) => l_a_2.length - k4) (0, -1) ⟨rfl, rfl, trivial⟩ ?_ ?_
   ·refine ⟨Nat.zero_le _, rfl, ?_⟩
    exact M
   rintro ⟨k4, nx4⟩ jj4 w50 ⟨hk4, hs4, M⟩
   have hoI6 := M.old
   refine wc_seq ?_
   refine wc_region ?_
   refine wl_m M (q_lss rfl rfl) rfl rfl ?_
   refine wl_nil ?_
   refine wc_seq ?_
   refine wc_dec rfl (fun ht78 => ?_) (fun ht78 => ?_)
   ·obtain ⟨x4, hx4⟩ : ∃ x_, l_a_2[k4]? = some x_ := ⟨_, List.getElem?_eq_getElem (by omega)⟩
    refine wc_skip ?_
    refine wc_seq ?_
    refine wc_block ?_
    refine wc_seq ?_
    refine wc_region ?_
    refine wl_ixr (j := k4) 2 M rfl Tryd.underlying27 rfl rfl hx4 rfl (fun b79 o79 p79 => ?_)
    refine wl_m M (q_ldp p79 rfl rfl) rfl rfl ?_
    refine wl_e (e_alloc M z52) rfl rfl ?_
    rintro _ w51 ⟨b16, rfl, M⟩
    refine wl_e0 (e_stW 0 M rfl rfl rfl sz52 rfl rfl) rfl ?_
    intro _ w52 M
    simp only [sC0, sCS] at M
    refine wl_nil ?_
    refine wc_seq ?_
    refine wc_join (α := Unit) [81, 82, 83, 84, 85, 86, 87, 88, 89, 90, 91, 92, 93, 94, 95, 96] (fun _ => [(96, .bool (((decide (x4.src = at2)) && (decide (x4.inp = 0))) && (decide (x4.out = 0))))]) (fun _ w' => Mem w I I6 (box b16 52 [.int .i64 x4.src, .int .i64 x4.dst, .int .i32 x4.inp, .int .i32 x4.out] :: box b7 25 [.string x0.x, .string x0.y] :: row EBool (sv u_5_2) l_5_2 :: row EArc (sv u_a_2) l_a_2 :: row EInt (sv nilV) [] :: box b4 29 [.int .i64 ((l_a_2.length : Int) + 1), .int .i64 0, sv nilV, sv u_a_2] :: box b2 29 [.int .i64 0, .int .i64 0, .slice none 0 0, .slice none 0 0] :: []) w') ?_ ?_
    ·refine wc_region ?_
     refine wl_m M (q_fa fo_52_0 rfl) rfl rfl ?_
     refine wl_m M (q_ldb 0 Tryd.underlying3 rfl rfl rfl rfl) rfl rfl ?_
     refine wl_mv M rfl rfl ?_
     refine wl_m M (q_eql rfl rfl) rfl rfl ?_
     refine wl_mv M rfl rfl ?_
     rcases Bool.eq_false_or_eq_true (decide (x4.src = at2)) with hg85 | hg85
     ·refine wl_m M (q_guard 4 rfl rfl rfl hg85 (q_fa fo_52_2 rfl)) rfl rfl ?_
      refine wl_m M (q_guard 4 rfl rfl rfl hg85 (q_ldb 0 Tryd.underlying21 rfl rfl rfl rfl)) rfl rfl ?_
      refine wl_m M (q_guard 4 rfl rfl rfl hg85 (q_move rfl)) rfl rfl ?_
      refine wl_m M (q_guard 4 rfl rfl rfl hg85 (q_eql rfl rfl)) rfl rfl ?_
      refine wl_m M (q_pickT rfl hg85 rfl) rfl rfl ?_
      refine wl_mv M rfl rfl ?_
      rcases Bool.eq_false_or_eq_true (decide (x4.inp = 0)) with hg91 | hg91
      ·refine wl_m M (q_guard 10 rfl rfl rfl hg91 (q_fa fo_52_3 rfl)) rfl rfl ?_
       refine wl_m M (q_guard 10 rfl rfl rfl hg91 (q_ldb 0 Tryd.underlying21 rfl rfl rfl rfl)) rfl rfl ?_
       refine wl_m M (q_guard 10 rfl rfl rfl hg91 (q_move rfl)) rfl rfl ?_
       refine wl_m M (q_guard 10 rfl rfl rfl hg91 (q_eql rfl rfl)) rfl rfl ?_
       refine wl_m M (q_pickT rfl hg91 rfl) rfl rfl ?_
       refine wl_nil ?_
       exact ⟨(), M, ⟨(show some (Value.bool (decide (x4.out = 0))) = some (Value.bool (((decide (x4.src = at2)) && (decide (x4.inp = 0))) && (decide (x4.out = 0)))) from by first | (simp only [hg85, hg91, Bool.true_or, Bool.false_or, Bool.true_and, Bool.false_and, Bool.or_true, Bool.or_false, Bool.and_true, Bool.and_false]; done) | simp_all), trivial⟩, unw_take 16 rfl rfl⟩
      refine wl_m M (q_off 10 rfl rfl rfl hg91) rfl rfl ?_
      refine wl_m M (q_off 10 rfl rfl rfl hg91) rfl rfl ?_
      refine wl_m M (q_off 10 rfl rfl rfl hg91) rfl rfl ?_
      refine wl_m M (q_off 10 rfl rfl rfl hg91) rfl rfl ?_
      refine wl_m M (q_pickF rfl hg91 rfl) rfl rfl ?_
      refine wl_nil ?_
      exact ⟨(), M, ⟨(show some (Value.bool false) = some (Value.bool (((decide (x4.src = at2)) && (decide (x4.inp = 0))) && (decide (x4.out = 0)))) from by first | (simp only [hg85, hg91, Bool.true_or, Bool.false_or, Bool.true_and, Bool.false_and, Bool.or_true, Bool.or_false, Bool.and_true, Bool.and_false]; done) | simp_all), trivial⟩, unw_take 16 rfl rfl⟩
     refine wl_m M (q_off 4 rfl rfl rfl hg85) rfl rfl ?_
     refine wl_m M (q_off 4 rfl rfl rfl hg85) rfl rfl ?_
     refine wl_m M (q_off 4 rfl rfl rfl hg85) rfl rfl ?_
     refine wl_m M (q_off 4 rfl rfl rfl hg85) rfl rfl ?_
     refine wl_m M (q_pickF rfl hg85 rfl) rfl rfl ?_
     refine wl_mv M rfl rfl ?_
     refine wl_m M (q_off 10 rfl rfl rfl rfl) rfl rfl ?_
     refine wl_m M (q_off 10 rfl rfl rfl rfl) rfl rfl ?_
     refine wl_m M (q_off 10 rfl rfl rfl rfl) rfl rfl ?_
     refine wl_m M (q_off 10 rfl rfl rfl rfl) rfl rfl ?_
     refine wl_m M (q_pickF rfl rfl rfl) rfl rfl ?_
     refine wl_nil ?_
     exact ⟨(), M, ⟨(show some (Value.bool false) = some (Value.bool (((decide (x4.src = at2)) && (decide (x4.inp = 0))) && (decide (x4.out = 0)))) from by first | (simp only [hg85, Bool.true_or, Bool.false_or, Bool.true_and, Bool.false_and, Bool.or_true, Bool.or_false, Bool.and_true, Bool.and_false]; done) | simp_all), trivial⟩, unw_take 16 rfl rfl⟩
    rintro _ jr23 w53 M
    refine wc_cond rfl (fun ht96 => ?_) (fun ht96 => ?_)
    ·refine wc_region ?_
     refine wl_m M (q_fa fo_52_1 rfl) rfl rfl ?_
     refine wl_m M (q_ldb 0 Tryd.underlying3 rfl rfl rfl rfl) rfl rfl ?_
     refine wl_as M rfl rfl ?_
     refine wl_nil ?_
     refine wc_region ?_
     refine wl_m M (q_add rfl rfl (IntWalk.i64_in _ (by omega))) rfl rfl ?_
     refine wl_mv M rfl rfl ?_
     refine wl_nil ?_
     replace M := M.drop 0
     refine ⟨(k4 + 1, x4.dst), ?_, ⟨(by omega), (by rw [lastD_snoc hx4]; exact (if_pos ht96).symm), M⟩, ⟨rfl, rfl, trivial⟩, unw_look rfl (unw_hav rfl (unw_look rfl unw_base))⟩
     show l_a_2.length - (k4 + 1) < l_a_2.length - k4
     omega
    refine wc_skip ?_
    refine wc_region ?_
    refine wl_m M (q_add rfl rfl (IntWalk.i64_in _ (by omega))) rfl rfl ?_
    refine wl_mv M rfl rfl ?_
    refine wl_nil ?_
    replace M := M.drop 0
    refine ⟨(k4 + 1, nx4), ?_, ⟨(by omega), (by rw [lastD_snoc hx4, if_neg (by rw [hitB, ht96]; decide)]; exact hs4), M⟩, ⟨rfl, rfl, trivial⟩, unw_look rfl (unw_hav rfl (unw_look rfl unw_base))⟩
    show l_a_2.length - (k4 + 1) < l_a_2.length - k4
    omega
   have hke4 : k4 = l_a_2.length := by omega
   rw [hke4, List.take_length] at hs4
   refine wc_exit rfl ?_
   refine wc_seq ?_
   refine wc_seq ?_
   refine wc_region ?_
   refine wl_mv M rfl rfl ?_
   refine wl_m M (q_lss rfl rfl) rfl rfl ?_
   refine wl_nil ?_
   refine wc_dec rfl (fun ht101 => ?_) (fun ht101 => ?_)
   ·refine wc_seq ?_
    refine wc_region ?_
    refine wl_m M (q_fa fo_29_0 rfl) rfl rfl ?_
    refine wl_m M (q_ldb 4 Tryd.underlying3 rfl rfl rfl rfl) rfl rfl ?_
    refine wl_as M rfl rfl ?_
    refine wl_nil ?_
    refine wc_seq ?_
    refine wc_region ?_
    refine wl_m M (q_fa fo_29_0 rfl) rfl rfl ?_
    refine wl_m M (q_ldb 4 Tryd.underlying3 rfl rfl rfl rfl) rfl rfl ?_
    refine wl_m M (q_add rfl rfl (IntWalk.i64_in _ (by omega))) rfl rfl ?_
    refine wl_m M (q_fa fo_29_0 rfl) rfl rfl ?_
    refine wl_e0 (e_stb 4 M rfl rfl rfl sz3 rfl rfl) rfl ?_
    intro _ w54 M
    simp only [sC0, sCS] at M
    refine wl_nil ?_
    refine wc_seq ?_
    refine wc_region ?_
    refine wl_mv M rfl rfl ?_
    refine wl_e (e_bsI (E := EBool) (xs := [false]) M (bs_56_1 _) ⟨⟨rfl, rfl⟩, trivial⟩ rfl rfl (by decide)) rfl rfl ?_
    rintro _ w55 ⟨u109, J109, rfl, hJ109, R109, M⟩
    have hoJ109 := M.old
    refine wl_e (e_app 1 M rfl R109 Tryd.underlying56 rfl rfl (by have := hG.1; show (_ + 1) * 1 ≤ _; omega)) rfl rfl ?_
    rintro _ w56 ⟨u110, rfl, M⟩
    replace M := M.less hJ109 hoI6
    simp only [sC0, sCS] at M
    refine wl_as M rfl rfl ?_
    refine wl_nil ?_
    refine wc_region ?_
    refine wl_m M (q_fa fo_29_3 rfl) rfl rfl ?_
    refine wl_m M (q_ldb 4 Tryd.underlying27 rfl rfl rfl rfl) rfl rfl ?_
    refine wl_mv M rfl rfl ?_
    refine wl_mv M rfl rfl ?_
    refine wl_mv M rfl rfl ?_
    refine wl_mv M rfl rfl ?_
    refine wl_m M (q_build (bd_52_0_1_2_3 _ _ _ _) ⟨⟨rfl, rfl⟩, ⟨rfl, rfl⟩, ⟨rfl, rfl⟩, ⟨rfl, rfl⟩, trivial⟩) rfl rfl ?_
    refine wl_e (e_bsI (E := EArc) (xs := [(Arc.mk at2 ((l_a_2.length : Int) + 1) 0 0)]) M (bs_27_1 _ _ _ _) ⟨⟨rfl, rfl⟩, trivial⟩ rfl rfl (by decide)) rfl rfl ?_
    rintro _ w57 ⟨u118, J118, rfl, hJ118, R118, M⟩
    have hoJ118 := M.old
    refine wl_e (e_app 2 M rfl R118 Tryd.underlying27 rfl rfl (by show (_ + 1) * 24 ≤ _; omega)) rfl rfl ?_
    rintro _ w58 ⟨u119, rfl, M⟩
    replace M := M.less hJ118 hoI6
    simp only [sC0, sCS] at M
    refine wl_m M (q_fa fo_29_3 rfl) rfl rfl ?_
    refine wl_e0 (e_stb 4 M rfl rfl rfl sz27 rfl rfl) rfl ?_
    intro _ w59 M
    simp only [sC0, sCS] at M
    refine wl_nil ?_
    refine wc_region ?_
    refine wl_mv M rfl rfl ?_
    refine wl_as M rfl rfl ?_
    refine wl_nil ?_
    refine wc_region ?_
    refine wl_mv M rfl rfl ?_
    refine wl_m M (q_add rfl rfl (IntWalk.i64_in _ (by omega))) rfl rfl ?_
    refine wl_as M rfl rfl ?_
    refine wl_nil ?_
    have hn101 := last_none (p := at2) (a := 0) (b := 0) hku hds (by rw [← hs4]; exact ht101)
    rw [show ((l_a_2.length : Int) + 1) + 1 = ((l_a_2 ++ [(⟨at2, (l_a_2.length : Int) + 1, 0, 0⟩ : Arc)]).length : Int) + 1 by simp] at M
    refine ⟨(i2 + 1, (l_a_2.length : Int) + 1, u119, l_a_2 ++ [(Arc.mk at2 ((l_a_2.length : Int) + 1) 0 0)], u110, l_5_2 ++ [false]), ?_, ⟨(by omega), (trie_new hk2x hW (getD_none (by omega)) (getD_none (by omega)) hn101), (by rw [List.length_append, List.length_singleton]; exact hG.grow hFr), (by simp; omega), M⟩, ⟨rfl, rfl, rfl, trivial⟩, unw_look rfl (unw_hav rfl (unw_look rfl (unw_hav rfl (unw_look rfl unw_base))))⟩
    show (max (runesL x0.x).length (runesL x0.y).length) - (i2 + 1) < (max (runesL x0.x).length (runesL x0.y).length) - i2
    omega
   refine wc_skip ?_
   refine wc_region ?_
   refine wl_mv M rfl rfl ?_
   refine wl_as M rfl rfl ?_
   refine wl_nil ?_
   refine wc_region ?_
   refine wl_mv M rfl rfl ?_
   refine wl_m M (q_add rfl rfl (IntWalk.i64_in _ (by omega))) rfl rfl ?_
   refine wl_as M rfl rfl ?_
   refine wl_nil ?_
   have hn101 := last_some (p := at2) (a := 0) (b := 0) hku (by rw [← hs4]; exact ht101)
   have hs5 := hs4.trans hn101.2
   refine ⟨(i2 + 1, nx4, u_a_2, l_a_2, u_5_2, l_5_2), ?_, ⟨(by omega), (by rw [hs5]; exact trie_old hk2x hW (getD_none (by omega)) (getD_none (by omega)) hn101.1), hG, (by omega), M⟩, ⟨rfl, rfl, rfl, trivial⟩, unw_look rfl (unw_hav rfl (unw_look rfl (unw_hav rfl (unw_look rfl unw_base))))⟩
   show (max (runesL x0.x).length (runesL x0.y).length) - (i2 + 1) < (max (runesL x0.x).length (runesL x0.y).length) - i2
   omega
  have hi2e : i2 = max (runesL x0.x).length (runesL x0.y).length := by simp at ht55; omega
  obtain ⟨hku, hto2, hat, hds, hll2⟩ := mid_ok hA hW
  refine wc_exit rfl ?_
  refine wc_region ?_
  refine wl_mv M rfl rfl ?_
  refine wl_mv M rfl rfl ?_
  refine wl_ixw (j := at2.toNat) 1 M rfl Tryd.underlying56 rfl (ixe (by omega)) (by have := hG.1; omega) rfl (fun b124 o124 p124 => ?_)
  refine wl_e0 (e_str (u := true) 1 M rfl rfl rfl p124 (by have := hG.1; omega) rfl) rfl ?_
  intro _ w60 M
  simp only [sC0, sCS] at M
  refine wl_nil ?_
  refine wc_region ?_
  refine wl_m M (q_add rfl rfl (IntWalk.i64_in _ (by omega))) rfl rfl ?_
  refine wl_mv M rfl rfl ?_
  refine wl_nil ?_
  replace M := M.less hI6 (fun _ _ => rfl)
  replace M := M.drop 0
  refine ⟨(k0 + 1, F0 ++ [at2], u_a_2, l_a_2, u_5_2, l_5_2.set at2.toNat true), ?_, ⟨(by omega), (all_take_succ hx0 hok0 (okT_good2 ht38)), (trie_word hx0 hA (trie_all (by rw [hi2e] at hW; exact hW))), (hG.mark hat), (by omega), M⟩, ⟨rfl, rfl, trivial⟩, unw_look rfl (unw_hav rfl (unw_look rfl (unw_hav rfl (unw_look rfl (unw_hav rfl (unw_look rfl (unw_hav rfl (unw_look rfl unw_base))))))))⟩
  show ps.length - (k0 + 1) < ps.length - k0
  omega
 have hke0 : k0 = ps.length := by omega
 rw [hke0, List.take_length] at hok0 hA
 have hGl := hG0.1
 refine wc_exit rfl ?_
 refine wc_seq ?_
 refine wc_seq ?_
 refine wc_region ?_
 refine wl_mv M rfl rfl ?_
 refine wl_m M (q_lenr 0 M rfl Tryd.underlying56 rfl) rfl rfl ?_
 refine wl_mv M rfl rfl ?_
 refine wl_nil ?_
 refine wc_block ?_
 refine wc_loop (α := Nat × SV × (List Int)) [17, 18, 128, 129, 130, 131, 132, 133, 134, 135, 136, 137, 138, 139, 140] (fun ((k6, u_f_6, l_f_6) : Nat × SV × (List Int)) => [(128, .int .i64 (k6 : Int))])
   (fun ((k6, u_f_6, l_f_6) : Nat × SV × (List Int)) w' => (k6 ≤ l_5_0.length) ∧ (l_f_6 = flgL l_5_0 k6) ∧ Mem w I I (row EBool (sv u_5_0) l_5_0 :: row EArc (sv u_a_0) l_a_0 :: row EInt (sv u_f_6) l_f_6 :: box b4 29 [.int .i64 ((l_a_0.length : Int) + 1), .int .i64 0, sv u_f_6, sv u_a_0] :: box b2 29 [.int .i64 0, .int .i64 0, .slice none 0 0, .slice none 0 0] :: []) w')
   (fun ((k6, u_f_6, l_f_6) : Nat × SV × (List Int)) => l_5_0.length - k6) (0, nilV, []) ⟨rfl, trivial⟩ ?_ ?_
 ·refine ⟨Nat.zero_le _, rfl, ?_⟩
  exact M
 rintro ⟨k6, u_f_6, l_f_6⟩ jj6 w61 ⟨hk6, hff, M⟩
 refine wc_seq ?_
 refine wc_region ?_
 refine wl_m M (q_lss rfl rfl) rfl rfl ?_
 refine wl_nil ?_
 refine wc_seq ?_
 refine wc_dec rfl (fun ht129 => ?_) (fun ht129 => ?_)
 ·obtain ⟨x6, hx6⟩ : ∃ x_, l_5_0[k6]? = some x_ := ⟨_, List.getElem?_eq_getElem (by omega)⟩
  refine wc_skip ?_
  refine wc_seq ?_
  refine wc_block ?_
  refine wc_seq ?_
  refine wc_region ?_
  refine wl_mv M rfl rfl ?_
  refine wl_ixr (j := k6) 0 M rfl Tryd.underlying56 rfl rfl hx6 rfl (fun b131 o131 p131 => ?_)
  refine wl_m M (q_ldp p131 rfl rfl) rfl rfl ?_
  refine wl_as M rfl rfl ?_
  refine wl_as M rfl rfl ?_
  refine wl_nil ?_
  refine wc_seq ?_
  refine wc_region ?_
  refine wl_mv M rfl rfl ?_
  refine wl_nil ?_
  refine wc_cond rfl (fun ht133 => ?_) (fun ht133 => ?_)
  ·refine wc_region ?_
   refine wl_m M (q_fa fo_29_2 rfl) rfl rfl ?_
   refine wl_m M (q_ldb 3 Tryd.underlying26 rfl rfl rfl rfl) rfl rfl ?_
   refine wl_mv M rfl rfl ?_
   refine wl_e (e_bsI (E := EInt) (xs := [(k6 : Int)]) M (bs_26_1 _) ⟨⟨rfl, rfl⟩, trivial⟩ rfl rfl (by decide)) rfl rfl ?_
   rintro _ w62 ⟨u137, J137, rfl, hJ137, R137, M⟩
   have hoJ137 := M.old
   refine wl_e (e_app 2 M rfl R137 Tryd.underlying26 rfl rfl (by have := flgL_len l_5_0 k6; rw [hff]; have := hG0.1; show (_ + 1) * 8 ≤ _; omega)) rfl rfl ?_
   rintro _ w63 ⟨u138, rfl, M⟩
   replace M := M.less hJ137 (fun _ _ => rfl)
   simp only [sC0, sCS] at M
   refine wl_m M (q_fa fo_29_2 rfl) rfl rfl ?_
   refine wl_e0 (e_stb 3 M rfl rfl rfl sz26 rfl rfl) rfl ?_
   intro _ w64 M
   simp only [sC0, sCS] at M
   refine wl_nil ?_
   refine wc_region ?_
   refine wl_m M (q_add rfl rfl (IntWalk.i64_in _ (by omega))) rfl rfl ?_
   refine wl_mv M rfl rfl ?_
   refine wl_nil ?_
   refine ⟨(k6 + 1, u138, l_f_6 ++ [(k6 : Int)]), ?_, ⟨(by omega), (by rw [flgL_yes (by rw [hx6, ht133]), hff]), M⟩, ⟨rfl, trivial⟩, unw_look rfl unw_base⟩
   show l_5_0.length - (k6 + 1) < l_5_0.length - k6
   omega
  refine wc_skip ?_
  refine wc_region ?_
  refine wl_m M (q_add rfl rfl (IntWalk.i64_in _ (by omega))) rfl rfl ?_
  refine wl_mv M rfl rfl ?_
  refine wl_nil ?_
  refine ⟨(k6 + 1, u_f_6, l_f_6), ?_, ⟨(by omega), (by rw [flgL_no (by rw [hx6, ht133]), hff]), M⟩, ⟨rfl, trivial⟩, unw_look rfl unw_base⟩
  show l_5_0.length - (k6 + 1) < l_5_0.length - k6
  omega
 have hke6 : k6 = l_5_0.length := by omega
 refine wc_exit rfl ?_
 refine wc_seq ?_
 rw [hke6] at hff
 have hT1 : (tries ps).1 = l_a_0 := (congrArg Prod.fst hA).symm
 have hT2 : (tries ps).2 = F0 := (congrArg Prod.snd hA).symm
 have hto := tries_ok ps (s := (([] : List Arc), ([] : List Int))) ⟨fun x hx => (by simp at hx), by simp⟩
 rw [show ps.foldl tone (([] : List Arc), ([] : List Int)) = (l_a_0, F0) from hA.symm] at hto
 have hmf : ∀ x, x ∈ l_f_6 ↔ x ∈ (tries ps).2 := fun x => by rw [hff, hT2]; exact mem_flgL hG0 hto.2 x
 have hfsr : l_f_6.Pairwise (· < ·) := by rw [hff]; exact flgL_sorted _ _
 have hfln := flgL_len l_5_0 l_5_0.length
 rw [← hff] at hfln
 have hG1 := hG0.1
 obtain ⟨I8, M, hI8, Rn⟩ := M.frzRow 2 rfl
 have hoI8 := M.old
 simp only [List.eraseIdx_cons_zero, List.eraseIdx_cons_succ] at M
 obtain ⟨I9, M, hI9, Rm⟩ := M.frzRow 1 rfl
 have hoI9 := M.old
 simp only [List.eraseIdx_cons_zero, List.eraseIdx_cons_succ] at M
 have hrng : Tra.Rng ⟨(l_a_0.length : Int) + 1, 0, l_f_6, l_a_0⟩ (l_a_0.length + 1) := by
   have h := trie_rng ps
   have h1 := h.start
   have h2 := h.fin
   have h3 := h.arcs
   simp only [trieT, hT1] at h1 h2 h3
   exact ⟨h1, fun f hf => h2 f ((hmf f).1 hf), h3⟩
 have hfin : FinS ⟨(l_a_0.length : Int) + 1, 0, l_f_6, l_a_0⟩ (l_a_0.length + 1) = PairsS ps := by
   have h := pairs_fin (ps := ps) hmf
   rw [pairs_ok hok0, ← h, hT1]
 refine wc_region ?_
 refine wl_m M (q_ldbA 1 Tryd.underlying29 rfl sz29 rfl rfl rfl rfl) rfl rfl ?_
 refine wl_e (e_callC M (limited4_c (t := ⟨(l_a_0.length : Int) + 1, 0, l_f_6, l_a_0⟩) (m := l_a_0.length + 1) (by simp) (by omega) hrng hfsr (by show l_a_0.length ≤ _; omega) (by show l_f_6.length ≤ _; omega) M.imm ⟨_, _, rfl, (Rn.mono hI9), Rm⟩) Tryd.func45 rfl rfl) rfl rfl ?_
 rw [hfin]
 rintro _ w65 ⟨J142, hJ142, ⟨_, rfl, ⟨fu142, au142, rfl, Rf142, Ra142⟩⟩, M⟩
 have hoJ142 := M.old
 refine wl_m M (q_ext rfl rfl) rfl rfl ?_
 refine wl_m M (q_ext rfl rfl) rfl rfl ?_
 refine wl_e0 (e_stW 2 M rfl rfl rfl sz29 rfl rfl) rfl ?_
 intro _ w66 M
 simp only [sC0, sCS] at M
 refine wl_as M rfl rfl ?_
 refine wl_nil ?_
 refine wc_ret ?_
 exact outc2 rfl rfl (load_boxA M 2 Tryd.underlying29 rfl sz29 rfl rfl rfl) rfl ⟨_, _, rfl, M.grow, _, rfl, ⟨_, _, rfl, Rf142, Ra142⟩⟩
theorem words4_c (ws : List ByteArray) (hws : ws.length ≤ 1000) (hsz : ∀ s ∈ ws, s.size ≤ 100000) {u : SV} {I : Heap} {w : World} (hI : hle I (hp w)) (R0 : rdSl EStr I (sv u) ws) :
    Calls A 18 #[sv u] w (Ret w I fun r I' => ∃ (v' : Value) (t : Tra) (e : Int), r = .tuple #[v', .int .i64 e] ∧ t.rd I' v' ∧ (t, e) = PairsS (ws.map fun s => ⟨s, s⟩)) := by
 have M := Mem.start hI
 refine enter Tryd.func18 rfl 24 Tryd.ntmps18 [_] rfl ?_
 refine wc_seq ?_
 refine wc_region ?_
 refine wl_e (e_alloc M z29) rfl rfl ?_
 rintro _ w1 ⟨b2, rfl, M⟩
 refine wl_as M rfl rfl ?_
 refine wl_nil ?_
 refine wc_seq ?_
 refine wc_region ?_
 refine wl_as M rfl rfl ?_
 replace M := M.nilRow ESPair
 refine wl_nil ?_
 refine wc_seq ?_
 refine wc_seq ?_
 refine wc_region ?_
 refine wl_mv M rfl rfl ?_
 refine wl_m M (q_lenR R0 Tryd.underlying23 rfl) rfl rfl ?_
 refine wl_mv M rfl rfl ?_
 refine wl_nil ?_
 refine wc_block ?_
 refine wc_loop (α := Nat × SV × (List SPair)) [4, 6, 9, 10, 11, 12, 13, 14, 15, 16, 17, 18, 19] (fun ((k0, u_4_0, l_4_0) : Nat × SV × (List SPair)) => [(9, .int .i64 (k0 : Int)), (4, sv u_4_0)])
   (fun ((k0, u_4_0, l_4_0) : Nat × SV × (List SPair)) w' => (k0 ≤ ws.length) ∧ (l_4_0 = (ws.take k0).map fun s => SPair.mk s s) ∧ Mem w I I (row ESPair (sv u_4_0) l_4_0 :: box b2 29 [.int .i64 0, .int .i64 0, .slice none 0 0, .slice none 0 0] :: []) w')
   (fun ((k0, u_4_0, l_4_0) : Nat × SV × (List SPair)) => ws.length - k0) (0, nilV, []) ⟨rfl, rfl, trivial⟩ ?_ ?_
 ·refine ⟨Nat.zero_le _, rfl, ?_⟩
  exact M
 rintro ⟨k0, u_4_0, l_4_0⟩ jj0 w2 ⟨hk0, hps, M⟩
 refine wc_seq ?_
 refine wc_region ?_
 refine wl_m M (q_lss rfl rfl) rfl rfl ?_
 refine wl_nil ?_
 refine wc_seq ?_
 refine wc_dec rfl (fun ht10 => ?_) (fun ht10 => ?_)
 ·obtain ⟨x0, hx0⟩ : ∃ x_, ws[k0]? = some x_ := ⟨_, List.getElem?_eq_getElem (by omega)⟩
  have hll0 := (R0).len_le
  refine wc_skip ?_
  refine wc_seq ?_
  refine wc_block ?_
  refine wc_seq ?_
  refine wc_region ?_
  refine wl_ix (j := k0) M R0 Tryd.underlying23 rfl rfl hx0 rfl (fun b11 o11 p11 => ?_)
  refine wl_m M (q_ldp p11 rfl rfl) rfl rfl ?_
  refine wl_as M rfl rfl ?_
  refine wl_nil ?_
  refine wc_region ?_
  refine wl_mv M rfl rfl ?_
  refine wl_mv M rfl rfl ?_
  refine wl_mv M rfl rfl ?_
  refine wl_m M (q_build (bd_25_0_1 _ _) ⟨⟨rfl, rfl⟩, ⟨rfl, rfl⟩, trivial⟩) rfl rfl ?_
  refine wl_e (e_bsI (E := ESPair) (xs := [(SPair.mk x0 x0)]) M (bs_22_1 _ _) ⟨⟨rfl, rfl⟩, trivial⟩ rfl rfl (by decide)) rfl rfl ?_
  rintro _ w3 ⟨u17, J17, rfl, hJ17, R17, M⟩
  have hoJ17 := M.old
  refine wl_e (e_app 0 M rfl R17 Tryd.underlying22 rfl rfl (by rw [hps, List.length_map, List.length_take]; show (_ + 1) * 32 ≤ _; omega)) rfl rfl ?_
  rintro _ w4 ⟨u18, rfl, M⟩
  replace M := M.less hJ17 (fun _ _ => rfl)
  simp only [sC0, sCS] at M
  refine wl_as M rfl rfl ?_
  refine wl_nil ?_
  refine wc_region ?_
  refine wl_m M (q_add rfl rfl (IntWalk.i64_in _ (by omega))) rfl rfl ?_
  refine wl_mv M rfl rfl ?_
  refine wl_nil ?_
  refine ⟨(k0 + 1, u18, l_4_0 ++ [(SPair.mk x0 x0)]), ?_, ⟨(by omega), (by rw [take_snoc hx0, List.map_append, hps]; rfl), M⟩, ⟨rfl, rfl, trivial⟩, unw_look rfl unw_base⟩
  show ws.length - (k0 + 1) < ws.length - k0
  omega
 have hke0 : k0 = ws.length := by omega
 refine wc_exit rfl ?_
 refine wc_seq ?_
 rw [hke0, List.take_length] at hps
 subst hps
 obtain ⟨I9, M, hI9, Rn⟩ := M.frzRow 0 rfl
 have hoI9 := M.old
 simp only [List.eraseIdx_cons_zero, List.eraseIdx_cons_succ] at M
 refine wc_region ?_
 refine wl_mv M rfl rfl ?_
 refine wl_e (e_callC M (pairs4_c (ws.map fun s => SPair.mk s s) (by simpa using hws) (by intro p hp; obtain ⟨s, hs, rfl⟩ := List.mem_map.1 hp; exact ⟨hsz s hs, hsz s hs⟩) M.imm Rn) Tryd.func16 rfl rfl) rfl rfl ?_
 rintro _ w5 ⟨J21, hJ21, ⟨_, rfl, ⟨fu21, au21, rfl, Rf21, Ra21⟩⟩, M⟩
 have hoJ21 := M.old
 refine wl_m M (q_ext rfl rfl) rfl rfl ?_
 refine wl_m M (q_ext rfl rfl) rfl rfl ?_
 refine wl_e0 (e_stW 0 M rfl rfl rfl sz29 rfl rfl) rfl ?_
 intro _ w6 M
 simp only [sC0, sCS] at M
 refine wl_as M rfl rfl ?_
 refine wl_nil ?_
 refine wc_ret ?_
 exact outc2 rfl rfl (load_boxA M 0 Tryd.underlying29 rfl sz29 rfl rfl rfl) rfl ⟨_, _, rfl, M.grow, _, (PairsS (ws.map fun s => SPair.mk s s)).1, (PairsS (ws.map fun s => SPair.mk s s)).2, rfl, ⟨_, _, rfl, Rf21, Ra21⟩, rfl⟩
end Go.Proofs.YtoilmeiikgegcaaDoor.G
