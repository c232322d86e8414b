/- Walks of the program's functions. -/
import Derived.Test.YtoilmeiikgegcaaDoorWVc
import Derived.Test.YtoilmeiikgegcaaDoorGArr
set_option linter.all false
namespace Go.Proofs.YtoilmeiikgegcaaDoor.G
open Go Go.RowKit
theorem readableA_c (s : ByteArray) (hs : s.size ≤ 70368744177664) {I : Heap} {w : World} (hI : hle I (hp w)) (hT : Tabs I) : Calls A 42 #[.string s] w (Ret w I fun r _ => r = .bool (okS s)) := by
 have M := Mem.start hI
 refine enter Tryd.func42 rfl 10 Tryd.ntmps42 [_] rfl ?_
 refine wc_seq ?_
 refine wc_region ?_
 refine wl_as M rfl rfl ?_
 refine wl_nil ?_
 refine wc_seq ?_
 refine wc_join (α := Unit) [2, 3, 4, 5, 6, 7, 8, 9] (fun _ => [(2, .bool ((Lib.validD s.data.toList) && (!(decide ((0 : Int) ∈ bytesL s)))))]) (fun _ w' => Mem w I I ([]) w') ?_ ?_
 ·refine wc_region ?_
  refine wl_mv M rfl rfl ?_
  refine wl_e (e_callC M (validS_c s hs M.imm hT) Tryd.func67 rfl rfl) rfl rfl ?_
  rintro _ w1 ⟨J4, hJ4, rfl, M⟩
  replace M := M.less hJ4 (fun _ _ => rfl)
  refine wl_mv M rfl rfl ?_
  rcases Bool.eq_false_or_eq_true (Lib.validD s.data.toList) with hg5 | hg5
  ·refine wl_m M (q_guard 2 rfl rfl rfl hg5 (q_move rfl)) rfl rfl ?_
   refine wl_e (e_guard 2 rfl rfl rfl hg5 (e_callC M (containsZ_c s M.imm) Tryd.func68 rfl rfl)) rfl rfl ?_
   rintro _ w2 ⟨J7, hJ7, rfl, M⟩
   replace M := M.less hJ7 (fun _ _ => rfl)
   refine wl_m M (q_guard 2 rfl rfl rfl hg5 (q_not rfl)) rfl rfl ?_
   refine wl_m M (q_pickT rfl hg5 rfl) rfl rfl ?_
   refine wl_as M rfl rfl ?_
   refine wl_nil ?_
   exact ⟨(), M, ⟨(show some (Value.bool (!(decide ((0 : Int) ∈ bytesL s)))) = some (Value.bool ((Lib.validD s.data.toList) && (!(decide ((0 : Int) ∈ bytesL s))))) from by first | (simp only [hg5, Bool.true_or, Bool.false_or, Bool.true_and, Bool.false_and, Bool.or_true, Bool.or_false, Bool.and_true, Bool.and_false]; done) | simp_all), trivial⟩, unw_take 8 rfl rfl⟩
  refine wl_m M (q_off 2 rfl rfl rfl hg5) rfl rfl ?_
  refine wl_m M (q_off 2 rfl rfl rfl hg5) rfl rfl ?_
  refine wl_m M (q_off 2 rfl rfl rfl hg5) rfl rfl ?_
  refine wl_m M (q_pickF rfl hg5 rfl) rfl rfl ?_
  refine wl_as M rfl rfl ?_
  refine wl_nil ?_
  exact ⟨(), M, ⟨(show some (Value.bool false) = some (Value.bool ((Lib.validD s.data.toList) && (!(decide ((0 : Int) ∈ bytesL s))))) from by first | (simp only [hg5, Bool.true_or, Bool.false_or, Bool.true_and, Bool.false_and, Bool.or_true, Bool.or_false, Bool.and_true, Bool.and_false]; done) | simp_all), trivial⟩, unw_take 8 rfl rfl⟩
 rintro _ jr1 w3 M
 refine wc_ret ?_
 exact out1 rfl rfl ⟨_, _, rfl, M.grow, rfl⟩
set_option maxRecDepth 4000 in
set_option maxHeartbeats 1000000 in
theorem pairs_c (ps : List SPair) (hps : ps.length ≤ 1000) (hsz : ∀ p ∈ ps, p.x.size ≤ 100000 ∧ p.y.size ≤ 100000) {u : SV} {I : Heap} {w : World} (hI : hle I (hp w)) (hT : Tabs I) (R0 : rdSl ESPair I (sv u) ps) :
    Calls A 15 #[sv u] w (Ret w I fun r I' => ∃ v', r = .tuple #[v', .int .i64 (PairsS ps).2] ∧ (PairsS ps).1.rd I' v') := by
 have M := Mem.start hI
 refine enter Tryd.func15 rfl 119 Tryd.ntmps15 [_] rfl ?_
 refine wc_seq ?_
 refine wc_region ?_
 refine wl_e (e_alloc M z29) rfl rfl ?_
 rintro _ w1 ⟨b2, rfl, M⟩
 refine wl_as M rfl rfl ?_
 refine wl_nil ?_
 refine wc_seq ?_
 refine wc_seq ?_
 refine wc_region ?_
 refine wl_mv M rfl rfl ?_
 refine wl_m M (q_lenR R0 Tryd.underlying22 rfl) rfl rfl ?_
 refine wl_mv M rfl rfl ?_
 refine wl_nil ?_
 refine wc_block ?_
 refine wc_loop (α := Nat) [3, 5, 19, 20, 21, 22, 23, 24, 25, 26, 27, 28, 29, 30, 31, 32, 33, 34] (fun (k0 : Nat) => [(19, .int .i64 (k0 : Int))])
   (fun (k0 : Nat) w' => (k0 ≤ ps.length) ∧ ((ps.take k0).all okP = true) ∧ Mem w I I (box b2 29 [.int .i64 0, .int .i64 0, .slice none 0 0, .slice none 0 0] :: []) w')
   (fun (k0 : Nat) => ps.length - k0) (0) ⟨rfl, trivial⟩ ?_ ?_
 ·refine ⟨Nat.zero_le _, rfl, ?_⟩
  exact M
 rintro k0 jj0 w2 ⟨hk0, hok0, M⟩
 refine wc_seq ?_
 refine wc_region ?_
 refine wl_m M (q_lss rfl rfl) rfl rfl ?_
 refine wl_nil ?_
 refine wc_seq ?_
 refine wc_dec rfl (fun ht20 => ?_) (fun ht20 => ?_)
 ·obtain ⟨x0, hx0⟩ : ∃ x_, ps[k0]? = some x_ := ⟨_, List.getElem?_eq_getElem (by omega)⟩
  have hll0 := (R0).len_le
  have hsx0 := hsz x0 (List.mem_of_getElem? hx0)
  refine wc_skip ?_
  refine wc_seq ?_
  refine wc_block ?_
  refine wc_seq ?_
  refine wc_region ?_
  refine wl_ix (j := k0) M R0 Tryd.underlying22 rfl rfl hx0 rfl (fun b21 o21 p21 => ?_)
  refine wl_m M (q_ldp p21 rfl rfl) rfl rfl ?_
  refine wl_e (e_alloc M z25) rfl rfl ?_
  rintro _ w3 ⟨b5, rfl, M⟩
  refine wl_e0 (e_stW 0 M rfl rfl rfl sz25 rfl rfl) rfl ?_
  intro _ w4 M
  simp only [sC0, sCS] at M
  refine wl_nil ?_
  refine wc_seq ?_
  refine wc_join (α := Unit) [23, 24, 25, 26, 27, 28, 29, 30, 31, 32] (fun _ => [(32, .bool ((!(okS x0.x)) || (!(okS x0.y))))]) (fun _ w' => Mem w I I (box b5 25 [.string x0.x, .string x0.y] :: box b2 29 [.int .i64 0, .int .i64 0, .slice none 0 0, .slice none 0 0] :: []) w') ?_ ?_
  ·refine wc_region ?_
   refine wl_m M (q_ia (i := 0) Tryd.underlying25 sz9 rfl rfl (by decide)) rfl rfl ?_
   refine wl_m M (q_ldb 0 Tryd.underlying9 rfl rfl rfl rfl) rfl rfl ?_
   refine wl_e (e_callC M (readableA_c x0.x (by omega) M.imm hT) Tryd.func42 rfl rfl) rfl rfl ?_
   rintro _ w5 ⟨J25, hJ25, rfl, M⟩
   replace M := M.less hJ25 (fun _ _ => rfl)
   refine wl_m M (q_not rfl) rfl rfl ?_
   refine wl_mv M rfl rfl ?_
   rcases Bool.eq_false_or_eq_true (!(okS x0.x)) with hg27 | hg27
   ·refine wl_m M (q_off 4 rfl rfl rfl hg27) rfl rfl ?_
    refine wl_m M (q_off 4 rfl rfl rfl hg27) rfl rfl ?_
    refine wl_m M (q_off 4 rfl rfl rfl hg27) rfl rfl ?_
    refine wl_m M (q_off 4 rfl rfl rfl hg27) rfl rfl ?_
    refine wl_m M (q_pickT rfl hg27 rfl) rfl rfl ?_
    refine wl_nil ?_
    exact ⟨(), M, ⟨(show some (Value.bool true) = some (Value.bool ((!(okS x0.x)) || (!(okS x0.y)))) from by first | (simp only [hg27, Bool.true_or, Bool.false_or, Bool.true_and, Bool.false_and, Bool.or_true, Bool.or_false, Bool.and_true, Bool.and_false]; done) | simp_all), trivial⟩, unw_take 10 rfl rfl⟩
   refine wl_m M (q_guard 4 rfl rfl rfl hg27 (q_ia (i := 1) Tryd.underlying25 sz9 rfl rfl (by decide))) rfl rfl ?_
   refine wl_m M (q_guard 4 rfl rfl rfl hg27 (q_ldb 0 Tryd.underlying9 rfl rfl rfl rfl)) rfl rfl ?_
   refine wl_e (e_guard 4 rfl rfl rfl hg27 (e_callC M (readableA_c x0.y (by omega) M.imm hT) Tryd.func42 rfl rfl)) rfl rfl ?_
   rintro _ w6 ⟨J30, hJ30, rfl, M⟩
   replace M := M.less hJ30 (fun _ _ => rfl)
   refine wl_m M (q_guard 4 rfl rfl rfl hg27 (q_not rfl)) rfl rfl ?_
   refine wl_m M (q_pickF rfl hg27 rfl) rfl rfl ?_
   refine wl_nil ?_
   exact ⟨(), M, ⟨(show some (Value.bool (!(okS x0.y))) = some (Value.bool ((!(okS x0.x)) || (!(okS x0.y)))) from by first | (simp only [hg27, Bool.true_or, Bool.false_or, Bool.true_and, Bool.false_and, Bool.or_true, Bool.or_false, Bool.and_true, Bool.and_false]; done) | simp_all), trivial⟩, unw_take 10 rfl rfl⟩
  rintro _ jr4 w7 M
  refine wc_cond rfl (fun ht32 => ?_) (fun ht32 => ?_)
  ·refine wc_seq ?_
   refine wc_region ?_
   refine wl_m M (q_build (bd_29) trivial) rfl rfl ?_
   refine wl_e0 (e_stW 1 M rfl rfl rfl sz29 rfl rfl) rfl ?_
   intro _ w8 M
   simp only [sC0, sCS] at M
   refine wl_as M rfl rfl ?_
   refine wl_nil ?_
   refine wc_ret ?_
   exact outc2 rfl rfl (load_boxA M 1 Tryd.underlying29 rfl sz29 rfl rfl rfl) rfl ⟨_, _, rfl, M.grow, _, by rw [pairs_bad hx0 (okP_bad ht32)], by rw [pairs_bad hx0 (okP_bad ht32)]; exact ⟨nilV, nilV, rfl, rdSl_nil _, rdSl_nil _⟩⟩
  refine wc_skip ?_
  refine wc_region ?_
  refine wl_m M (q_add rfl rfl (IntWalk.i64_in _ (by omega))) rfl rfl ?_
  refine wl_mv M rfl rfl ?_
  refine wl_nil ?_
  replace M := M.drop 0
  refine ⟨(k0 + 1), ?_, ⟨(by omega), (all_take_succ hx0 hok0 (by simpa [okP] using ht32)), M⟩, ⟨rfl, trivial⟩, unw_look rfl (unw_hav rfl (unw_look rfl unw_base))⟩
  show ps.length - (k0 + 1) < ps.length - k0
  omega
 have hke0 : k0 = ps.length := by omega
 rw [hke0, List.take_length] at hok0
 refine wc_exit rfl ?_
 refine wc_seq ?_
 refine wc_region ?_
 refine wl_m M (q_build (bd_29_0 _) ⟨⟨rfl, rfl⟩, trivial⟩) rfl rfl ?_
 refine wl_e (e_alloc M z29) rfl rfl ?_
 rintro _ w9 ⟨b6, rfl, M⟩
 refine wl_e0 (e_stW 0 M rfl rfl rfl sz29 rfl rfl) rfl ?_
 intro _ w10 M
 simp only [sC0, sCS] at M
 refine wl_nil ?_
 refine wc_seq ?_
 refine wc_region ?_
 refine wl_e (e_mkm QArc (Value.int .i64) M) rfl rfl ?_
 rintro _ w11 ⟨b36, rfl, M⟩
 refine wl_as M rfl rfl ?_
 refine wl_nil ?_
 refine wc_seq ?_
 refine wc_seq ?_
 replace M := M.nilRow EInt
 replace M := M.nilRow EArc
 refine wc_region ?_
 refine wl_mv M rfl rfl ?_
 refine wl_m M (q_lenR R0 Tryd.underlying22 rfl) rfl rfl ?_
 refine wl_mv M rfl rfl ?_
 refine wl_nil ?_
 refine wc_block ?_
 refine wc_loop (α := Nat × SV × (List Int) × SV × (List Arc) × (List (Arc × Int))) [9, 10, 11, 12, 13, 14, 15, 16, 39, 40, 41, 42, 43, 44, 45, 46, 47, 48, 49, 50, 51, 52, 53, 54, 55, 56, 57, 58, 59, 60, 61, 62, 63, 64, 65, 66, 67, 68, 69, 70, 71, 72, 73, 74, 75, 76, 77, 78, 79, 80, 81, 82, 83, 84, 85, 86, 87, 88, 89, 90, 91, 92, 93, 94, 95, 96, 97, 98, 99, 100, 101, 102, 103, 104, 105, 106, 107, 108, 109, 110, 111, 112, 113, 114] (fun ((k2, u_f_2, l_f_2, u_a_2, l_a_2, m_36_2) : Nat × SV × (List Int) × SV × (List Arc) × (List (Arc × Int))) => [(39, .int .i64 (k2 : Int))])
   (fun ((k2, u_f_2, l_f_2, u_a_2, l_a_2, m_36_2) : Nat × SV × (List Int) × SV × (List Arc) × (List (Arc × Int))) w' => (k2 ≤ ps.length) ∧ ((l_a_2, l_f_2) = (ps.take k2).foldl tone (([] : List Arc), ([] : List Int))) ∧ (m_36_2 = l_a_2.map tkey) ∧ (l_a_2.length ≤ k2 * 100000 ∧ l_f_2.length ≤ k2) ∧ Mem w I I (row EArc (sv u_a_2) l_a_2 :: row EInt (sv u_f_2) l_f_2 :: mpr QArc (Value.int .i64) b36 m_36_2 :: box b6 29 [.int .i64 ((l_a_2.length : Int) + 1), .int .i64 0, sv u_f_2, sv u_a_2] :: box b2 29 [.int .i64 0, .int .i64 0, .slice none 0 0, .slice none 0 0] :: []) w')
   (fun ((k2, u_f_2, l_f_2, u_a_2, l_a_2, m_36_2) : Nat × SV × (List Int) × SV × (List Arc) × (List (Arc × Int))) => ps.length - k2) (0, nilV, [], nilV, [], []) ⟨rfl, trivial⟩ ?_ ?_
 ·refine ⟨Nat.zero_le _, rfl, rfl, ⟨by simp, by simp⟩, ?_⟩
  exact M
 rintro ⟨k2, u_f_2, l_f_2, u_a_2, l_a_2, m_36_2⟩ jj2 w12 ⟨hk2, hA, hm, hlen, M⟩
 refine wc_seq ?_
 refine wc_region ?_
 refine wl_m M (q_lss rfl rfl) rfl rfl ?_
 refine wl_nil ?_
 refine wc_seq ?_
 refine wc_dec rfl (fun ht40 => ?_) (fun ht40 => ?_)
 ·obtain ⟨x2, hx2⟩ : ∃ x_, ps[k2]? = some x_ := ⟨_, List.getElem?_eq_getElem (by omega)⟩
  have hll2 := (R0).len_le
  have hsx2 := hsz x2 (List.mem_of_getElem? hx2)
  have hlx := runesL_le x2.x
  have hly := runesL_le x2.y
  refine wc_skip ?_
  refine wc_seq ?_
  refine wc_block ?_
  refine wc_seq ?_
  refine wc_region ?_
  refine wl_ix (j := k2) M R0 Tryd.underlying22 rfl rfl hx2 rfl (fun b41 o41 p41 => ?_)
  refine wl_m M (q_ldp p41 rfl rfl) rfl rfl ?_
  refine wl_e (e_alloc M z25) rfl rfl ?_
  rintro _ w13 ⟨b9, rfl, M⟩
  refine wl_e0 (e_stW 0 M rfl rfl rfl sz25 rfl rfl) rfl ?_
  intro _ w14 M
  simp only [sC0, sCS] at M
  refine wl_nil ?_
  refine wc_seq ?_
  refine wc_join (α := Heap × SV × SV) [10, 11, 43, 44, 45, 46, 47, 48] (fun ((I6, u45, u48) : Heap × SV × SV) => [(10, sv u45), (11, sv u48)]) (fun ((I6, u45, u48) : Heap × SV × SV) w' => hle I I6 ∧ rdSl ERune I6 (sv u45) (runesL x2.x) ∧ rdSl ERune I6 (sv u48) (runesL x2.y) ∧ Mem w I I6 (box b9 25 [.string x2.x, .string x2.y] :: row EArc (sv u_a_2) l_a_2 :: row EInt (sv u_f_2) l_f_2 :: mpr QArc (Value.int .i64) b36 m_36_2 :: box b6 29 [.int .i64 ((l_a_2.length : Int) + 1), .int .i64 0, sv u_f_2, sv u_a_2] :: box b2 29 [.int .i64 0, .int .i64 0, .slice none 0 0, .slice none 0 0] :: []) w') ?_ ?_
  ·refine wc_draws (fun w' => Mem w I I (box b9 25 [.string x2.x, .string x2.y] :: row EArc (sv u_a_2) l_a_2 :: row EInt (sv u_f_2) l_f_2 :: mpr QArc (Value.int .i64) b36 m_36_2 :: box b6 29 [.int .i64 ((l_a_2.length : Int) + 1), .int .i64 0, sv u_f_2, sv u_a_2] :: box b2 29 [.int .i64 0, .int .i64 0, .slice none 0 0, .slice none 0 0] :: []) w' ∧ True) [] fol ?_
   replace M := M.drew
   have hS := (⟨M, trivial⟩ : _ ∧ _)
   refine wa_q 0 rfl (by kernel_rfl) (q_ia (i := 0) Tryd.underlying25 sz9 rfl rfl (by decide)) hS rfl rfl ?_
   refine wa_q 1 rfl (by kernel_rfl) ((q_ldb 0 Tryd.underlying9 rfl rfl rfl rfl).mono fun _ h => h.1) hS rfl rfl ?_
   refine wa_q 3 rfl (by kernel_rfl) (q_ia (i := 1) Tryd.underlying25 sz9 rfl rfl (by decide)) hS rfl rfl ?_
   refine wa_q 4 rfl (by kernel_rfl) ((q_ldb 0 Tryd.underlying9 rfl rfl rfl rfl).mono fun _ h => h.1) hS rfl rfl ?_
   refine wa_es [2, 5] (by kernel_rfl) (by decide) ⟨?_, ?_, trivial⟩
   ·refine one_e 2 rfl (e_cvRI (E := ERune) (s := x2.x) M (fun _ => rfl) Tryd.underlying9 Tryd.underlying47 Tryd.underlying21 (by omega) rfl) rfl rfl ?_
    rintro v45 w15 ⟨J45, hJ45, R45, M⟩
    obtain ⟨u45, rfl⟩ := rdSl_slice R45
    have hoJ45 := M.old
    have hS := (⟨(M.less hJ45 (fun _ _ => rfl)), trivial⟩ : _ ∧ _)
    refine ⟨fun _ => hS, ?_⟩
    replace R45 : rdSl ERune J45 (sv u45) (runesL x2.x) := R45
    refine wa_q 6 rfl (by kernel_rfl) (q_assign rfl) hS rfl rfl ?_
    refine wa_e 5 rfl (by kernel_rfl) (e_cvRI (E := ERune) (s := x2.y) M (fun _ => rfl) Tryd.underlying9 Tryd.underlying47 Tryd.underlying21 (by omega) rfl) rfl rfl ?_
    rintro v48 w16 ⟨J48, hJ48, R48, M⟩
    obtain ⟨u48, rfl⟩ := rdSl_slice R48
    have hoJ48 := M.old
    have hS := (⟨(M.less (hle.trans hJ45 hJ48) (fun _ _ => rfl)), trivial⟩ : _ ∧ _)
    refine ⟨fun _ => hS, ?_⟩
    replace R48 : rdSl ERune J48 (sv u48) (runesL x2.y) := R48
    refine wa_q 7 rfl (by kernel_rfl) (q_assign rfl) hS rfl rfl ?_
    refine wa_done (by kernel_rfl) ?_
    exact ⟨(J48, u45, u48), ⟨(hle.trans hJ45 hJ48), (R45.mono hJ48), R48, M⟩, ⟨rfl, rfl, trivial⟩, unw_take 8 rfl rfl⟩
   ·refine one_e 5 rfl (e_cvRI (E := ERune) (s := x2.y) M (fun _ => rfl) Tryd.underlying9 Tryd.underlying47 Tryd.underlying21 (by omega) rfl) rfl rfl ?_
    rintro v48 w17 ⟨J48, hJ48, R48, M⟩
    obtain ⟨u48, rfl⟩ := rdSl_slice R48
    have hoJ48 := M.old
    have hS := (⟨(M.less hJ48 (fun _ _ => rfl)), trivial⟩ : _ ∧ _)
    refine ⟨fun _ => hS, ?_⟩
    replace R48 : rdSl ERune J48 (sv u48) (runesL x2.y) := R48
    refine wa_e 2 rfl (by kernel_rfl) (e_cvRI (E := ERune) (s := x2.x) M (fun _ => rfl) Tryd.underlying9 Tryd.underlying47 Tryd.underlying21 (by omega) rfl) rfl rfl ?_
    rintro v45 w18 ⟨J45, hJ45, R45, M⟩
    obtain ⟨u45, rfl⟩ := rdSl_slice R45
    have hoJ45 := M.old
    have hS := (⟨(M.less (hle.trans hJ48 hJ45) (fun _ _ => rfl)), trivial⟩ : _ ∧ _)
    refine ⟨fun _ => hS, ?_⟩
    replace R45 : rdSl ERune J45 (sv u45) (runesL x2.x) := R45
    refine wa_q 6 rfl (by kernel_rfl) (q_assign rfl) hS rfl rfl ?_
    refine wa_q 7 rfl (by kernel_rfl) (q_assign rfl) hS rfl rfl ?_
    refine wa_done (by kernel_rfl) ?_
    exact ⟨(J45, u45, u48), ⟨(hle.trans hJ48 hJ45), R45, (R48.mono hJ45), M⟩, ⟨rfl, rfl, trivial⟩, unw_take 8 rfl rfl⟩
  rintro ⟨I6, u45, u48⟩ jr12 w19 ⟨hI6, R45, R48, M⟩
  have hoI6 := M.old
  refine wc_seq ?_
  refine wc_region ?_
  refine wl_as M rfl rfl ?_
  refine wl_nil ?_
  refine wc_seq ?_
  refine wc_seq ?_
  refine wc_region ?_
  refine wl_as M rfl rfl ?_
  refine wl_nil ?_
  refine wc_block ?_
  refine wc_loop (α := Nat × Int × SV × (List Arc) × (List (Arc × Int))) [12, 13, 14, 15, 16, 49, 50, 51, 52, 53, 54, 55, 56, 57, 58, 59, 60, 61, 62, 63, 64, 65, 66, 67, 68, 69, 70, 71, 72, 73, 74, 75, 76, 77, 78, 79, 80, 81, 82, 83, 84, 85, 86, 87, 88, 89, 90, 91, 92, 93, 94, 95, 96, 97, 98, 99, 100, 101, 102, 103, 104, 105, 106, 107] (fun ((k4, at4, u_a_4, l_a_4, m_36_4) : Nat × Int × SV × (List Arc) × (List (Arc × Int))) => [(12, .int .i64 at4), (13, .int .i64 (k4 : Int))])
    (fun ((k4, at4, u_a_4, l_a_4, m_36_4) : Nat × Int × SV × (List Arc) × (List (Arc × Int))) w' => (k4 ≤ (max (runesL x2.x).length (runesL x2.y).length)) ∧ ((l_a_4, at4) = ((zipL (runesL x2.x) (runesL x2.y)).take k4).foldl tstep (l_a_2, 0)) ∧ (m_36_4 = l_a_4.map tkey) ∧ (l_a_4.length ≤ k2 * 100000 + k4) ∧ Mem w I I6 (box b9 25 [.string x2.x, .string x2.y] :: row EArc (sv u_a_4) l_a_4 :: row EInt (sv u_f_2) l_f_2 :: mpr QArc (Value.int .i64) b36 m_36_4 :: box b6 29 [.int .i64 ((l_a_4.length : Int) + 1), .int .i64 0, sv u_f_2, sv u_a_4] :: box b2 29 [.int .i64 0, .int .i64 0, .slice none 0 0, .slice none 0 0] :: []) w')
    (fun ((k4, at4, u_a_4, l_a_4, m_36_4) : Nat × Int × SV × (List Arc) × (List (Arc × Int))) => (max (runesL x2.x).length (runesL x2.y).length) - k4) (0, 0, u_a_2, l_a_2, m_36_2) ⟨rfl, rfl, trivial⟩ ?_ ?_
  ·refine ⟨Nat.zero_le _, rfl, hm, (by omega), ?_⟩
   exact M
  rintro ⟨k4, at4, u_a_4, l_a_4, m_36_4⟩ jj4 w20 ⟨hk4, hW, hm4, hlen4, M⟩
  have hoI6 := M.old
  refine wc_seq ?_
  refine wc_seq ?_
  refine wc_region ?_
  refine wl_mv M rfl rfl ?_
  refine wl_mv M rfl rfl ?_
  refine wl_m M (q_lenR R45 Tryd.underlying47 rfl) rfl rfl ?_
  refine wl_mv M rfl rfl ?_
  refine wl_m M (q_lenR R48 Tryd.underlying47 rfl) rfl rfl ?_
  refine wl_m M (q_max rfl rfl) rfl rfl ?_
  refine wl_m M (q_lss rfl rfl) rfl rfl ?_
  refine wl_nil ?_
  refine wc_dec rfl (fun ht55 => ?_) (fun ht55 => ?_)
  ·have hk4x : k4 < max (runesL x2.x).length (runesL x2.y).length := by omega
   refine wc_skip ?_
   refine wc_seq ?_
   refine wc_block ?_
   refine wc_seq ?_
   refine wc_region ?_
   refine wl_mv M rfl rfl ?_
   refine wl_m M (q_build (bd_52_0 _) ⟨⟨rfl, rfl⟩, trivial⟩) rfl rfl ?_
   refine wl_e (e_alloc M z52) rfl rfl ?_
   rintro _ w21 ⟨b14, rfl, M⟩
   refine wl_e0 (e_stW 0 M rfl rfl rfl sz52 rfl rfl) rfl ?_
   intro _ w22 M
   simp only [sC0, sCS] at M
   refine wl_nil ?_
   refine wc_seq ?_
   refine wc_seq ?_
   refine wc_region ?_
   refine wl_mv M rfl rfl ?_
   refine wl_mv M rfl rfl ?_
   refine wl_m M (q_lenR R45 Tryd.underlying47 rfl) rfl rfl ?_
   refine wl_m M (q_lss rfl rfl) rfl rfl ?_
   refine wl_nil ?_
   refine wc_dec rfl (fun ht63 => ?_) (fun ht63 => ?_)
   ·refine wc_region ?_
    refine wl_mv M rfl rfl ?_
    refine wl_mv M rfl rfl ?_
    refine wl_ix (j := k4) M R45 Tryd.underlying47 rfl (ixe (by omega)) (getD_at (d := 0) (by omega)) rfl (fun b66 o66 p66 => ?_)
    refine wl_m M (q_ldp p66 rfl rfl) rfl rfl ?_
    refine wl_m M (q_fa fo_52_2 rfl) rfl rfl ?_
    refine wl_e0 (e_stb 0 M rfl rfl rfl sz21 rfl rfl) rfl ?_
    intro _ w23 M
    simp only [sC0, sCS] at M
    refine wl_nil ?_
    refine wc_seq ?_
    refine wc_seq ?_
    refine wc_region ?_
    refine wl_mv M rfl rfl ?_
    refine wl_mv M rfl rfl ?_
    refine wl_m M (q_lenR R48 Tryd.underlying47 rfl) rfl rfl ?_
    refine wl_m M (q_lss rfl rfl) rfl rfl ?_
    refine wl_nil ?_
    refine wc_dec rfl (fun ht72 => ?_) (fun ht72 => ?_)
    ·refine wc_region ?_
     refine wl_mv M rfl rfl ?_
     refine wl_mv M rfl rfl ?_
     refine wl_ix (j := k4) M R48 Tryd.underlying47 rfl (ixe (by omega)) (getD_at (d := 0) (by omega)) rfl (fun b75 o75 p75 => ?_)
     refine wl_m M (q_ldp p75 rfl rfl) rfl rfl ?_
     refine wl_m M (q_fa fo_52_3 rfl) rfl rfl ?_
     refine wl_e0 (e_stb 0 M rfl rfl rfl sz21 rfl rfl) rfl ?_
     intro _ w24 M
     simp only [sC0, sCS] at M
     refine wl_nil ?_
     refine wc_seq ?_
     refine wc_region ?_
     refine wl_mv M rfl rfl ?_
     refine wl_m M (q_ldbA 0 Tryd.underlying52 rfl sz52 rfl rfl rfl rfl) rfl rfl ?_
     refine wl_m M (q_lk2 (k := (Arc.mk at4 0 ((runesL x2.x).getD k4 0) ((runesL x2.y).getD k4 0))) (z := 0) 4 rfl Tryd.underlying54 zv3 rfl rfl) rfl rfl ?_
     refine wl_mv M rfl rfl ?_
     refine wl_m M (q_ext rfl rfl) rfl rfl ?_
     refine wl_m M (q_ext rfl rfl) rfl rfl ?_
     refine wl_as M rfl rfl ?_
     refine wl_as M rfl rfl ?_
     refine wl_nil ?_
     refine wc_seq ?_
     refine wc_seq ?_
     refine wc_region ?_
     refine wl_mv M rfl rfl ?_
     refine wl_m M (q_not rfl) rfl rfl ?_
     refine wl_nil ?_
     refine wc_cond rfl (fun ht85 => ?_) (fun ht85 => ?_)
     ·refine wc_seq ?_
      refine wc_region ?_
      refine wl_m M (q_fa fo_29_0 rfl) rfl rfl ?_
      refine wl_m M (q_ldb 5 Tryd.underlying3 rfl rfl rfl rfl) rfl rfl ?_
      refine wl_as M rfl rfl ?_
      refine wl_nil ?_
      refine wc_seq ?_
      refine wc_region ?_
      refine wl_m M (q_fa fo_29_0 rfl) rfl rfl ?_
      refine wl_m M (q_ldb 5 Tryd.underlying3 rfl rfl rfl rfl) rfl rfl ?_
      refine wl_m M (q_add rfl rfl (IntWalk.i64_in _ (by omega))) rfl rfl ?_
      refine wl_m M (q_fa fo_29_0 rfl) rfl rfl ?_
      refine wl_e0 (e_stb 5 M rfl rfl rfl sz3 rfl rfl) rfl ?_
      intro _ w25 M
      simp only [sC0, sCS] at M
      refine wl_nil ?_
      refine wc_seq ?_
      refine wc_region ?_
      refine wl_mv M rfl rfl ?_
      refine wl_m M (q_ldbA 0 Tryd.underlying52 rfl sz52 rfl rfl rfl rfl) rfl rfl ?_
      refine wl_mv M rfl rfl ?_
      refine wl_e0 (e_mpu (k := (Arc.mk at4 0 ((runesL x2.x).getD k4 0) ((runesL x2.y).getD k4 0))) (v := (l_a_4.length : Int) + 1) 4 M rfl Tryd.underlying54 rfl rfl rfl) rfl ?_
      intro _ w26 M
      simp only [sC0, sCS] at M
      refine wl_nil ?_
      refine wc_region ?_
      refine wl_m M (q_fa fo_29_3 rfl) rfl rfl ?_
      refine wl_m M (q_ldb 5 Tryd.underlying27 rfl rfl rfl rfl) rfl rfl ?_
      refine wl_mv M rfl rfl ?_
      refine wl_mv M rfl rfl ?_
      refine wl_m M (q_fa fo_52_2 rfl) rfl rfl ?_
      refine wl_m M (q_ldb 0 Tryd.underlying21 rfl rfl rfl rfl) rfl rfl ?_
      refine wl_m M (q_fa fo_52_3 rfl) rfl rfl ?_
      refine wl_m M (q_ldb 0 Tryd.underlying21 rfl rfl rfl rfl) rfl rfl ?_
      refine wl_m M (q_build (bd_52_0_1_2_3 _ _ _ _) ⟨⟨rfl, rfl⟩, ⟨rfl, rfl⟩, ⟨rfl, rfl⟩, ⟨rfl, rfl⟩, trivial⟩) rfl rfl ?_
      refine wl_e (e_bsI (E := EArc) (xs := [(Arc.mk at4 ((l_a_4.length : Int) + 1) ((runesL x2.x).getD k4 0) ((runesL x2.y).getD k4 0))]) M (bs_27_1 _ _ _ _) ⟨⟨rfl, rfl⟩, trivial⟩ rfl rfl (by decide)) rfl rfl ?_
      rintro _ w27 ⟨u104, J104, rfl, hJ104, R104, M⟩
      have hoJ104 := M.old
      refine wl_e (e_app 2 M rfl R104 Tryd.underlying27 rfl rfl (by show (_ + 1) * 24 ≤ _; omega)) rfl rfl ?_
      rintro _ w28 ⟨u105, rfl, M⟩
      replace M := M.less hJ104 hoI6
      simp only [sC0, sCS] at M
      refine wl_m M (q_fa fo_29_3 rfl) rfl rfl ?_
      refine wl_e0 (e_stb 5 M rfl rfl rfl sz27 rfl rfl) rfl ?_
      intro _ w29 M
      simp only [sC0, sCS] at M
      refine wl_nil ?_
      refine wc_region ?_
      refine wl_mv M rfl rfl ?_
      refine wl_as M rfl rfl ?_
      refine wl_nil ?_
      refine wc_region ?_
      refine wl_mv M rfl rfl ?_
      refine wl_m M (q_add rfl rfl (IntWalk.i64_in _ (by omega))) rfl rfl ?_
      refine wl_as M rfl rfl ?_
      refine wl_nil ?_
      replace M := M.drop 0
      have hn85 : aget (l_a_4.map tkey) (⟨at4, 0, ((runesL x2.x).getD k4 0), ((runesL x2.y).getD k4 0)⟩ : Arc) = none := by have h := ht85; rw [hm4] at h; simpa using h
      rw [show ((l_a_4.length : Int) + 1) + 1 = ((l_a_4 ++ [(⟨at4, (l_a_4.length : Int) + 1, ((runesL x2.x).getD k4 0), ((runesL x2.y).getD k4 0)⟩ : Arc)]).length : Int) + 1 by simp] at M
      refine ⟨(k4 + 1, (l_a_4.length : Int) + 1, u105, l_a_4 ++ [(Arc.mk at4 ((l_a_4.length : Int) + 1) ((runesL x2.x).getD k4 0) ((runesL x2.y).getD k4 0))], aput m_36_4 (Arc.mk at4 0 ((runesL x2.x).getD k4 0) ((runesL x2.y).getD k4 0)) ((l_a_4.length : Int) + 1)), ?_, ⟨(by omega), (trie_new hk4x hW rfl rfl hn85), (by rw [hm4, trie_put hn85]), (by simp; omega), M⟩, ⟨rfl, rfl, trivial⟩, unw_look rfl unw_base⟩
      show (max (runesL x2.x).length (runesL x2.y).length) - (k4 + 1) < (max (runesL x2.x).length (runesL x2.y).length) - k4
      omega
     refine wc_skip ?_
     refine wc_region ?_
     refine wl_mv M rfl rfl ?_
     refine wl_as M rfl rfl ?_
     refine wl_nil ?_
     refine wc_region ?_
     refine wl_mv M rfl rfl ?_
     refine wl_m M (q_add rfl rfl (IntWalk.i64_in _ (by omega))) rfl rfl ?_
     refine wl_as M rfl rfl ?_
     refine wl_nil ?_
     replace M := M.drop 0
     refine ⟨(k4 + 1, (aget m_36_4 (⟨at4, 0, ((runesL x2.x).getD k4 0), ((runesL x2.y).getD k4 0)⟩ : Arc)).getD 0, u_a_4, l_a_4, m_36_4), ?_, ⟨(by omega), (by rw [hm4]; exact trie_old hk4x hW rfl rfl (by have h := ht85; rw [hm4] at h; simpa using h)), hm4, (by omega), M⟩, ⟨rfl, rfl, trivial⟩, unw_look rfl unw_base⟩
     show (max (runesL x2.x).length (runesL x2.y).length) - (k4 + 1) < (max (runesL x2.x).length (runesL x2.y).length) - k4
     omega
    refine wc_skip ?_
    refine wc_seq ?_
    refine wc_region ?_
    refine wl_mv M rfl rfl ?_
    refine wl_m M (q_ldbA 0 Tryd.underlying52 rfl sz52 rfl rfl rfl rfl) rfl rfl ?_
    refine wl_m M (q_lk2 (k := (Arc.mk at4 0 ((runesL x2.x).getD k4 0) 0)) (z := 0) 4 rfl Tryd.underlying54 zv3 rfl rfl) rfl rfl ?_
    refine wl_mv M rfl rfl ?_
    refine wl_m M (q_ext rfl rfl) rfl rfl ?_
    refine wl_m M (q_ext rfl rfl) rfl rfl ?_
    refine wl_as M rfl rfl ?_
    refine wl_as M rfl rfl ?_
    refine wl_nil ?_
    refine wc_seq ?_
    refine wc_seq ?_
    refine wc_region ?_
    refine wl_mv M rfl rfl ?_
    refine wl_m M (q_not rfl) rfl rfl ?_
    refine wl_nil ?_
    refine wc_cond rfl (fun ht85 => ?_) (fun ht85 => ?_)
    ·refine wc_seq ?_
     refine wc_region ?_
     refine wl_m M (q_fa fo_29_0 rfl) rfl rfl ?_
     refine wl_m M (q_ldb 5 Tryd.underlying3 rfl rfl rfl rfl) rfl rfl ?_
     refine wl_as M rfl rfl ?_
     refine wl_nil ?_
     refine wc_seq ?_
     refine wc_region ?_
     refine wl_m M (q_fa fo_29_0 rfl) rfl rfl ?_
     refine wl_m M (q_ldb 5 Tryd.underlying3 rfl rfl rfl rfl) rfl rfl ?_
     refine wl_m M (q_add rfl rfl (IntWalk.i64_in _ (by omega))) rfl rfl ?_
     refine wl_m M (q_fa fo_29_0 rfl) rfl rfl ?_
     refine wl_e0 (e_stb 5 M rfl rfl rfl sz3 rfl rfl) rfl ?_
     intro _ w30 M
     simp only [sC0, sCS] at M
     refine wl_nil ?_
     refine wc_seq ?_
     refine wc_region ?_
     refine wl_mv M rfl rfl ?_
     refine wl_m M (q_ldbA 0 Tryd.underlying52 rfl sz52 rfl rfl rfl rfl) rfl rfl ?_
     refine wl_mv M rfl rfl ?_
     refine wl_e0 (e_mpu (k := (Arc.mk at4 0 ((runesL x2.x).getD k4 0) 0)) (v := (l_a_4.length : Int) + 1) 4 M rfl Tryd.underlying54 rfl rfl rfl) rfl ?_
     intro _ w31 M
     simp only [sC0, sCS] at M
     refine wl_nil ?_
     refine wc_region ?_
     refine wl_m M (q_fa fo_29_3 rfl) rfl rfl ?_
     refine wl_m M (q_ldb 5 Tryd.underlying27 rfl rfl rfl rfl) rfl rfl ?_
     refine wl_mv M rfl rfl ?_
     refine wl_mv M rfl rfl ?_
     refine wl_m M (q_fa fo_52_2 rfl) rfl rfl ?_
     refine wl_m M (q_ldb 0 Tryd.underlying21 rfl rfl rfl rfl) rfl rfl ?_
     refine wl_m M (q_fa fo_52_3 rfl) rfl rfl ?_
     refine wl_m M (q_ldb 0 Tryd.underlying21 rfl rfl rfl rfl) rfl rfl ?_
     refine wl_m M (q_build (bd_52_0_1_2_3 _ _ _ _) ⟨⟨rfl, rfl⟩, ⟨rfl, rfl⟩, ⟨rfl, rfl⟩, ⟨rfl, rfl⟩, trivial⟩) rfl rfl ?_
     refine wl_e (e_bsI (E := EArc) (xs := [(Arc.mk at4 ((l_a_4.length : Int) + 1) ((runesL x2.x).getD k4 0) 0)]) M (bs_27_1 _ _ _ _) ⟨⟨rfl, rfl⟩, trivial⟩ rfl rfl (by decide)) rfl rfl ?_
     rintro _ w32 ⟨u104, J104, rfl, hJ104, R104, M⟩
     have hoJ104 := M.old
     refine wl_e (e_app 2 M rfl R104 Tryd.underlying27 rfl rfl (by show (_ + 1) * 24 ≤ _; omega)) rfl rfl ?_
     rintro _ w33 ⟨u105, rfl, M⟩
     replace M := M.less hJ104 hoI6
     simp only [sC0, sCS] at M
     refine wl_m M (q_fa fo_29_3 rfl) rfl rfl ?_
     refine wl_e0 (e_stb 5 M rfl rfl rfl sz27 rfl rfl) rfl ?_
     intro _ w34 M
     simp only [sC0, sCS] at M
     refine wl_nil ?_
     refine wc_region ?_
     refine wl_mv M rfl rfl ?_
     refine wl_as M rfl rfl ?_
     refine wl_nil ?_
     refine wc_region ?_
     refine wl_mv M rfl rfl ?_
     refine wl_m M (q_add rfl rfl (IntWalk.i64_in _ (by omega))) rfl rfl ?_
     refine wl_as M rfl rfl ?_
     refine wl_nil ?_
     replace M := M.drop 0
     have hn85 : aget (l_a_4.map tkey) (⟨at4, 0, ((runesL x2.x).getD k4 0), 0⟩ : Arc) = none := by have h := ht85; rw [hm4] at h; simpa using h
     rw [show ((l_a_4.length : Int) + 1) + 1 = ((l_a_4 ++ [(⟨at4, (l_a_4.length : Int) + 1, ((runesL x2.x).getD k4 0), 0⟩ : Arc)]).length : Int) + 1 by simp] at M
     refine ⟨(k4 + 1, (l_a_4.length : Int) + 1, u105, l_a_4 ++ [(Arc.mk at4 ((l_a_4.length : Int) + 1) ((runesL x2.x).getD k4 0) 0)], aput m_36_4 (Arc.mk at4 0 ((runesL x2.x).getD k4 0) 0) ((l_a_4.length : Int) + 1)), ?_, ⟨(by omega), (trie_new hk4x hW rfl (getD_none (by omega)) hn85), (by rw [hm4, trie_put hn85]), (by simp; omega), M⟩, ⟨rfl, rfl, trivial⟩, unw_look rfl unw_base⟩
     show (max (runesL x2.x).length (runesL x2.y).length) - (k4 + 1) < (max (runesL x2.x).length (runesL x2.y).length) - k4
     omega
    refine wc_skip ?_
    refine wc_region ?_
    refine wl_mv M rfl rfl ?_
    refine wl_as M rfl rfl ?_
    refine wl_nil ?_
    refine wc_region ?_
    refine wl_mv M rfl rfl ?_
    refine wl_m M (q_add rfl rfl (IntWalk.i64_in _ (by omega))) rfl rfl ?_
    refine wl_as M rfl rfl ?_
    refine wl_nil ?_
    replace M := M.drop 0
    refine ⟨(k4 + 1, (aget m_36_4 (⟨at4, 0, ((runesL x2.x).getD k4 0), 0⟩ : Arc)).getD 0, u_a_4, l_a_4, m_36_4), ?_, ⟨(by omega), (by rw [hm4]; exact trie_old hk4x hW rfl (getD_none (by omega)) (by have h := ht85; rw [hm4] at h; simpa using h)), hm4, (by omega), M⟩, ⟨rfl, rfl, trivial⟩, unw_look rfl unw_base⟩
    show (max (runesL x2.x).length (runesL x2.y).length) - (k4 + 1) < (max (runesL x2.x).length (runesL x2.y).length) - k4
    omega
   refine wc_skip ?_
   refine wc_seq ?_
   refine wc_seq ?_
   refine wc_region ?_
   refine wl_mv M rfl rfl ?_
   refine wl_mv M rfl rfl ?_
   refine wl_m M (q_lenR R48 Tryd.underlying47 rfl) rfl rfl ?_
   refine wl_m M (q_lss rfl rfl) rfl rfl ?_
   refine wl_nil ?_
   refine wc_dec rfl (fun ht72 => ?_) (fun ht72 => ?_)
   ·refine wc_region ?_
    refine wl_mv M rfl rfl ?_
    refine wl_mv M rfl rfl ?_
    refine wl_ix (j := k4) M R48 Tryd.underlying47 rfl (ixe (by omega)) (getD_at (d := 0) (by omega)) rfl (fun b75 o75 p75 => ?_)
    refine wl_m M (q_ldp p75 rfl rfl) rfl rfl ?_
    refine wl_m M (q_fa fo_52_3 rfl) rfl rfl ?_
    refine wl_e0 (e_stb 0 M rfl rfl rfl sz21 rfl rfl) rfl ?_
    intro _ w35 M
    simp only [sC0, sCS] at M
    refine wl_nil ?_
    refine wc_seq ?_
    refine wc_region ?_
    refine wl_mv M rfl rfl ?_
    refine wl_m M (q_ldbA 0 Tryd.underlying52 rfl sz52 rfl rfl rfl rfl) rfl rfl ?_
    refine wl_m M (q_lk2 (k := (Arc.mk at4 0 0 ((runesL x2.y).getD k4 0))) (z := 0) 4 rfl Tryd.underlying54 zv3 rfl rfl) rfl rfl ?_
    refine wl_mv M rfl rfl ?_
    refine wl_m M (q_ext rfl rfl) rfl rfl ?_
    refine wl_m M (q_ext rfl rfl) rfl rfl ?_
    refine wl_as M rfl rfl ?_
    refine wl_as M rfl rfl ?_
    refine wl_nil ?_
    refine wc_seq ?_
    refine wc_seq ?_
    refine wc_region ?_
    refine wl_mv M rfl rfl ?_
    refine wl_m M (q_not rfl) rfl rfl ?_
    refine wl_nil ?_
    refine wc_cond rfl (fun ht85 => ?_) (fun ht85 => ?_)
    ·refine wc_seq ?_
     refine wc_region ?_
     refine wl_m M (q_fa fo_29_0 rfl) rfl rfl ?_
     refine wl_m M (q_ldb 5 Tryd.underlying3 rfl rfl rfl rfl) rfl rfl ?_
     refine wl_as M rfl rfl ?_
     refine wl_nil ?_
     refine wc_seq ?_
     refine wc_region ?_
     refine wl_m M (q_fa fo_29_0 rfl) rfl rfl ?_
     refine wl_m M (q_ldb 5 Tryd.underlying3 rfl rfl rfl rfl) rfl rfl ?_
     refine wl_m M (q_add rfl rfl (IntWalk.i64_in _ (by omega))) rfl rfl ?_
     refine wl_m M (q_fa fo_29_0 rfl) rfl rfl ?_
     refine wl_e0 (e_stb 5 M rfl rfl rfl sz3 rfl rfl) rfl ?_
     intro _ w36 M
     simp only [sC0, sCS] at M
     refine wl_nil ?_
     refine wc_seq ?_
     refine wc_region ?_
     refine wl_mv M rfl rfl ?_
     refine wl_m M (q_ldbA 0 Tryd.underlying52 rfl sz52 rfl rfl rfl rfl) rfl rfl ?_
     refine wl_mv M rfl rfl ?_
     refine wl_e0 (e_mpu (k := (Arc.mk at4 0 0 ((runesL x2.y).getD k4 0))) (v := (l_a_4.length : Int) + 1) 4 M rfl Tryd.underlying54 rfl rfl rfl) rfl ?_
     intro _ w37 M
     simp only [sC0, sCS] at M
     refine wl_nil ?_
     refine wc_region ?_
     refine wl_m M (q_fa fo_29_3 rfl) rfl rfl ?_
     refine wl_m M (q_ldb 5 Tryd.underlying27 rfl rfl rfl rfl) rfl rfl ?_
     refine wl_mv M rfl rfl ?_
     refine wl_mv M rfl rfl ?_
     refine wl_m M (q_fa fo_52_2 rfl) rfl rfl ?_
     refine wl_m M (q_ldb 0 Tryd.underlying21 rfl rfl rfl rfl) rfl rfl ?_
     refine wl_m M (q_fa fo_52_3 rfl) rfl rfl ?_
     refine wl_m M (q_ldb 0 Tryd.underlying21 rfl rfl rfl rfl) rfl rfl ?_
     refine wl_m M (q_build (bd_52_0_1_2_3 _ _ _ _) ⟨⟨rfl, rfl⟩, ⟨rfl, rfl⟩, ⟨rfl, rfl⟩, ⟨rfl, rfl⟩, trivial⟩) rfl rfl ?_
     refine wl_e (e_bsI (E := EArc) (xs := [(Arc.mk at4 ((l_a_4.length : Int) + 1) 0 ((runesL x2.y).getD k4 0))]) M (bs_27_1 _ _ _ _) ⟨⟨rfl, rfl⟩, trivial⟩ rfl rfl (by decide)) rfl rfl ?_
     rintro _ w38 ⟨u104, J104, rfl, hJ104, R104, M⟩
     have hoJ104 := M.old
     refine wl_e (e_app 2 M rfl R104 Tryd.underlying27 rfl rfl (by show (_ + 1) * 24 ≤ _; omega)) rfl rfl ?_
     rintro _ w39 ⟨u105, rfl, M⟩
     replace M := M.less hJ104 hoI6
     simp only [sC0, sCS] at M
     refine wl_m M (q_fa fo_29_3 rfl) rfl rfl ?_
     refine wl_e0 (e_stb 5 M rfl rfl rfl sz27 rfl rfl) rfl ?_
     intro _ w40 M
     simp only [sC0, sCS] at M
     refine wl_nil ?_
     refine wc_region ?_
     refine wl_mv M rfl rfl ?_
     refine wl_as M rfl rfl ?_
     refine wl_nil ?_
     refine wc_region ?_
     refine wl_mv M rfl rfl ?_
     refine wl_m M (q_add rfl rfl (IntWalk.i64_in _ (by omega))) rfl rfl ?_
     refine wl_as M rfl rfl ?_
     refine wl_nil ?_
     replace M := M.drop 0
     have hn85 : aget (l_a_4.map tkey) (⟨at4, 0, 0, ((runesL x2.y).getD k4 0)⟩ : Arc) = none := by have h := ht85; rw [hm4] at h; simpa using h
     rw [show ((l_a_4.length : Int) + 1) + 1 = ((l_a_4 ++ [(⟨at4, (l_a_4.length : Int) + 1, 0, ((runesL x2.y).getD k4 0)⟩ : Arc)]).length : Int) + 1 by simp] at M
     refine ⟨(k4 + 1, (l_a_4.length : Int) + 1, u105, l_a_4 ++ [(Arc.mk at4 ((l_a_4.length : Int) + 1) 0 ((runesL x2.y).getD k4 0))], aput m_36_4 (Arc.mk at4 0 0 ((runesL x2.y).getD k4 0)) ((l_a_4.length : Int) + 1)), ?_, ⟨(by omega), (trie_new hk4x hW (getD_none (by omega)) rfl hn85), (by rw [hm4, trie_put hn85]), (by simp; omega), M⟩, ⟨rfl, rfl, trivial⟩, unw_look rfl unw_base⟩
     show (max (runesL x2.x).length (runesL x2.y).length) - (k4 + 1) < (max (runesL x2.x).length (runesL x2.y).length) - k4
     omega
    refine wc_skip ?_
    refine wc_region ?_
    refine wl_mv M rfl rfl ?_
    refine wl_as M rfl rfl ?_
    refine wl_nil ?_
    refine wc_region ?_
    refine wl_mv M rfl rfl ?_
    refine wl_m M (q_add rfl rfl (IntWalk.i64_in _ (by omega))) rfl rfl ?_
    refine wl_as M rfl rfl ?_
    refine wl_nil ?_
    replace M := M.drop 0
    refine ⟨(k4 + 1, (aget m_36_4 (⟨at4, 0, 0, ((runesL x2.y).getD k4 0)⟩ : Arc)).getD 0, u_a_4, l_a_4, m_36_4), ?_, ⟨(by omega), (by rw [hm4]; exact trie_old hk4x hW (getD_none (by omega)) rfl (by have h := ht85; rw [hm4] at h; simpa using h)), hm4, (by omega), M⟩, ⟨rfl, rfl, trivial⟩, unw_look rfl unw_base⟩
    show (max (runesL x2.x).length (runesL x2.y).length) - (k4 + 1) < (max (runesL x2.x).length (runesL x2.y).length) - k4
    omega
   refine wc_skip ?_
   refine wc_seq ?_
   refine wc_region ?_
   refine wl_mv M rfl rfl ?_
   refine wl_m M (q_ldbA 0 Tryd.underlying52 rfl sz52 rfl rfl rfl rfl) rfl rfl ?_
   refine wl_m M (q_lk2 (k := (Arc.mk at4 0 0 0)) (z := 0) 4 rfl Tryd.underlying54 zv3 rfl rfl) rfl rfl ?_
   refine wl_mv M rfl rfl ?_
   refine wl_m M (q_ext rfl rfl) rfl rfl ?_
   refine wl_m M (q_ext rfl rfl) rfl rfl ?_
   refine wl_as M rfl rfl ?_
   refine wl_as M rfl rfl ?_
   refine wl_nil ?_
   refine wc_seq ?_
   refine wc_seq ?_
   refine wc_region ?_
   refine wl_mv M rfl rfl ?_
   refine wl_m M (q_not rfl) rfl rfl ?_
   refine wl_nil ?_
   refine wc_cond rfl (fun ht85 => ?_) (fun ht85 => ?_)
   ·refine wc_seq ?_
    refine wc_region ?_
    refine wl_m M (q_fa fo_29_0 rfl) rfl rfl ?_
    refine wl_m M (q_ldb 5 Tryd.underlying3 rfl rfl rfl rfl) rfl rfl ?_
    refine wl_as M rfl rfl ?_
    refine wl_nil ?_
    refine wc_seq ?_
    refine wc_region ?_
    refine wl_m M (q_fa fo_29_0 rfl) rfl rfl ?_
    refine wl_m M (q_ldb 5 Tryd.underlying3 rfl rfl rfl rfl) rfl rfl ?_
    refine wl_m M (q_add rfl rfl (IntWalk.i64_in _ (by omega))) rfl rfl ?_
    refine wl_m M (q_fa fo_29_0 rfl) rfl rfl ?_
    refine wl_e0 (e_stb 5 M rfl rfl rfl sz3 rfl rfl) rfl ?_
    intro _ w41 M
    simp only [sC0, sCS] at M
    refine wl_nil ?_
    refine wc_seq ?_
    refine wc_region ?_
    refine wl_mv M rfl rfl ?_
    refine wl_m M (q_ldbA 0 Tryd.underlying52 rfl sz52 rfl rfl rfl rfl) rfl rfl ?_
    refine wl_mv M rfl rfl ?_
    refine wl_e0 (e_mpu (k := (Arc.mk at4 0 0 0)) (v := (l_a_4.length : Int) + 1) 4 M rfl Tryd.underlying54 rfl rfl rfl) rfl ?_
    intro _ w42 M
    simp only [sC0, sCS] at M
    refine wl_nil ?_
    refine wc_region ?_
    refine wl_m M (q_fa fo_29_3 rfl) rfl rfl ?_
    refine wl_m M (q_ldb 5 Tryd.underlying27 rfl rfl rfl rfl) rfl rfl ?_
    refine wl_mv M rfl rfl ?_
    refine wl_mv M rfl rfl ?_
    refine wl_m M (q_fa fo_52_2 rfl) rfl rfl ?_
    refine wl_m M (q_ldb 0 Tryd.underlying21 rfl rfl rfl rfl) rfl rfl ?_
    refine wl_m M (q_fa fo_52_3 rfl) rfl rfl ?_
    refine wl_m M (q_ldb 0 Tryd.underlying21 rfl rfl rfl rfl) rfl rfl ?_
    refine wl_m M (q_build (bd_52_0_1_2_3 _ _ _ _) ⟨⟨rfl, rfl⟩, ⟨rfl, rfl⟩, ⟨rfl, rfl⟩, ⟨rfl, rfl⟩, trivial⟩) rfl rfl ?_
    refine wl_e (e_bsI (E := EArc) (xs := [(Arc.mk at4 ((l_a_4.length : Int) + 1) 0 0)]) M (bs_27_1 _ _ _ _) ⟨⟨rfl, rfl⟩, trivial⟩ rfl rfl (by decide)) rfl rfl ?_
    rintro _ w43 ⟨u104, J104, rfl, hJ104, R104, M⟩
    have hoJ104 := M.old
    refine wl_e (e_app 2 M rfl R104 Tryd.underlying27 rfl rfl (by show (_ + 1) * 24 ≤ _; omega)) rfl rfl ?_
    rintro _ w44 ⟨u105, rfl, M⟩
    replace M := M.less hJ104 hoI6
    simp only [sC0, sCS] at M
    refine wl_m M (q_fa fo_29_3 rfl) rfl rfl ?_
    refine wl_e0 (e_stb 5 M rfl rfl rfl sz27 rfl rfl) rfl ?_
    intro _ w45 M
    simp only [sC0, sCS] at M
    refine wl_nil ?_
    refine wc_region ?_
    refine wl_mv M rfl rfl ?_
    refine wl_as M rfl rfl ?_
    refine wl_nil ?_
    refine wc_region ?_
    refine wl_mv M rfl rfl ?_
    refine wl_m M (q_add rfl rfl (IntWalk.i64_in _ (by omega))) rfl rfl ?_
    refine wl_as M rfl rfl ?_
    refine wl_nil ?_
    replace M := M.drop 0
    have hn85 : aget (l_a_4.map tkey) (⟨at4, 0, 0, 0⟩ : Arc) = none := by have h := ht85; rw [hm4] at h; simpa using h
    rw [show ((l_a_4.length : Int) + 1) + 1 = ((l_a_4 ++ [(⟨at4, (l_a_4.length : Int) + 1, 0, 0⟩ : Arc)]).length : Int) + 1 by simp] at M
    refine ⟨(k4 + 1, (l_a_4.length : Int) + 1, u105, l_a_4 ++ [(Arc.mk at4 ((l_a_4.length : Int) + 1) 0 0)], aput m_36_4 (Arc.mk at4 0 0 0) ((l_a_4.length : Int) + 1)), ?_, ⟨(by omega), (trie_new hk4x hW (getD_none (by omega)) (getD_none (by omega)) hn85), (by rw [hm4, trie_put hn85]), (by simp; omega), M⟩, ⟨rfl, rfl, trivial⟩, unw_look rfl unw_base⟩
    show (max (runesL x2.x).length (runesL x2.y).length) - (k4 + 1) < (max (runesL x2.x).length (runesL x2.y).length) - k4
    omega
   refine wc_skip ?_
   refine wc_region ?_
   refine wl_mv M rfl rfl ?_
   refine wl_as M rfl rfl ?_
   refine wl_nil ?_
   refine wc_region ?_
   refine wl_mv M rfl rfl ?_
   refine wl_m M (q_add rfl rfl (IntWalk.i64_in _ (by omega))) rfl rfl ?_
   refine wl_as M rfl rfl ?_
   refine wl_nil ?_
   replace M := M.drop 0
   refine ⟨(k4 + 1, (aget m_36_4 (⟨at4, 0, 0, 0⟩ : Arc)).getD 0, u_a_4, l_a_4, m_36_4), ?_, ⟨(by omega), (by rw [hm4]; exact trie_old hk4x hW (getD_none (by omega)) (getD_none (by omega)) (by have h := ht85; rw [hm4] at h; simpa using h)), hm4, (by omega), M⟩, ⟨rfl, rfl, trivial⟩, unw_look rfl unw_base⟩
   show (max (runesL x2.x).length (runesL x2.y).length) - (k4 + 1) < (max (runesL x2.x).length (runesL x2.y).length) - k4
   omega
  have hke4 : k4 = (max (runesL x2.x).length (runesL x2.y).length) := by omega
  rw [hke4] at hW hlen4
  refine wc_exit rfl ?_
  refine wc_region ?_
  refine wl_m M (q_fa fo_29_2 rfl) rfl rfl ?_
  refine wl_m M (q_ldb 4 Tryd.underlying26 rfl rfl rfl rfl) rfl rfl ?_
  refine wl_mv M rfl rfl ?_
  refine wl_e (e_bsI (E := EInt) (xs := [at4]) M (bs_26_1 _) ⟨⟨rfl, rfl⟩, trivial⟩ rfl rfl (by decide)) rfl rfl ?_
  rintro _ w46 ⟨u111, J111, rfl, hJ111, R111, M⟩
  have hoJ111 := M.old
  refine wl_e (e_app 2 M rfl R111 Tryd.underlying26 rfl rfl (by show (_ + 1) * 8 ≤ _; omega)) rfl rfl ?_
  rintro _ w47 ⟨u112, rfl, M⟩
  replace M := M.less hJ111 hoI6
  simp only [sC0, sCS] at M
  refine wl_m M (q_fa fo_29_2 rfl) rfl rfl ?_
  refine wl_e0 (e_stb 4 M rfl rfl rfl sz26 rfl rfl) rfl ?_
  intro _ w48 M
  simp only [sC0, sCS] at M
  refine wl_nil ?_
  refine wc_region ?_
  refine wl_m M (q_add rfl rfl (IntWalk.i64_in _ (by omega))) rfl rfl ?_
  refine wl_mv M rfl rfl ?_
  refine wl_nil ?_
  replace M := M.less hI6 (fun _ _ => rfl)
  replace M := M.drop 0
  refine ⟨(k2 + 1, u112, l_f_2 ++ [at4], u_a_4, l_a_4, m_36_4), ?_, ⟨(by omega), (trie_word hx2 hA (trie_all hW)), hm4, ⟨by omega, by simp; omega⟩, M⟩, ⟨rfl, trivial⟩, unw_look rfl (unw_hav rfl (unw_look rfl (unw_hav rfl (unw_look rfl unw_base))))⟩
  show ps.length - (k2 + 1) < ps.length - k2
  omega
 have hke2 : k2 = ps.length := by omega
 have hx_ := hlen
 refine wc_exit rfl ?_
 refine wc_seq ?_
 rw [hke2, List.take_length] at hA
 have hT1 : (tries ps).1 = l_a_2 := (congrArg Prod.fst hA).symm
 have hT2 : (tries ps).2 = l_f_2 := (congrArg Prod.snd hA).symm
 obtain ⟨I8, M, hI8, Rn⟩ := M.frzRow 1 rfl
 have hoI8 := M.old
 simp only [List.eraseIdx_cons_zero, List.eraseIdx_cons_succ] at M
 obtain ⟨I9, M, hI9, Rm⟩ := M.frzRow 0 rfl
 have hoI9 := M.old
 simp only [List.eraseIdx_cons_zero, List.eraseIdx_cons_succ] at M
 refine wc_region ?_
 refine wl_m M (q_ldbA 1 Tryd.underlying29 rfl sz29 rfl rfl rfl rfl) rfl rfl ?_
 refine wl_e (e_callC M (finish_c (t := trieT ps) (m := (tries ps).1.length + 1) (by simp [trieT]) (by rw [hT1]; omega) (trie_rng ps) (by show (tries ps).1.length ≤ _; rw [hT1]; omega) (by show (tries ps).2.length ≤ _; rw [hT2]; omega) M.imm (by rw [trieT, hT1, hT2]; exact ⟨_, _, rfl, (Rn.mono hI9), Rm⟩)) Tryd.func43 rfl rfl) rfl rfl ?_
 rintro _ w49 ⟨J116, hJ116, ⟨_, rfl, ⟨fu116, au116, rfl, Rf116, Ra116⟩⟩, M⟩
 have hoJ116 := M.old
 refine wl_m M (q_ext rfl rfl) rfl rfl ?_
 refine wl_m M (q_ext rfl rfl) rfl rfl ?_
 refine wl_e0 (e_stW 2 M rfl rfl rfl sz29 rfl rfl) rfl ?_
 intro _ w50 M
 simp only [sC0, sCS] at M
 refine wl_as M rfl rfl ?_
 refine wl_nil ?_
 refine wc_ret ?_
 exact outc2 rfl rfl (load_boxA M 2 Tryd.underlying29 rfl sz29 rfl rfl rfl) rfl ⟨_, _, rfl, M.grow, _, by rw [pairs_ok hok0], by rw [pairs_ok hok0]; exact ⟨_, _, rfl, Rf116, Ra116⟩⟩
theorem words_c (ws : List ByteArray) (hws : ws.length ≤ 1000) (hsz : ∀ s ∈ ws, s.size ≤ 100000) {u : SV} {I : Heap} {w : World} (hI : hle I (hp w)) (hT : Tabs I) (R0 : rdSl EStr I (sv u) ws) :
    Calls A 17 #[sv u] w (Ret w I fun r I' => ∃ (v' : Value) (t : Tra) (e : Int), r = .tuple #[v', .int .i64 e] ∧ t.rd I' v' ∧ (t, e) = PairsS (ws.map fun s => ⟨s, s⟩)) := by
 have M := Mem.start hI
 refine enter Tryd.func17 rfl 27 Tryd.ntmps17 [_] rfl ?_
 refine wc_seq ?_
 refine wc_region ?_
 refine wl_e (e_alloc M z29) rfl rfl ?_
 rintro _ w1 ⟨b2, rfl, M⟩
 refine wl_as M rfl rfl ?_
 refine wl_nil ?_
 refine wc_seq ?_
 refine wc_region ?_
 refine wl_mv M rfl rfl ?_
 refine wl_m M (q_lenR R0 Tryd.underlying23 rfl) rfl rfl ?_
 refine wl_e (e_make0 (E := ESPair) (m := ws.length) M Tryd.underlying22 rfl rfl (by show _ * 32 ≤ _; omega)) rfl rfl ?_
 rintro _ w2 ⟨u9, rfl, M⟩
 refine wl_as M rfl rfl ?_
 refine wl_nil ?_
 refine wc_seq ?_
 refine wc_seq ?_
 refine wc_region ?_
 refine wl_mv M rfl rfl ?_
 refine wl_m M (q_lenR R0 Tryd.underlying23 rfl) rfl rfl ?_
 refine wl_mv M rfl rfl ?_
 refine wl_nil ?_
 refine wc_block ?_
 refine wc_loop (α := Nat × SV × (List SPair)) [4, 6, 12, 13, 14, 15, 16, 17, 18, 19, 20, 21, 22] (fun ((k0, u_9_0, l_9_0) : Nat × SV × (List SPair)) => [(12, .int .i64 (k0 : Int)), (4, sv u_9_0)])
   (fun ((k0, u_9_0, l_9_0) : Nat × SV × (List SPair)) w' => (k0 ≤ ws.length) ∧ (l_9_0 = (ws.take k0).map fun s => SPair.mk s s) ∧ Mem w I I (row ESPair (sv u_9_0) l_9_0 :: box b2 29 [.int .i64 0, .int .i64 0, .slice none 0 0, .slice none 0 0] :: []) w')
   (fun ((k0, u_9_0, l_9_0) : Nat × SV × (List SPair)) => ws.length - k0) (0, u9, []) ⟨rfl, rfl, trivial⟩ ?_ ?_
 ·refine ⟨Nat.zero_le _, rfl, ?_⟩
  exact M
 rintro ⟨k0, u_9_0, l_9_0⟩ jj0 w3 ⟨hk0, hps, M⟩
 refine wc_seq ?_
 refine wc_region ?_
 refine wl_m M (q_lss rfl rfl) rfl rfl ?_
 refine wl_nil ?_
 refine wc_seq ?_
 refine wc_dec rfl (fun ht13 => ?_) (fun ht13 => ?_)
 ·obtain ⟨x0, hx0⟩ : ∃ x_, ws[k0]? = some x_ := ⟨_, List.getElem?_eq_getElem (by omega)⟩
  have hll0 := (R0).len_le
  refine wc_skip ?_
  refine wc_seq ?_
  refine wc_block ?_
  refine wc_seq ?_
  refine wc_region ?_
  refine wl_ix (j := k0) M R0 Tryd.underlying23 rfl rfl hx0 rfl (fun b14 o14 p14 => ?_)
  refine wl_m M (q_ldp p14 rfl rfl) rfl rfl ?_
  refine wl_as M rfl rfl ?_
  refine wl_nil ?_
  refine wc_region ?_
  refine wl_mv M rfl rfl ?_
  refine wl_mv M rfl rfl ?_
  refine wl_mv M rfl rfl ?_
  refine wl_m M (q_build (bd_25_0_1 _ _) ⟨⟨rfl, rfl⟩, ⟨rfl, rfl⟩, trivial⟩) rfl rfl ?_
  refine wl_e (e_bsI (E := ESPair) (xs := [(SPair.mk x0 x0)]) M (bs_22_1 _ _) ⟨⟨rfl, rfl⟩, trivial⟩ rfl rfl (by decide)) rfl rfl ?_
  rintro _ w4 ⟨u20, J20, rfl, hJ20, R20, M⟩
  have hoJ20 := M.old
  refine wl_e (e_app 0 M rfl R20 Tryd.underlying22 rfl rfl (by rw [hps, List.length_map, List.length_take]; show (_ + 1) * 32 ≤ _; omega)) rfl rfl ?_
  rintro _ w5 ⟨u21, rfl, M⟩
  replace M := M.less hJ20 (fun _ _ => rfl)
  simp only [sC0, sCS] at M
  refine wl_as M rfl rfl ?_
  refine wl_nil ?_
  refine wc_region ?_
  refine wl_m M (q_add rfl rfl (IntWalk.i64_in _ (by omega))) rfl rfl ?_
  refine wl_mv M rfl rfl ?_
  refine wl_nil ?_
  refine ⟨(k0 + 1, u21, l_9_0 ++ [(SPair.mk x0 x0)]), ?_, ⟨(by omega), (by rw [take_snoc hx0, List.map_append, hps]; rfl), M⟩, ⟨rfl, rfl, trivial⟩, unw_look rfl unw_base⟩
  show ws.length - (k0 + 1) < ws.length - k0
  omega
 have hke0 : k0 = ws.length := by omega
 refine wc_exit rfl ?_
 refine wc_seq ?_
 rw [hke0, List.take_length] at hps
 subst hps
 obtain ⟨I9, M, hI9, Rn⟩ := M.frzRow 0 rfl
 have hoI9 := M.old
 simp only [List.eraseIdx_cons_zero, List.eraseIdx_cons_succ] at M
 refine wc_region ?_
 refine wl_mv M rfl rfl ?_
 refine wl_e (e_callC M (pairs_c (ws.map fun s => SPair.mk s s) (by simpa using hws) (by intro p hp; obtain ⟨s, hs, rfl⟩ := List.mem_map.1 hp; exact ⟨hsz s hs, hsz s hs⟩) M.imm (hT.mono hI9) Rn) Tryd.func15 rfl rfl) rfl rfl ?_
 rintro _ w6 ⟨J24, hJ24, ⟨_, rfl, ⟨fu24, au24, rfl, Rf24, Ra24⟩⟩, M⟩
 have hoJ24 := M.old
 refine wl_m M (q_ext rfl rfl) rfl rfl ?_
 refine wl_m M (q_ext rfl rfl) rfl rfl ?_
 refine wl_e0 (e_stW 0 M rfl rfl rfl sz29 rfl rfl) rfl ?_
 intro _ w7 M
 simp only [sC0, sCS] at M
 refine wl_as M rfl rfl ?_
 refine wl_nil ?_
 refine wc_ret ?_
 exact outc2 rfl rfl (load_boxA M 0 Tryd.underlying29 rfl sz29 rfl rfl rfl) rfl ⟨_, _, rfl, M.grow, _, (PairsS (ws.map fun s => SPair.mk s s)).1, (PairsS (ws.map fun s => SPair.mk s s)).2, rfl, ⟨_, _, rfl, Rf24, Ra24⟩, rfl⟩
end Go.Proofs.YtoilmeiikgegcaaDoor.G
