/- Walks of the program's functions. -/
import Derived.Test.YtfepjcmjkaolgaaGOuu
import Derived.Test.YtfepjcmjkaolgaaWOe
import Derived.Test.YtfepjcmjkaolgaaWOa
set_option linter.all false
namespace Go.Proofs.Ytfepjcmjkaolgaa.G
open Go Go.RowKit
set_option maxRecDepth 4000 in
set_option maxHeartbeats 1000000 in
theorem outputs_c (t : Tra) (x : ByteArray) (n : Int) (hx : x.size ≤ 100000) (hbig : validT t = true → (x.size + 1) * t.arcs.length ≤ 1048576) (hal : ∀ ks : List Int, ks.Nodup → (∀ r ∈ ks, r ≠ 0 ∧ ∃ z ∈ t.arcs, z.out = r) → ks.length ≤ 4096) {v1 : Value} {I : Heap} {w : World} (hI : hle I (hp w)) (R1 : t.rd I v1) :
    Calls A 14 #[v1, .string x, .int .i64 n] w (Ret w I fun r I' => ∃ (u : SV) (out : List ByteArray) (e : Int), r = .tuple #[sv u, .int .i64 e] ∧ rdSl EStr I' (sv u) out ∧ OutP t x n out e) := by
 obtain ⟨fu1, au1, rfl, Rf1, Ra1⟩ := R1
 have hxl := runesL_le x
 have M := Mem.start hI
 refine enter Try.func14 rfl 130 Try.ntmps14 [_, _, _] rfl ?_
 refine wc_seq <| wc_region <| wl_e (e_box M rfl) rfl rfl ?_
 rintro _ w1 ⟨b3, rfl, M⟩
 refine wl_as M rfl rfl <| wl_as M rfl rfl <| wl_nil ?_
 refine wc_seq <| wc_region <| wl_mv M rfl rfl <| wl_e (e_callC M (readableT_c x (by omega) M.imm) Try.func44 rfl rfl) rfl rfl ?_
 rintro _ w2 ⟨J24, hJ24, ⟨u24, rfl, R24⟩, M⟩
 have hoJ24 := M.old
 refine wl_mv M rfl rfl <| wl_m M (q_ext rfl rfl) rfl rfl <| wl_m M (q_ext rfl rfl) rfl rfl <| wl_as M rfl rfl <| wl_as M rfl rfl <| wl_nil ?_
 refine wc_seq ?_
 refine wc_seq ?_
 refine wc_join (α := Unit) [27, 28, 29, 30, 31, 32, 33, 34, 35, 36, 37, 38, 39, 40, 41] (fun _ => [(41, .bool ((((!(validT t)) || (!(okT x))) || (decide (n < 0))) || (decide (4096 < n))))]) (fun _ w' => Mem w I J24 (box b3 25 [.int .i64 t.states, .int .i64 t.start, sv fu1, sv au1] :: []) w') ?_ ?_
 ·refine wc_region <| wl_m M (q_ldbA 0 Try.underlying25 rfl sz25 rfl rfl rfl rfl) rfl rfl <| wl_e (e_callC M (valid_c t M.imm ⟨_, _, rfl, (Rf1.mono hJ24), (Ra1.mono hJ24)⟩) Try.func11 rfl rfl) rfl rfl ?_
  rintro _ w3 ⟨J28, hJ28, rfl, M⟩
  replace M := M.less hJ28 hoJ24
  refine wl_m M (q_not rfl) rfl rfl <| wl_mv M rfl rfl ?_
  rcases Bool.eq_false_or_eq_true (!(validT t)) with hg30 | hg30
  ·refine wl_m M (q_off 3 rfl rfl rfl hg30) rfl rfl <| wl_m M (q_off 3 rfl rfl rfl hg30) rfl rfl <| wl_m M (q_pickT rfl hg30 rfl) rfl rfl <| wl_mv M rfl rfl <| wl_m M (q_off 7 rfl rfl rfl rfl) rfl rfl <| wl_m M (q_off 7 rfl rfl rfl rfl) rfl rfl <| wl_m M (q_pickT rfl rfl rfl) rfl rfl <| wl_mv M rfl rfl <| wl_m M (q_off 11 rfl rfl rfl rfl) rfl rfl <| wl_m M (q_off 11 rfl rfl rfl rfl) rfl rfl <| wl_m M (q_pickT rfl rfl rfl) rfl rfl <| wl_nil ?_
   exact ⟨(), M, ⟨(show some (Value.bool true) = some (Value.bool ((((!(validT t)) || (!(okT x))) || (decide (n < 0))) || (decide (4096 < n)))) from by first | (simp only [hg30, bL8]; done) | (simp_all; done) | (simp_all; omega)), trivial⟩, unw_take 15 rfl rfl⟩
  refine wl_m M (q_guard 3 rfl rfl rfl hg30 (q_move rfl)) rfl rfl <| wl_m M (q_guard 3 rfl rfl rfl hg30 (q_not rfl)) rfl rfl <| wl_m M (q_pickF rfl hg30 rfl) rfl rfl <| wl_mv M rfl rfl ?_
  rcases Bool.eq_false_or_eq_true (!(okT x)) with hg34 | hg34
  ·refine wl_m M (q_off 7 rfl rfl rfl hg34) rfl rfl <| wl_m M (q_off 7 rfl rfl rfl hg34) rfl rfl <| wl_m M (q_pickT rfl hg34 rfl) rfl rfl <| wl_mv M rfl rfl <| wl_m M (q_off 11 rfl rfl rfl rfl) rfl rfl <| wl_m M (q_off 11 rfl rfl rfl rfl) rfl rfl <| wl_m M (q_pickT rfl rfl rfl) rfl rfl <| wl_nil ?_
   exact ⟨(), M, ⟨(show some (Value.bool true) = some (Value.bool ((((!(validT t)) || (!(okT x))) || (decide (n < 0))) || (decide (4096 < n)))) from by first | (simp only [hg30, hg34, bL8]; done) | (simp_all; done) | (simp_all; omega)), trivial⟩, unw_take 15 rfl rfl⟩
  refine wl_m M (q_guard 7 rfl rfl rfl hg34 (q_move rfl)) rfl rfl <| wl_m M (q_guard 7 rfl rfl rfl hg34 (q_lss rfl rfl)) rfl rfl <| wl_m M (q_pickF rfl hg34 rfl) rfl rfl <| wl_mv M rfl rfl ?_
  rcases Bool.eq_false_or_eq_true (decide (n < 0)) with hg38 | hg38
  ·refine wl_m M (q_off 11 rfl rfl rfl hg38) rfl rfl <| wl_m M (q_off 11 rfl rfl rfl hg38) rfl rfl <| wl_m M (q_pickT rfl hg38 rfl) rfl rfl <| wl_nil ?_
   exact ⟨(), M, ⟨(show some (Value.bool true) = some (Value.bool ((((!(validT t)) || (!(okT x))) || (decide (n < 0))) || (decide (4096 < n)))) from by first | (simp only [hg30, hg34, hg38, bL8]; done) | (simp_all; done) | (simp_all; omega)), trivial⟩, unw_take 15 rfl rfl⟩
  refine wl_m M (q_guard 11 rfl rfl rfl hg38 (q_move rfl)) rfl rfl <| wl_m M (q_guard 11 rfl rfl rfl hg38 (q_gtr rfl rfl)) rfl rfl <| wl_m M (q_pickF rfl hg38 rfl) rfl rfl <| wl_nil ?_
  exact ⟨(), M, ⟨(show some (Value.bool (decide (4096 < n))) = some (Value.bool ((((!(validT t)) || (!(okT x))) || (decide (n < 0))) || (decide (4096 < n)))) from by first | (simp only [hg30, hg34, hg38, bL8]; done) | (simp_all; done) | (simp_all; omega)), trivial⟩, unw_take 15 rfl rfl⟩
 rintro _ jr2 w4 M
 refine wc_cond rfl (fun ht41 => ?_) (fun ht41 => ?_)
 ·refine wc_seq <| wc_region <| wl_as M rfl rfl <| wl_as M rfl rfl <| wl_nil <| wc_ret ?_
  exact out2 rfl rfl rfl ⟨_, _, rfl, M.grow, nilV, [], 1, rfl, rdSl_nil _, outP_bad ht41⟩
 have hg0 := ht41
 rw [Bool.or_eq_false_iff, Bool.or_eq_false_iff, Bool.or_eq_false_iff] at ht41
 have hv : validT t = true := by simpa using ht41.1.1.1
 have hn0 : ¬ n < 0 := of_decide_eq_false ht41.1.2
 have hn1 : ¬ 4096 < n := of_decide_eq_false ht41.2
 have hnn : ((n.toNat : Nat) : Int) = n := Int.toNat_of_nonneg (by omega)
 obtain ⟨m, ha, hfa, hfl⟩ := validT_ok hv
 have hel : (endsT t (runesL x)).length ≤ 512 := by rw [endsT, List.length_map]; exact hfl
 refine wc_skip ?_
 refine wc_seq <| wc_region <| wl_as M rfl rfl ?_
 replace M := M.nilRow ETCfg
 refine wl_nil ?_
 refine wc_seq ?_
 refine wc_seq <| wc_region <| wl_m M (q_fa fo_25_2 rfl) rfl rfl <| wl_m M (q_ldb 1 Try.underlying22 rfl rfl rfl rfl) rfl rfl <| wl_m M (q_lenR (Rf1.mono hJ24) Try.underlying22 rfl) rfl rfl <| wl_mv M rfl rfl <| wl_nil <| wc_block ?_
 refine wc_loop (α := Nat × SV × (List TCfg)) [10, 12, 45, 46, 47, 48, 49, 50, 51, 52, 53, 54, 55, 56] (fun ((k0, u_10_0, l_10_0) : Nat × SV × (List TCfg)) => [(45, .int .i64 (k0 : Int)), (10, sv u_10_0)])
   (fun ((k0, u_10_0, l_10_0) : Nat × SV × (List TCfg)) w' => (k0 ≤ t.finals.length) ∧ (l_10_0 = (t.finals.take k0).map fun f => (⟨f, (runesL x).length⟩ : TCfg)) ∧ Mem w I J24 (row ETCfg (sv u_10_0) l_10_0 :: box b3 25 [.int .i64 t.states, .int .i64 t.start, sv fu1, sv au1] :: []) w')
   (fun ((k0, u_10_0, l_10_0) : Nat × SV × (List TCfg)) => t.finals.length - k0) (0, nilV, []) ⟨rfl, rfl, trivial⟩ ?_ ?_
 ·refine ⟨Nat.zero_le _, rfl, ?_⟩
  exact M
 rintro ⟨k0, u_10_0, l_10_0⟩ jj0 w5 ⟨hk0, hes, M⟩
 have hoJ24 := M.old
 refine wc_seq <| wc_region <| wl_m M (q_lss rfl rfl) rfl rfl <| wl_nil ?_
 refine wc_seq ?_
 refine wc_dec rfl (fun ht46 => ?_) (fun ht46 => ?_)
 ·obtain ⟨x0, hx0⟩ : ∃ x_, t.finals[k0]? = some x_ := ⟨_, List.getElem?_eq_getElem (by omega)⟩
  have hll0 := ((Rf1.mono hJ24)).len_le
  refine wc_skip ?_
  refine wc_seq <| wc_block ?_
  refine wc_seq <| wc_region ?_
  refine wl_ix (j := k0) M (Rf1.mono hJ24) Try.underlying22 rfl rfl hx0 rfl (fun b47 o47 p47 => ?_)
  refine wl_m M (q_ldp p47 rfl rfl) rfl rfl <| wl_as M rfl rfl <| wl_nil <| wc_region <| wl_mv M rfl rfl <| wl_mv M rfl rfl <| wl_mv M rfl rfl <| wl_m M (q_lenR R24 Try.underlying40 rfl) rfl rfl <| wl_m M (q_build (bd_58_0_1 _ _) ⟨⟨rfl, rfl⟩, ⟨rfl, rfl⟩, trivial⟩) rfl rfl <| wl_e (e_bsI (E := ETCfg) (xs := [(TCfg.mk x0 ((runesL x).length : Int))]) M (bs_56_1 _ _) ⟨⟨rfl, rfl⟩, trivial⟩ rfl rfl (by decide)) rfl rfl ?_
  rintro _ w6 ⟨u54, J54, rfl, hJ54, R54, M⟩
  have hoJ54 := M.old
  refine wl_e (e_app 0 M rfl R54 Try.underlying56 rfl rfl (by rw [hes, List.length_map, List.length_take]; show (_ + 1) * 16 ≤ _; omega)) rfl rfl ?_
  rintro _ w7 ⟨u55, rfl, M⟩
  replace M := M.less hJ54 hoJ24
  try simp only [sC0, sCS] at M
  refine wl_as M rfl rfl <| wl_nil <| wc_region <| wl_m M (q_add rfl rfl (IntWalk.i64_in _ (by omega))) rfl rfl ?_
  refine wl_mv M rfl rfl <| wl_nil ?_
  refine ⟨(k0 + 1, u55, l_10_0 ++ [(TCfg.mk x0 ((runesL x).length : Int))]), ?_, ⟨(by omega), (by rw [take_snoc hx0, List.map_append, hes]; rfl), M⟩, ⟨rfl, rfl, trivial⟩, unw_look rfl unw_base⟩
  show t.finals.length - (k0 + 1) < t.finals.length - k0
  omega
 have hke0 : k0 = t.finals.length := by omega
 refine wc_exit rfl ?_
 refine wc_seq ?_
 rw [hke0, List.take_length] at hes
 obtain ⟨I8, M, hI8, Re⟩ := M.frzRow 0 rfl
 have hoI8 := M.old
 rw [hes] at Re
 refine wc_region <| wl_m M (q_ldbA 0 Try.underlying25 rfl sz25 rfl rfl rfl rfl) rfl rfl <| wl_mv M rfl rfl <| wl_e (e_callC M (moves_c t ha (by omega) M.imm ⟨_, _, rfl, ((Rf1.mono hJ24).mono hI8), ((Ra1.mono hJ24).mono hI8)⟩ (R24.mono hI8)) Try.func38 rfl rfl) rfl rfl ?_
 rintro v59 w8 ⟨J59, hJ59, ⟨K, R59, hK, hKlen⟩, M⟩
 obtain ⟨u59, rfl⟩ := rdSl_slice R59
 have hmv := mv_big (l := (runesL x)) ha hxl hK (hbig hv)
 have hoJ59 := M.old
 refine wl_as M rfl rfl <| wl_nil ?_
 refine wc_seq <| wc_region <| wl_e (e_mkm QTCfg sv M) rfl rfl ?_
 rintro _ w9 ⟨b60, rfl, M⟩
 replace M := M.toGm 0 EMove rfl
 try simp only [sC0, sCS] at M
 refine wl_mv M rfl rfl <| wl_mv M rfl rfl <| wl_e (e_callC M (distances_c (es := endsT t (runesL x)) hmv (by omega) M.imm R59 (Re.mono hJ59)) Try.func39 rfl rfl) rfl rfl ?_
 rintro v63 w10 ⟨J63, hJ63, ⟨dist, Rd, hds, hdl⟩, M⟩
 have hdk := dist_ok hK hds
 have hdl2 : dist.length ≤ 2097152 := by omega
 obtain ⟨bd, rfl, hbd⟩ := Rd
 have Rd : rdMp QTCfg (Value.int .i64) J63 (.map (some bd)) dist := ⟨bd, rfl, hbd⟩
 have hoJ63 := M.old
 refine wl_mv M rfl rfl <| wl_m M (q_build (bd_66_0_1_2 _ _ _) ⟨⟨rfl, rfl⟩, ⟨rfl, rfl⟩, ⟨rfl, rfl⟩, trivial⟩) rfl rfl <| wl_e (e_box M rfl) rfl rfl ?_
 rintro _ w11 ⟨b66, rfl, M⟩
 refine wl_as M rfl rfl <| wl_nil ?_
 refine wc_seq ?_
 refine wc_seq <| wc_region <| wl_mv M rfl rfl <| wl_m M (q_lenR (R59.mono hJ63) Try.underlying59 rfl) rfl rfl <| wl_mv M rfl rfl <| wl_nil <| wc_block ?_
 refine wc_loop (α := Nat × (List SV) × (List (TCfg × List Move))) [16, 69, 70, 71, 72, 73, 74, 75, 76, 77, 78, 79, 80, 81, 82, 83, 84, 85] (fun ((k2, us_60_2, g_60_2) : Nat × (List SV) × (List (TCfg × List Move))) => [(69, .int .i64 (k2 : Int))])
   (fun ((k2, us_60_2, g_60_2) : Nat × (List SV) × (List (TCfg × List Move))) w' => (k2 ≤ (K.flatMap (tcE t (runesL x))).length) ∧ (g_60_2 = grp (fun e : Move => e.src) (fun e : Move => e) ((K.flatMap (tcE t (runesL x))).take k2)) ∧ Mem w I J63 (box b66 66 [.map (some b60), (.map (some bd)), .int .i64 n] :: gmap QTCfg EMove b60 us_60_2 us_60_2 g_60_2 :: box b3 25 [.int .i64 t.states, .int .i64 t.start, sv fu1, sv au1] :: []) w')
   (fun ((k2, us_60_2, g_60_2) : Nat × (List SV) × (List (TCfg × List Move))) => (K.flatMap (tcE t (runesL x))).length - k2) (0, [], []) ⟨rfl, trivial⟩ ?_ ?_
 ·refine ⟨Nat.zero_le _, rfl, ?_⟩
  exact M
 rintro ⟨k2, us_60_2, g_60_2⟩ jj2 w12 ⟨hk2, hg, M⟩
 have hoJ63 := M.old
 refine wc_seq <| wc_region <| wl_m M (q_lss rfl rfl) rfl rfl <| wl_nil ?_
 refine wc_seq ?_
 refine wc_dec rfl (fun ht70 => ?_) (fun ht70 => ?_)
 ·obtain ⟨x2, hx2⟩ : ∃ x_, (K.flatMap (tcE t (runesL x)))[k2]? = some x_ := ⟨_, List.getElem?_eq_getElem (by omega)⟩
  have hll2 := ((R59.mono hJ63)).len_le
  refine wc_skip ?_
  refine wc_seq <| wc_block ?_
  refine wc_seq <| wc_region ?_
  refine wl_ix (j := k2) M (R59.mono hJ63) Try.underlying59 rfl rfl hx2 rfl (fun b71 o71 p71 => ?_)
  refine wl_m M (q_ldp p71 rfl rfl) rfl rfl <| wl_e (e_alloc M z68) rfl rfl ?_
  rintro _ w13 ⟨b16, rfl, M⟩
  refine wl_e0 (e_stW 0 M rfl rfl rfl sz68 rfl rfl) rfl ?_
  intro _ w14 M
  try simp only [sC0, sCS] at M
  refine wl_nil ?_
  refine wc_draws (fun w' => Mem w I J63 (box b16 68 [.int .i64 x2.src.state, .int .i64 x2.src.pos, .int .i64 x2.dst.state, .int .i64 x2.dst.pos, .int .i32 x2.out] :: box b66 66 [.map (some b60), (.map (some bd)), .int .i64 n] :: box b3 25 [.int .i64 t.states, .int .i64 t.start, sv fu1, sv au1] :: []) w' ∧ True) [8] fol ?_
  replace M := M.drew
  have hS := (⟨(M.drop 2), trivial⟩ : _ ∧ _)
  refine wa_q 0 rfl (by kernel_rfl) (q_move rfl) hS rfl rfl ?_
  refine wa_q 1 rfl (by kernel_rfl) (q_nilCheck rfl) hS rfl rfl ?_
  refine wa_q 2 rfl (by kernel_rfl) (q_fa fo_66_0 rfl) hS rfl rfl ?_
  refine wa_q 3 rfl (by kernel_rfl) ((q_ldb 1 Try.underlying62 rfl rfl rfl rfl).mono fun _ h => h.1) hS rfl rfl ?_
  refine wa_q 4 rfl (by kernel_rfl) (q_fa fo_68_0 rfl) hS rfl rfl ?_
  refine wa_q 5 rfl (by kernel_rfl) ((q_ldbA 0 Try.underlying58 rfl sz58 rfl rfl rfl rfl).mono fun _ h => h.1) hS rfl rfl ?_
  refine wa_q 6 rfl (by kernel_rfl) ((q_ldbA 0 Try.underlying68 rfl sz68 rfl rfl rfl rfl).mono fun _ h => h.1) hS rfl rfl ?_
  refine wa_e 7 rfl (by kernel_rfl) (e_bsI (E := EMove) (xs := [x2]) M (bs_59_1 _ _ _ _ _) ⟨⟨rfl, rfl⟩, trivial⟩ rfl rfl (by decide)) rfl rfl ?_
  rintro _ w15 ⟨u81, J81, rfl, hJ81, R81, M⟩
  have hoJ81 := M.old
  have hS := (⟨((M.less hJ81 hoJ63).drop 2), trivial⟩ : _ ∧ _)
  refine ⟨fun _ => hS, ?_⟩
  refine wa_e 8 rfl (by kernel_rfl) (e_gent (k := x2.src) 2 M rfl Try.underlying62 zv59 rfl rfl) rfl rfl ?_
  rintro _ w16 ⟨us82, j82, u82, rfl, hu82, hg82, hs82, M⟩
  try simp only [sC0, sCS] at M
  refine ⟨nofun, ?_⟩
  refine wa_w 9 rfl (by kernel_rfl) (q_ext rfl rfl) nofun rfl rfl ?_
  refine wa_w 11 rfl (by kernel_rfl) (q_ext rfl rfl) nofun rfl rfl ?_
  refine wa_e 10 rfl (by kernel_rfl) (e_gapp 2 j82 M rfl Try.underlying59 hu82 hg82 rfl rfl R81 (by rw [hg]; have := grp_look_len (fun e : Move => e.src) (fun e : Move => e) x2.src ((K.flatMap (tcE t (runesL x))).take k2); rw [List.length_take] at this; show (_ + 1) * 40 ≤ _; omega)) rfl rfl ?_
  rintro _ w17 ⟨u83, rfl, M⟩
  try simp only [sC0, sCS] at M
  refine ⟨nofun, ?_⟩
  replace M := M.less hJ81 hoJ63
  refine wa_e0 12 rfl (by kernel_rfl) (e_gst 2 j82 M rfl (by rw [List.length_set]; exact (List.getElem?_eq_some_iff.1 hg82).1) (List.getElem?_eq_some_iff.1 hu82).1 rfl rfl rfl) rfl ?_
  intro _ w18 M
  rw [hs82] at M
  try simp only [sC0, sCS] at M
  refine ⟨nofun, ?_⟩
  refine wa_done (by kernel_rfl) ?_
  refine wc_region <| wl_m M (q_add rfl rfl (IntWalk.i64_in _ (by omega))) rfl rfl ?_
  refine wl_mv M rfl rfl <| wl_nil ?_
  replace M := M.drop 0
  refine ⟨(k2 + 1, us82.set j82 u83, aput g_60_2 x2.src ((aget g_60_2 x2.src).getD [] ++ [x2])), ?_, ⟨(by omega), (by rw [take_snoc hx2, grp_snoc, hg]), M⟩, ⟨rfl, trivial⟩, unw_look rfl unw_base⟩
  show (K.flatMap (tcE t (runesL x))).length - (k2 + 1) < (K.flatMap (tcE t (runesL x))).length - k2
  omega
 have hke2 : k2 = (K.flatMap (tcE t (runesL x))).length := by omega
 refine wc_exit rfl ?_
 refine wc_seq ?_
 rw [hke2, List.take_length] at hg
 obtain ⟨I9, M, hI9, Rg⟩ := M.frzGm 1 rfl
 have hoI9 := M.old
 rw [hg] at Rg
 obtain ⟨I10, M, hI10, Hs⟩ := M.frzBox 0 rfl
 have hoI10 := M.old
 refine wc_region <| wl_as M rfl rfl ?_
 replace M := M.nilRow EStr
 refine wl_nil ?_
 refine wc_seq <| wc_region <| wl_mv M rfl rfl <| wl_m M (q_fa fo_25_1 rfl) rfl rfl <| wl_m M (q_ldb 1 Try.underlying3 rfl rfl rfl rfl) rfl rfl <| wl_m M (q_build (bd_58_0 _) ⟨⟨rfl, rfl⟩, trivial⟩) rfl rfl <| wl_e (e_bsI (E := ETCfg) (xs := [(TCfg.mk t.start 0)]) M (bs_56_1 _ _) ⟨⟨rfl, rfl⟩, trivial⟩ rfl rfl (by decide)) rfl rfl ?_
 rintro _ w19 ⟨u90, J90, rfl, hJ90, R90, M⟩
 have hoJ90 := M.old
 refine wl_e (e_callC M (closed_c (wr := 0) (fr := [(⟨t.start, 0⟩ : TCfg)]) hmv hdl2 (by simp) ⟨by omega, by omega⟩ (by omega) M.imm (hJ90 _ _ Hs) ((Rg.mono hI10).mono hJ90) (((Rd.mono hI9).mono hI10).mono hJ90) R90) Try.func40 rfl rfl) rfl rfl ?_
 rintro _ w20 ⟨J91, hJ91, ⟨K91, R91, hn91, hl91, hK91⟩, M⟩
 obtain ⟨b91, rfl, hb91⟩ := R91
 have R91 : rdMp QTCfg Value.bool J91 (.map (some b91)) (tr K91) := ⟨b91, rfl, hb91⟩
 have hsr0 := sr_zero hnn hK hdk hK91
 have hoJ91 := M.old
 refine wl_m M (q_build (bd_72_0_1 _ _) ⟨⟨rfl, rfl⟩, ⟨rfl, rfl⟩, trivial⟩) rfl rfl <| wl_e (e_bsR (E := EPre) (xs := [RPre.mk nilV b91]) M (bs_75_1 _ _) ⟨⟨rfl, rfl⟩, trivial⟩ rfl rfl (by decide)) rfl rfl ?_
 rintro _ w21 ⟨u93, rfl, M⟩
 refine wl_as M rfl rfl <| wl_nil ?_
 refine wc_seq ?_
 refine wc_seq <| wc_region <| wl_mv M rfl rfl <| wl_m M (q_add rfl rfl (IntWalk.i64_in _ (by omega))) rfl rfl ?_
 refine wl_mv M rfl rfl <| wl_nil <| wc_block ?_
 refine wc_loop (α := Heap × Nat × (List (List Int × List TCfg)) × (List (List Int)) × SV × (List RPre) × SV × (List ByteArray)) [6, 7, 17, 18, 19, 21, 96, 97, 98, 99, 100, 101, 102, 103, 104, 105, 106, 107, 108, 109, 110, 111, 112, 113, 114, 115, 116, 117, 118, 119, 120, 121, 122, 123, 124, 125, 126, 127, 128] (fun ((Ic, k4, Q4, o4, u_93_4, l_93_4, u_17_4, l_17_4) : Heap × Nat × (List (List Int × List TCfg)) × (List (List Int)) × SV × (List RPre) × SV × (List ByteArray)) => [(96, .int .i64 (k4 : Int)), (17, sv u_17_4), (18, sv u_93_4)])
   (fun ((Ic, k4, Q4, o4, u_93_4, l_93_4, u_17_4, l_17_4) : Heap × Nat × (List (List Int × List TCfg)) × (List (List Int)) × SV × (List RPre) × SV × (List ByteArray)) w' => (hle J91 Ic) ∧ (k4 ≤ (n.toNat + 1)) ∧ (Sr (tnet t (runesL x)) ⟨t.start, 0⟩ n.toNat k4 Q4 o4) ∧ (Pres Ic l_93_4 Q4) ∧ (l_17_4 = o4.map strL) ∧ (o4.length ≤ 256) ∧ (∀ p ∈ Q4, p.1.length ≤ k4 ∧ p.2.length ≤ 2097152) ∧ (Q4.length ≤ 256) ∧ Mem w I Ic (row EPre (sv u_93_4) l_93_4 :: row EStr (sv u_17_4) l_17_4 :: box b3 25 [.int .i64 t.states, .int .i64 t.start, sv fu1, sv au1] :: []) w')
   (fun ((Ic, k4, Q4, o4, u_93_4, l_93_4, u_17_4, l_17_4) : Heap × Nat × (List (List Int × List TCfg)) × (List (List Int)) × SV × (List RPre) × SV × (List ByteArray)) => (n.toNat + 1) - k4) (J91, 0, [([], K91)], [], u93, [RPre.mk nilV b91], nilV, []) ⟨rfl, rfl, rfl, trivial⟩ ?_ ?_
 ·refine ⟨hle.refl _, Nat.zero_le _, hsr0, ⟨⟨rdSl_nil _, R91⟩, trivial⟩, rfl, (by simp), (fun p hp => by rw [List.mem_singleton.1 hp]; exact ⟨Nat.le_refl _, by show K91.length ≤ _; omega⟩), (by simp), ?_⟩
  exact M
 rintro ⟨Ic, k4, Q4, o4, u_93_4, l_93_4, u_17_4, l_17_4⟩ jj4 w22 ⟨hIc, hk4, hSr, hP, ho, ho2, hQb, hQn, M⟩
 have hoIc := M.old
 refine wc_seq <| wc_region <| wl_m M (q_lss rfl rfl) rfl rfl <| wl_nil ?_
 refine wc_seq ?_
 refine wc_dec rfl (fun ht97 => ?_) (fun ht97 => ?_)
 ·refine wc_skip ?_
  refine wc_seq <| wc_block ?_
  refine wc_seq <| wc_region <| wl_as M rfl rfl ?_
  replace M := M.nilRow EPre
  refine wl_nil ?_
  refine wc_seq ?_
  refine wc_seq <| wc_region <| wl_mv M rfl rfl <| wl_m M (q_lenr 1 M rfl Try.underlying75 rfl) rfl rfl <| wl_mv M rfl rfl <| wl_nil <| wc_block ?_
  refine wc_loop (α := Heap × Nat × (List (List Int)) × (List (List Int × List TCfg)) × SV × (List ByteArray) × SV × (List RPre)) [6, 7, 17, 19, 21, 100, 101, 102, 103, 104, 105, 106, 107, 108, 109, 110, 111, 112, 113, 114, 115, 116, 117, 118, 119, 120, 121, 122, 123, 124, 125, 126] (fun ((Id, k6, o6, q6s, u_17_6, l_17_6, u_19_6, l_19_6) : Heap × Nat × (List (List Int)) × (List (List Int × List TCfg)) × SV × (List ByteArray) × SV × (List RPre)) => [(100, .int .i64 (k6 : Int)), (17, sv u_17_6), (19, sv u_19_6)])
    (fun ((Id, k6, o6, q6s, u_17_6, l_17_6, u_19_6, l_19_6) : Heap × Nat × (List (List Int)) × (List (List Int × List TCfg)) × SV × (List ByteArray) × SV × (List RPre)) w' => (hle Ic Id) ∧ (k6 ≤ l_93_4.length) ∧ (SrIn (tnet t (runesL x)) ⟨t.start, 0⟩ n.toNat Q4 o4 k6 o6 q6s) ∧ (Pres Id l_19_6 q6s) ∧ (l_17_6 = o6.map strL) ∧ (o6.length ≤ 256) ∧ (q6s.length ≤ 256) ∧ (∀ p ∈ q6s, p.1.length ≤ k4 + 1 ∧ p.2.length ≤ 2097152) ∧ Mem w I Id (row EPre (sv u_19_6) l_19_6 :: row EPre (sv u_93_4) l_93_4 :: row EStr (sv u_17_6) l_17_6 :: box b3 25 [.int .i64 t.states, .int .i64 t.start, sv fu1, sv au1] :: []) w')
    (fun ((Id, k6, o6, q6s, u_17_6, l_17_6, u_19_6, l_19_6) : Heap × Nat × (List (List Int)) × (List (List Int × List TCfg)) × SV × (List ByteArray) × SV × (List RPre)) => l_93_4.length - k6) (Ic, 0, o4, [], u_17_4, l_17_4, nilV, []) ⟨rfl, rfl, rfl, trivial⟩ ?_ ?_
  ·refine ⟨hle.refl _, Nat.zero_le _, SrIn.init, trivial, ho, ho2, (by simp), (by simp), ?_⟩
   exact M
  rintro ⟨Id, k6, o6, q6s, u_17_6, l_17_6, u_19_6, l_19_6⟩ jj6 w23 ⟨hId, hk6, hIn, hP6, ho6, h256, h257, hQ6, M⟩
  have hoId := M.old
  refine wc_seq <| wc_region <| wl_m M (q_lss rfl rfl) rfl rfl <| wl_nil ?_
  refine wc_seq ?_
  refine wc_dec rfl (fun ht101 => ?_) (fun ht101 => ?_)
  ·obtain ⟨x6, hx6⟩ : ∃ x_, l_93_4[k6]? = some x_ := ⟨_, List.getElem?_eq_getElem (by omega)⟩
   have hPl := hP.len
   obtain ⟨q6, hq6, hpq⟩ := Pres.at (Pres.mono hId hP) hx6
   obtain ⟨Rt6, Rs6⟩ := hpq
   have hqb := hQb q6 (List.mem_of_getElem? hq6)
   have hol := congrArg List.length ho6
   rw [List.length_map] at hol
   refine wc_skip ?_
   refine wc_seq <| wc_block ?_
   refine wc_seq <| wc_region ?_
   refine wl_ixr (j := k6) 1 M rfl Try.underlying75 rfl rfl hx6 rfl (fun b102 o102 p102 => ?_)
   refine wl_m M (q_ldp p102 rfl rfl) rfl rfl <| wl_e (e_alloc M z72) rfl rfl ?_
   rintro _ w24 ⟨b21, rfl, M⟩
   refine wl_e0 (e_stW 0 M rfl rfl rfl sz72 rfl rfl) rfl ?_
   intro _ w25 M
   try simp only [sC0, sCS] at M
   refine wl_nil ?_
   refine wc_seq ?_
   refine wc_seq ?_
   obtain ⟨I12, M, hI12, Hq⟩ := M.frzBox 0 rfl
   have hoI12 := M.old
   refine wc_region <| wl_mv M rfl rfl <| wl_m M (q_makeFunc (vs := [.pointer (some ⟨b21, 0, none⟩)]) rfl) rfl rfl <| wl_e (e_callC M (containsF_c M.imm (((((((((Re.mono hJ59).mono hJ63).mono hI9).mono hI10).mono hJ90).mono hJ91).mono hIc).mono hId).mono hI12) Hq (Rs6.mono hI12)) Try.func41 rfl rfl) rfl rfl ?_
   rintro _ w26 ⟨J106, hJ106, rfl, M⟩
   replace M := M.less hJ106 hoI12
   refine wl_nil ?_
   refine wc_cond rfl (fun ht106 => ?_) (fun ht106 => ?_)
   ·have hacc : accP (tnet t (runesL x)) q6 = true := by rw [← acc_ends]; exact ht106
    refine wc_region <| wl_mv M rfl rfl <| wl_m M (q_fa fo_72_0 rfl) rfl rfl <| wl_m M (q_ldbI Hq Try.underlying40 rfl rfl rfl) rfl rfl <| wl_m M (q_cvS (E := ERune) (fun _ => rfl) rfl (fun _ M => (Rt6.mono hI12).mono M.imm) Try.underlying40 Try.underlying21 Try.underlying9 rfl) rfl rfl ?_
    refine wl_e (e_bsI (E := EStr) (xs := [strL q6.1]) M (bs_30_1 _) ⟨⟨rfl, rfl⟩, trivial⟩ rfl rfl (by decide)) rfl rfl ?_
    rintro _ w27 ⟨u111, J111, rfl, hJ111, R111, M⟩
    have hoJ111 := M.old
    refine wl_e (e_app 2 M rfl R111 Try.underlying30 rfl rfl (by rw [ho6, List.length_map]; show (_ + 1) * 16 ≤ _; omega)) rfl rfl ?_
    rintro _ w28 ⟨u112, rfl, M⟩
    replace M := M.less hJ111 hoI12
    try simp only [sC0, sCS] at M
    refine wl_as M rfl rfl <| wl_nil ?_
    refine wc_seq <| wc_region <| wl_mv M rfl rfl <| wl_mv M rfl rfl <| wl_m M (q_ldbAI Hq Try.underlying72 rfl sz72 rfl rfl rfl) rfl rfl <| wl_e (e_callC M (longer_c (txt := q6.1) (cs := q6.2) hmv hdl2 ⟨by omega, by omega⟩ (by omega) (by omega) (alph_mv hal) M.imm (hI12 _ _ (hId _ _ (hIc _ _ (hJ91 _ _ (hJ90 _ _ Hs))))) ((((((Rg.mono hI10).mono hJ90).mono hJ91).mono hIc).mono hId).mono hI12) (((((((Rd.mono hI9).mono hI10).mono hJ90).mono hJ91).mono hIc).mono hId).mono hI12) (Rt6.mono hI12) (Rs6.mono hI12)) Try.func43 rfl rfl) rfl rfl ?_
    rintro _ w29 ⟨J116, hJ116, ⟨rs, ys, fr, Kf, hL, ⟨hKl, hyl⟩, R116, P116⟩, M⟩
    obtain ⟨u116, rfl⟩ := rdSl_slice R116
    have hql := P116.len
    have hqy : (qsL q6.1 ys Kf).length ≤ ys.length := by rw [qsL, List.length_map]; exact List.length_filter_le _ _
    have hoJ116 := M.old
    refine wl_e (e_app 0 M rfl R116 Try.underlying75 rfl rfl (by have := hP6.len; show (_ + _) * 32 ≤ _; omega)) rfl rfl ?_
    rintro _ w30 ⟨u117, rfl, M⟩
    try simp only [sC0, sCS] at M
    refine wl_as M rfl rfl <| wl_nil ?_
    refine wc_seq ?_
    refine wc_join (α := Unit) [118, 119, 120, 121, 122, 123, 124, 125] (fun _ => [(125, .bool ((decide (256 < ((l_17_6 ++ [strL q6.1]).length : Int))) || (decide (256 < ((l_19_6 ++ rs).length : Int)))))]) (fun _ w' => Mem w I J116 (row EPre (sv u117) (l_19_6 ++ rs) :: row EPre (sv u_93_4) l_93_4 :: row EStr (sv u112) (l_17_6 ++ [strL q6.1]) :: box b3 25 [.int .i64 t.states, .int .i64 t.start, sv fu1, sv au1] :: []) w') ?_ ?_
    ·refine wc_region <| wl_mv M rfl rfl <| wl_m M (q_lenr 2 M rfl Try.underlying30 rfl) rfl rfl <| wl_m M (q_gtr rfl rfl) rfl rfl <| wl_mv M rfl rfl ?_
     rcases Bool.eq_false_or_eq_true (decide (256 < ((l_17_6 ++ [strL q6.1]).length : Int))) with hg121 | hg121
     ·refine wl_m M (q_off 3 rfl rfl rfl hg121) rfl rfl <| wl_m M (q_off 3 rfl rfl rfl hg121) rfl rfl <| wl_m M (q_off 3 rfl rfl rfl hg121) rfl rfl <| wl_m M (q_pickT rfl hg121 rfl) rfl rfl <| wl_nil ?_
      exact ⟨(), M, ⟨(show some (Value.bool true) = some (Value.bool ((decide (256 < ((l_17_6 ++ [strL q6.1]).length : Int))) || (decide (256 < ((l_19_6 ++ rs).length : Int))))) from by first | (simp only [hg121, bL8]; done) | (simp_all; done) | (simp_all; omega)), trivial⟩, unw_take 8 rfl rfl⟩
     refine wl_m M (q_guard 3 rfl rfl rfl hg121 (q_move rfl)) rfl rfl <| wl_m M (q_guard 3 rfl rfl rfl hg121 (q_lenr 0 M rfl Try.underlying75 rfl)) rfl rfl <| wl_m M (q_guard 3 rfl rfl rfl hg121 (q_gtr rfl rfl)) rfl rfl <| wl_m M (q_pickF rfl hg121 rfl) rfl rfl <| wl_nil ?_
     exact ⟨(), M, ⟨(show some (Value.bool (decide (256 < ((l_19_6 ++ rs).length : Int)))) = some (Value.bool ((decide (256 < ((l_17_6 ++ [strL q6.1]).length : Int))) || (decide (256 < ((l_19_6 ++ rs).length : Int))))) from by first | (simp only [hg121, bL8]; done) | (simp_all; done) | (simp_all; omega)), trivial⟩, unw_take 8 rfl rfl⟩
    rintro _ jr28 w31 M
    refine wc_cond rfl (fun ht125 => ?_) (fun ht125 => ?_)
    ·have hIn7 := hIn.yes hq6 hacc (nx_out hnn hK hdk hL)
     have e1 : (l_17_6 ++ [strL q6.1]).length = (o6 ++ [q6.1]).length := by rw [List.length_append, List.length_append, hol]; rfl
     have e2 : (l_19_6 ++ rs).length = (q6s ++ qsL q6.1 ys Kf).length := by rw [List.length_append, List.length_append, hP6.len, hql]
     refine wc_seq <| wc_region <| wl_as M rfl rfl <| wl_as M rfl rfl <| wl_nil <| wc_ret ?_
     refine out2 rfl rfl rfl ⟨_, _, rfl, M.grow, nilV, [], 2, rfl, rdSl_nil _, outP_big hg0 fun W hW => ?_⟩
     obtain ⟨b1, b2⟩ := hIn7.big (by have := hP.len; omega) hSr (by omega) hW
     rcases Bool.or_eq_true_iff.1 ht125 with h | h
     · have := of_decide_eq_true h; omega
     · have := of_decide_eq_true h; omega
    have hIn7 := hIn.yes hq6 hacc (nx_out hnn hK hdk hL)
    have e1 : (l_17_6 ++ [strL q6.1]).length = (o6 ++ [q6.1]).length := by rw [List.length_append, List.length_append, hol]; rfl
    have e2 : (l_19_6 ++ rs).length = (q6s ++ qsL q6.1 ys Kf).length := by rw [List.length_append, List.length_append, hP6.len, hql]
    rw [Bool.or_eq_false_iff] at ht125
    have h125a := of_decide_eq_false ht125.1
    have h125b := of_decide_eq_false ht125.2
    have h256n : (o6 ++ [q6.1]).length ≤ 256 := by omega
    have h257n : (q6s ++ qsL q6.1 ys Kf).length ≤ 256 := by omega
    have hQ7 : ∀ p ∈ q6s ++ qsL q6.1 ys Kf, p.1.length ≤ k4 + 1 ∧ p.2.length ≤ 2097152 := fun p hp => by
      rcases List.mem_append.1 hp with h | h
      · exact hQ6 p h
      · obtain ⟨r, hr, rfl⟩ := List.mem_map.1 h
        have := hKl r (List.mem_filter.1 hr).1
        refine ⟨?_, by show (Kf r).length ≤ _; omega⟩
        show (q6.1 ++ [r]).length ≤ _
        rw [List.length_append, List.length_singleton]; omega
    refine wc_skip <| wc_region <| wl_m M (q_add rfl rfl (IntWalk.i64_in _ (by omega))) rfl rfl ?_
    refine wl_mv M rfl rfl <| wl_nil ?_
    refine ⟨(J116, k6 + 1, o6 ++ [q6.1], q6s ++ qsL q6.1 ys Kf, u112, l_17_6 ++ [strL q6.1], u117, l_19_6 ++ rs), ?_, ⟨(hle.trans (hle.trans hId hI12) hJ116), (by omega), hIn7, (Pres.app P116 (Pres.mono (hle.trans hI12 hJ116) hP6)), (by rw [ho6, List.map_append]; rfl), h256n, h257n, hQ7, M⟩, ⟨rfl, rfl, rfl, trivial⟩, unw_look rfl (unw_hav rfl (unw_look rfl unw_base))⟩
    show l_93_4.length - (k6 + 1) < l_93_4.length - k6
    omega
   have hacc : accP (tnet t (runesL x)) q6 = false := by rw [← acc_ends]; exact ht106
   refine wc_skip ?_
   refine wc_seq <| wc_region <| wl_mv M rfl rfl <| wl_mv M rfl rfl <| wl_m M (q_ldbAI Hq Try.underlying72 rfl sz72 rfl rfl rfl) rfl rfl <| wl_e (e_callC M (longer_c (txt := q6.1) (cs := q6.2) hmv hdl2 ⟨by omega, by omega⟩ (by omega) (by omega) (alph_mv hal) M.imm (hI12 _ _ (hId _ _ (hIc _ _ (hJ91 _ _ (hJ90 _ _ Hs))))) ((((((Rg.mono hI10).mono hJ90).mono hJ91).mono hIc).mono hId).mono hI12) (((((((Rd.mono hI9).mono hI10).mono hJ90).mono hJ91).mono hIc).mono hId).mono hI12) (Rt6.mono hI12) (Rs6.mono hI12)) Try.func43 rfl rfl) rfl rfl ?_
   rintro _ w32 ⟨J116, hJ116, ⟨rs, ys, fr, Kf, hL, ⟨hKl, hyl⟩, R116, P116⟩, M⟩
   obtain ⟨u116, rfl⟩ := rdSl_slice R116
   have hql := P116.len
   have hqy : (qsL q6.1 ys Kf).length ≤ ys.length := by rw [qsL, List.length_map]; exact List.length_filter_le _ _
   have hoJ116 := M.old
   refine wl_e (e_app 0 M rfl R116 Try.underlying75 rfl rfl (by have := hP6.len; show (_ + _) * 32 ≤ _; omega)) rfl rfl ?_
   rintro _ w33 ⟨u117, rfl, M⟩
   try simp only [sC0, sCS] at M
   refine wl_as M rfl rfl <| wl_nil ?_
   refine wc_seq ?_
   refine wc_join (α := Unit) [118, 119, 120, 121, 122, 123, 124, 125] (fun _ => [(125, .bool ((decide (256 < (l_17_6.length : Int))) || (decide (256 < ((l_19_6 ++ rs).length : Int)))))]) (fun _ w' => Mem w I J116 (row EPre (sv u117) (l_19_6 ++ rs) :: row EPre (sv u_93_4) l_93_4 :: row EStr (sv u_17_6) l_17_6 :: box b3 25 [.int .i64 t.states, .int .i64 t.start, sv fu1, sv au1] :: []) w') ?_ ?_
   ·refine wc_region <| wl_mv M rfl rfl <| wl_m M (q_lenr 2 M rfl Try.underlying30 rfl) rfl rfl <| wl_m M (q_gtr rfl rfl) rfl rfl <| wl_mv M rfl rfl ?_
    rcases Bool.eq_false_or_eq_true (decide (256 < (l_17_6.length : Int))) with hg121 | hg121
    ·refine wl_m M (q_off 3 rfl rfl rfl hg121) rfl rfl <| wl_m M (q_off 3 rfl rfl rfl hg121) rfl rfl <| wl_m M (q_off 3 rfl rfl rfl hg121) rfl rfl <| wl_m M (q_pickT rfl hg121 rfl) rfl rfl <| wl_nil ?_
     exact ⟨(), M, ⟨(show some (Value.bool true) = some (Value.bool ((decide (256 < (l_17_6.length : Int))) || (decide (256 < ((l_19_6 ++ rs).length : Int))))) from by first | (simp only [hg121, bL8]; done) | (simp_all; done) | (simp_all; omega)), trivial⟩, unw_take 8 rfl rfl⟩
    refine wl_m M (q_guard 3 rfl rfl rfl hg121 (q_move rfl)) rfl rfl <| wl_m M (q_guard 3 rfl rfl rfl hg121 (q_lenr 0 M rfl Try.underlying75 rfl)) rfl rfl <| wl_m M (q_guard 3 rfl rfl rfl hg121 (q_gtr rfl rfl)) rfl rfl <| wl_m M (q_pickF rfl hg121 rfl) rfl rfl <| wl_nil ?_
    exact ⟨(), M, ⟨(show some (Value.bool (decide (256 < ((l_19_6 ++ rs).length : Int)))) = some (Value.bool ((decide (256 < (l_17_6.length : Int))) || (decide (256 < ((l_19_6 ++ rs).length : Int))))) from by first | (simp only [hg121, bL8]; done) | (simp_all; done) | (simp_all; omega)), trivial⟩, unw_take 8 rfl rfl⟩
   rintro _ jr28 w34 M
   refine wc_cond rfl (fun ht125 => ?_) (fun ht125 => ?_)
   ·have hIn7 := hIn.no hq6 hacc (nx_out hnn hK hdk hL)
    have e1 : (l_17_6).length = (o6).length := by exact hol
    have e2 : (l_19_6 ++ rs).length = (q6s ++ qsL q6.1 ys Kf).length := by rw [List.length_append, List.length_append, hP6.len, hql]
    refine wc_seq <| wc_region <| wl_as M rfl rfl <| wl_as M rfl rfl <| wl_nil <| wc_ret ?_
    refine out2 rfl rfl rfl ⟨_, _, rfl, M.grow, nilV, [], 2, rfl, rdSl_nil _, outP_big hg0 fun W hW => ?_⟩
    obtain ⟨b1, b2⟩ := hIn7.big (by have := hP.len; omega) hSr (by omega) hW
    rcases Bool.or_eq_true_iff.1 ht125 with h | h
    · have := of_decide_eq_true h; omega
    · have := of_decide_eq_true h; omega
   have hIn7 := hIn.no hq6 hacc (nx_out hnn hK hdk hL)
   have e1 : (l_17_6).length = (o6).length := by exact hol
   have e2 : (l_19_6 ++ rs).length = (q6s ++ qsL q6.1 ys Kf).length := by rw [List.length_append, List.length_append, hP6.len, hql]
   rw [Bool.or_eq_false_iff] at ht125
   have h125a := of_decide_eq_false ht125.1
   have h125b := of_decide_eq_false ht125.2
   have h256n : (o6).length ≤ 256 := by omega
   have h257n : (q6s ++ qsL q6.1 ys Kf).length ≤ 256 := by omega
   have hQ7 : ∀ p ∈ q6s ++ qsL q6.1 ys Kf, p.1.length ≤ k4 + 1 ∧ p.2.length ≤ 2097152 := fun p hp => by
     rcases List.mem_append.1 hp with h | h
     · exact hQ6 p h
     · obtain ⟨r, hr, rfl⟩ := List.mem_map.1 h
       have := hKl r (List.mem_filter.1 hr).1
       refine ⟨?_, by show (Kf r).length ≤ _; omega⟩
       show (q6.1 ++ [r]).length ≤ _
       rw [List.length_append, List.length_singleton]; omega
   refine wc_skip <| wc_region <| wl_m M (q_add rfl rfl (IntWalk.i64_in _ (by omega))) rfl rfl ?_
   refine wl_mv M rfl rfl <| wl_nil ?_
   refine ⟨(J116, k6 + 1, o6, q6s ++ qsL q6.1 ys Kf, u_17_6, l_17_6, u117, l_19_6 ++ rs), ?_, ⟨(hle.trans (hle.trans hId hI12) hJ116), (by omega), hIn7, (Pres.app P116 (Pres.mono (hle.trans hI12 hJ116) hP6)), ho6, h256n, h257n, hQ7, M⟩, ⟨rfl, rfl, rfl, trivial⟩, unw_look rfl (unw_hav rfl (unw_look rfl unw_base))⟩
   show l_93_4.length - (k6 + 1) < l_93_4.length - k6
   omega
  have hke6 : k6 = l_93_4.length := by omega
  have hk6q : k6 = Q4.length := by rw [hke6, hP.len]
  rw [hk6q] at hIn
  refine wc_exit rfl <| wc_region <| wl_mv M rfl rfl <| wl_as M rfl rfl <| wl_nil <| wc_region <| wl_m M (q_add rfl rfl (IntWalk.i64_in _ (by omega))) rfl rfl ?_
  refine wl_mv M rfl rfl <| wl_nil ?_
  replace M := M.drop 1
  refine ⟨(Id, k4 + 1, q6s, o6, u_19_6, l_19_6, u_17_6, l_17_6), ?_, ⟨(hle.trans hIc hId), (by omega), (hIn.done hSr (by omega)), hP6, ho6, h256, hQ6, h257, M⟩, ⟨rfl, rfl, rfl, trivial⟩, unw_look rfl (unw_hav rfl (unw_look rfl unw_base))⟩
  show (n.toNat + 1) - (k4 + 1) < (n.toNat + 1) - k4
  omega
 have hke4 : k4 = (n.toNat + 1) := by omega
 rw [hke4] at hSr
 refine wc_exit rfl ?_
 refine wc_seq <| wc_region <| wl_mv M rfl rfl <| wl_as M rfl rfl <| wl_as M rfl rfl <| wl_nil <| wc_ret ?_
 obtain ⟨K1, M, hK1, Rk1⟩ := M.frzRow 1 rfl
 rw [ho] at Rk1
 exact out2 rfl rfl rfl ⟨_, K1, rfl, (M.grow : Grow w I _ K1), _, _, 0, rfl, Rk1, outP_ok hg0 ho2 (fun W hW => hSr.fin hW)⟩
end Go.Proofs.Ytfepjcmjkaolgaa.G
