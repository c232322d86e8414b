/- Walks of the program's functions. -/
import Derived.Test.YtfepjcmjkaolgaaGShl
import Derived.Test.YtfepjcmjkaolgaaWSg
import Derived.Test.YtfepjcmjkaolgaaWOe
import Derived.Test.YtfepjcmjkaolgaaWSa
import Derived.Test.YtfepjcmjkaolgaaWOa
set_option linter.all false
namespace Go.Proofs.Ytfepjcmjkaolgaa.G
open Go Go.RowKit
set_option maxRecDepth 4000 in
set_option maxHeartbeats 1000000 in
theorem shortest_c (t : Tra) (hbig : validT t = true → t.states.toNat * (2 * t.states.toNat + 1) * t.arcs.length ≤ 1048576) (hal : validT t = true → ∀ ks : List Int, ks.Nodup → (∀ r ∈ ks, r ≠ 0 ∧ ∃ z ∈ t.arcs, z.out = r) → ks.length ≤ 4096) (hH : ShtH t) {v1 : Value} {I : Heap} {w : World} (hI : hle I (hp w)) (R1 : t.rd I v1) :
    Calls A 13 #[v1] w (Ret w I fun r _ => ∃ (x y : ByteArray) (b : Bool), r = .tuple #[.string x, .string y, .bool b] ∧ ShtP t x y b) := by
 obtain ⟨fu1, au1, rfl, Rf1, Ra1⟩ := R1
 have M := Mem.start hI
 refine enter Try.func13 rfl 87 Try.ntmps13 [_] rfl ?_
 refine wc_seq <| wc_region <| wl_e (e_box M rfl) rfl rfl ?_
 rintro _ w1 ⟨b1, rfl, M⟩
 refine wl_as M rfl rfl <| wl_as M rfl rfl <| wl_as M rfl rfl <| wl_nil ?_
 refine wc_seq ?_
 refine wc_seq <| wc_region <| wl_m M (q_ldbA 0 Try.underlying25 rfl sz25 rfl rfl rfl rfl) rfl rfl <| wl_e (e_callC M (emptyT_c t M.imm ⟨_, _, rfl, Rf1, Ra1⟩) Try.func17 rfl rfl) rfl rfl ?_
 rintro _ w2 ⟨J16, hJ16, rfl, M⟩
 replace M := M.less hJ16 (fun _ _ => rfl)
 refine wl_nil ?_
 refine wc_cond rfl (fun ht16 => ?_) (fun ht16 => ?_)
 ·refine wc_seq <| wc_region <| wl_as M rfl rfl <| wl_as M rfl rfl <| wl_as M rfl rfl <| wl_nil <| wc_ret ?_
  exact out3 rfl rfl rfl rfl ⟨_, _, rfl, M.grow, _, _, _, rfl, fun _ => ⟨rfl, rfl, rfl⟩, fun h => by rw [h] at ht16; cases ht16⟩
 have hv : validT t = true := by
   cases h : validT t with
   | true => rfl
   | false => rw [emptyS, h] at ht16; cases ht16
 obtain ⟨m, ha, hrf⟩ := valid_rng hv
 have hfl := valid_fl hv
 have hmle := ha.le
 have hst := ha.st
 refine wc_skip ?_
 refine wc_seq <| wc_region <| wl_m M (q_ldbA 0 Try.underlying25 rfl sz25 rfl rfl rfl rfl) rfl rfl <| wl_e (e_callC M (usefulT_c t ha M.imm ⟨_, _, rfl, Rf1, Ra1⟩) Try.func34 rfl rfl) rfl rfl ?_
 rintro _ w3 ⟨J18, hJ18, ⟨bs, hbl, hbs, ⟨fu18, au18, rfl, Rf18, Ra18⟩⟩, M⟩
 have hoJ18 := M.old
 refine wl_e (e_callC M (tightC_c (t := usF t bs) (usF_ok ha) hrf hfl M.imm ⟨_, _, rfl, Rf18, Ra18⟩) Try.func33 rfl rfl) rfl rfl ?_
 rintro _ w4 ⟨J19, hJ19, ⟨l1, hl1, ⟨fu19, au19, rfl, Rf19, Ra19⟩⟩, M⟩
 have hoJ19 := M.old
 refine wl_e (e_callC M (tightR_c (t := tgt (usF t bs) costA l1) (tgt_ok (usF_ok ha)) hrf hfl M.imm ⟨_, _, rfl, Rf19, Ra19⟩) Try.func33 rfl rfl) rfl rfl ?_
 rintro _ w5 ⟨J20, hJ20, ⟨l2, hl2, ⟨fu20, au20, rfl, Rf20, Ra20⟩⟩, M⟩
 have hisu : IsU t (tgt (tgt (usF t bs) costA l1) readA l2) := ⟨m, bs, l1, l2, ha, hbl, hbs, hl1, hl2, rfl⟩
 have ha3 : (tgt (tgt (usF t bs) costA l1) readA l2).Ok m := tgt_ok (tgt_ok (usF_ok ha))
 have hb3 := hl2.bnd t.start
 have hfl3 : (tgt (tgt (usF t bs) costA l1) readA l2).finals.length ≤ 4096 := hfl
 have hal3 : (tgt (tgt (usF t bs) costA l1) readA l2).arcs.length ≤ t.arcs.length := Nat.le_trans (List.length_filter_le _ _) (Nat.le_trans (List.length_filter_le _ _) (List.length_filter_le _ _))
 have hoJ20 := M.old
 refine wl_e (e_alloc M z25) rfl rfl ?_
 rintro _ w6 ⟨b5, rfl, M⟩
 refine wl_e0 (e_stW 0 M rfl rfl rfl sz25 rfl rfl) rfl ?_
 intro _ w7 M
 try simp only [sC0, sCS] at M
 refine wl_nil ?_
 refine wc_seq <| wc_region <| wl_m M (q_ldbA 0 Try.underlying25 rfl sz25 rfl rfl rfl rfl) rfl rfl <| wl_e (e_callC M (firstIn_c ha3 (P := lat l2) tgt_pot (by show lat l2 t.start ≤ _; omega) M.imm ⟨_, _, rfl, Rf20, Ra20⟩) Try.func37 rfl rfl) rfl rfl ?_
 rintro v22 w8 ⟨J22, hJ22, ⟨xs, R22, hG, hxl⟩, M⟩
 obtain ⟨u22, rfl⟩ := rdSl_slice R22
 have hxm : xs.length ≤ 2 * m := by have h9 : (xs.length : Int) ≤ max 0 (lat l2 t.start) := hxl; omega
 have hone := hH ht16 _ _ hisu hG
 have hoJ22 := M.old
 refine wl_as M rfl rfl <| wl_nil ?_
 refine wc_seq <| wc_region <| wl_as M rfl rfl ?_
 replace M := M.nilRow ETCfg
 refine wl_nil ?_
 refine wc_seq ?_
 refine wc_seq <| wc_region <| wl_m M (q_fa fo_25_2 rfl) rfl rfl <| wl_m M (q_ldb 1 Try.underlying22 rfl rfl rfl rfl) rfl rfl <| wl_m M (q_lenR (Rf20.mono hJ22) Try.underlying22 rfl) rfl rfl <| wl_mv M rfl rfl <| wl_nil <| wc_block ?_
 refine wc_loop (α := Nat × SV × (List TCfg)) [7, 9, 26, 27, 28, 29, 30, 31, 32, 33, 34, 35, 36, 37] (fun ((k0, u_7_0, l_7_0) : Nat × SV × (List TCfg)) => [(26, .int .i64 (k0 : Int)), (7, sv u_7_0)])
   (fun ((k0, u_7_0, l_7_0) : Nat × SV × (List TCfg)) w' => (k0 ≤ (tgt (tgt (usF t bs) costA l1) readA l2).finals.length) ∧ (l_7_0 = ((tgt (tgt (usF t bs) costA l1) readA l2).finals.take k0).map fun f => (⟨f, xs.length⟩ : TCfg)) ∧ Mem w I J22 (row ETCfg (sv u_7_0) l_7_0 :: box b5 25 [.int .i64 ((tgt (tgt (usF t bs) costA l1) readA l2).states), .int .i64 ((tgt (tgt (usF t bs) costA l1) readA l2).start), sv fu20, sv au20] :: box b1 25 [.int .i64 t.states, .int .i64 t.start, sv fu1, sv au1] :: []) w')
   (fun ((k0, u_7_0, l_7_0) : Nat × SV × (List TCfg)) => (tgt (tgt (usF t bs) costA l1) readA l2).finals.length - k0) (0, nilV, []) ⟨rfl, rfl, trivial⟩ ?_ ?_
 ·refine ⟨Nat.zero_le _, rfl, ?_⟩
  exact M
 rintro ⟨k0, u_7_0, l_7_0⟩ jj0 w9 ⟨hk0, hes, M⟩
 have hoJ22 := M.old
 refine wc_seq <| wc_region <| wl_m M (q_lss rfl rfl) rfl rfl <| wl_nil ?_
 refine wc_seq ?_
 refine wc_dec rfl (fun ht27 => ?_) (fun ht27 => ?_)
 ·obtain ⟨x0, hx0⟩ : ∃ x_, ((tgt (tgt (usF t bs) costA l1) readA l2).finals)[k0]? = some x_ := ⟨_, List.getElem?_eq_getElem (by omega)⟩
  have hll0 := ((Rf20.mono hJ22)).len_le
  have hll0 := (Rf20 : rdSl EInt _ _ _).len_le
  refine wc_skip ?_
  refine wc_seq <| wc_block ?_
  refine wc_seq <| wc_region ?_
  refine wl_ix (j := k0) M (Rf20.mono hJ22) Try.underlying22 rfl rfl hx0 rfl (fun b28 o28 p28 => ?_)
  refine wl_m M (q_ldp p28 rfl rfl) rfl rfl <| wl_as M rfl rfl <| wl_nil <| wc_region <| wl_mv M rfl rfl <| wl_mv M rfl rfl <| wl_mv M rfl rfl <| wl_m M (q_lenR R22 Try.underlying40 rfl) rfl rfl <| wl_m M (q_build (bd_58_0_1 _ _) ⟨⟨rfl, rfl⟩, ⟨rfl, rfl⟩, trivial⟩) rfl rfl <| wl_e (e_bsI (E := ETCfg) (xs := [(TCfg.mk x0 (xs.length : Int))]) M (bs_56_1 _ _) ⟨⟨rfl, rfl⟩, trivial⟩ rfl rfl (by decide)) rfl rfl ?_
  rintro _ w10 ⟨u35, J35, rfl, hJ35, R35, M⟩
  have hoJ35 := M.old
  refine wl_e (e_app 0 M rfl R35 Try.underlying56 rfl rfl (by rw [hes, List.length_map, List.length_take]; show (_ + 1) * 16 ≤ _; omega)) rfl rfl ?_
  rintro _ w11 ⟨u36, rfl, M⟩
  replace M := M.less hJ35 hoJ22
  try simp only [sC0, sCS] at M
  refine wl_as M rfl rfl <| wl_nil <| wc_region <| wl_m M (q_add rfl rfl (IntWalk.i64_in _ (by omega))) rfl rfl ?_
  refine wl_mv M rfl rfl <| wl_nil ?_
  refine ⟨(k0 + 1, u36, l_7_0 ++ [(TCfg.mk x0 (xs.length : Int))]), ?_, ⟨(by omega), (by rw [take_snoc hx0, List.map_append, hes]; rfl), M⟩, ⟨rfl, rfl, trivial⟩, unw_look rfl unw_base⟩
  show (tgt (tgt (usF t bs) costA l1) readA l2).finals.length - (k0 + 1) < (tgt (tgt (usF t bs) costA l1) readA l2).finals.length - k0
  omega
 have hke0 : k0 = (tgt (tgt (usF t bs) costA l1) readA l2).finals.length := by omega
 refine wc_exit rfl ?_
 refine wc_seq ?_
 rw [hke0, List.take_length] at hes
 obtain ⟨I8, M, hI8, Re⟩ := M.frzRow 0 rfl
 have hoI8 := M.old
 rw [hes] at Re
 refine wc_region <| wl_m M (q_ldbA 0 Try.underlying25 rfl sz25 rfl rfl rfl rfl) rfl rfl <| wl_mv M rfl rfl <| wl_e (e_callC M (moves_c (tgt (tgt (usF t bs) costA l1) readA l2) ha3 (by omega) M.imm ⟨_, _, rfl, ((Rf20.mono hJ22).mono hI8), ((Ra20.mono hJ22).mono hI8)⟩ (R22.mono hI8)) Try.func38 rfl rfl) rfl rfl ?_
 rintro v40 w12 ⟨J40, hJ40, ⟨K, R40, hK, hKlen⟩, M⟩
 obtain ⟨u40, rfl⟩ := rdSl_slice R40
 have hmv : (K.flatMap (tcE (tgt (tgt (usF t bs) costA l1) readA l2) xs)).length ≤ 1048576 := by
   have h1 := flat_len (tcE_len (tgt (tgt (usF t bs) costA l1) readA l2) xs) K
   have h2 := Nat.mul_le_mul (Nat.le_refl m) (show xs.length + 1 ≤ 2 * m + 1 by omega)
   have h3 := Nat.mul_le_mul (Nat.le_trans hKlen h2) hal3
   have h4 := hbig hv
   rw [ha.st, Int.toNat_natCast] at h4
   omega
 have hoJ40 := M.old
 refine wl_as M rfl rfl <| wl_nil ?_
 refine wc_seq <| wc_region <| wl_e (e_mkm QTCfg sv M) rfl rfl ?_
 rintro _ w13 ⟨b41, rfl, M⟩
 replace M := M.toGm 0 EMove rfl
 try simp only [sC0, sCS] at M
 refine wl_mv M rfl rfl <| wl_mv M rfl rfl <| wl_e (e_callC M (distances_c (es := (endsT (tgt (tgt (usF t bs) costA l1) readA l2) xs)) hmv (by rw [endsT, List.length_map]; omega) M.imm R40 (Re.mono hJ40)) Try.func39 rfl rfl) rfl rfl ?_
 rintro v44 w14 ⟨J44, hJ44, ⟨dist, Rd, hds, hdl⟩, M⟩
 have hdk := dist_ok hK hds
 have hel : (endsT (tgt (tgt (usF t bs) costA l1) readA l2) xs).length ≤ 4096 := by rw [endsT, List.length_map]; exact hfl3
 have hdl2 : dist.length ≤ 2097152 := by omega
 obtain ⟨bd, rfl, hbd⟩ := Rd
 have Rd : rdMp QTCfg (Value.int .i64) J44 (.map (some bd)) dist := ⟨bd, rfl, hbd⟩
 have hoJ44 := M.old
 refine wl_m M (q_build (bd_66_0_1_2 _ _ _) ⟨⟨rfl, rfl⟩, ⟨rfl, rfl⟩, ⟨rfl, rfl⟩, trivial⟩) rfl rfl <| wl_e (e_box M rfl) rfl rfl ?_
 rintro _ w15 ⟨b46, rfl, M⟩
 refine wl_as M rfl rfl <| wl_nil ?_
 refine wc_seq ?_
 refine wc_seq <| wc_region <| wl_mv M rfl rfl <| wl_m M (q_lenR (R40.mono hJ44) Try.underlying59 rfl) rfl rfl <| wl_mv M rfl rfl <| wl_nil <| wc_block ?_
 refine wc_loop (α := Nat × (List SV) × (List (TCfg × List Move))) [13, 49, 50, 51, 52, 53, 54, 55, 56, 57, 58, 59, 60, 61, 62, 63, 64, 65] (fun ((k2, us_41_2, g_41_2) : Nat × (List SV) × (List (TCfg × List Move))) => [(49, .int .i64 (k2 : Int))])
   (fun ((k2, us_41_2, g_41_2) : Nat × (List SV) × (List (TCfg × List Move))) w' => (k2 ≤ (K.flatMap (tcE (tgt (tgt (usF t bs) costA l1) readA l2) xs)).length) ∧ (g_41_2 = grp (fun e : Move => e.src) (fun e : Move => e) ((K.flatMap (tcE (tgt (tgt (usF t bs) costA l1) readA l2) xs)).take k2)) ∧ Mem w I J44 (box b46 66 [.map (some b41), (.map (some bd)), .int .i64 1024] :: gmap QTCfg EMove b41 us_41_2 us_41_2 g_41_2 :: box b5 25 [.int .i64 ((tgt (tgt (usF t bs) costA l1) readA l2).states), .int .i64 ((tgt (tgt (usF t bs) costA l1) readA l2).start), sv fu20, sv au20] :: box b1 25 [.int .i64 t.states, .int .i64 t.start, sv fu1, sv au1] :: []) w')
   (fun ((k2, us_41_2, g_41_2) : Nat × (List SV) × (List (TCfg × List Move))) => (K.flatMap (tcE (tgt (tgt (usF t bs) costA l1) readA l2) xs)).length - k2) (0, [], []) ⟨rfl, trivial⟩ ?_ ?_
 ·refine ⟨Nat.zero_le _, rfl, ?_⟩
  exact M
 rintro ⟨k2, us_41_2, g_41_2⟩ jj2 w16 ⟨hk2, hg, M⟩
 have hoJ44 := M.old
 refine wc_seq <| wc_region <| wl_m M (q_lss rfl rfl) rfl rfl <| wl_nil ?_
 refine wc_seq ?_
 refine wc_dec rfl (fun ht50 => ?_) (fun ht50 => ?_)
 ·obtain ⟨x2, hx2⟩ : ∃ x_, (K.flatMap (tcE (tgt (tgt (usF t bs) costA l1) readA l2) xs))[k2]? = some x_ := ⟨_, List.getElem?_eq_getElem (by omega)⟩
  have hll2 := ((R40.mono hJ44)).len_le
  refine wc_skip ?_
  refine wc_seq <| wc_block ?_
  refine wc_seq <| wc_region ?_
  refine wl_ix (j := k2) M (R40.mono hJ44) Try.underlying59 rfl rfl hx2 rfl (fun b51 o51 p51 => ?_)
  refine wl_m M (q_ldp p51 rfl rfl) rfl rfl <| wl_e (e_alloc M z68) rfl rfl ?_
  rintro _ w17 ⟨b13, rfl, M⟩
  refine wl_e0 (e_stW 0 M rfl rfl rfl sz68 rfl rfl) rfl ?_
  intro _ w18 M
  try simp only [sC0, sCS] at M
  refine wl_nil ?_
  refine wc_draws (fun w' => Mem w I J44 (box b13 68 [.int .i64 x2.src.state, .int .i64 x2.src.pos, .int .i64 x2.dst.state, .int .i64 x2.dst.pos, .int .i32 x2.out] :: box b46 66 [.map (some b41), (.map (some bd)), .int .i64 1024] :: box b5 25 [.int .i64 ((tgt (tgt (usF t bs) costA l1) readA l2).states), .int .i64 ((tgt (tgt (usF t bs) costA l1) readA l2).start), sv fu20, sv au20] :: box b1 25 [.int .i64 t.states, .int .i64 t.start, sv fu1, sv au1] :: []) w' ∧ True) [8] fol ?_
  replace M := M.drew
  have hS := (⟨(M.drop 2), trivial⟩ : _ ∧ _)
  refine wa_q 0 rfl (by kernel_rfl) (q_move rfl) hS rfl rfl ?_
  refine wa_q 1 rfl (by kernel_rfl) (q_nilCheck rfl) hS rfl rfl ?_
  refine wa_q 2 rfl (by kernel_rfl) (q_fa fo_66_0 rfl) hS rfl rfl ?_
  refine wa_q 3 rfl (by kernel_rfl) ((q_ldb 1 Try.underlying62 rfl rfl rfl rfl).mono fun _ h => h.1) hS rfl rfl ?_
  refine wa_q 4 rfl (by kernel_rfl) (q_fa fo_68_0 rfl) hS rfl rfl ?_
  refine wa_q 5 rfl (by kernel_rfl) ((q_ldbA 0 Try.underlying58 rfl sz58 rfl rfl rfl rfl).mono fun _ h => h.1) hS rfl rfl ?_
  refine wa_q 6 rfl (by kernel_rfl) ((q_ldbA 0 Try.underlying68 rfl sz68 rfl rfl rfl rfl).mono fun _ h => h.1) hS rfl rfl ?_
  refine wa_e 7 rfl (by kernel_rfl) (e_bsI (E := EMove) (xs := [x2]) M (bs_59_1 _ _ _ _ _) ⟨⟨rfl, rfl⟩, trivial⟩ rfl rfl (by decide)) rfl rfl ?_
  rintro _ w19 ⟨u61, J61, rfl, hJ61, R61, M⟩
  have hoJ61 := M.old
  have hS := (⟨((M.less hJ61 hoJ44).drop 2), trivial⟩ : _ ∧ _)
  refine ⟨fun _ => hS, ?_⟩
  refine wa_e 8 rfl (by kernel_rfl) (e_gent (k := x2.src) 2 M rfl Try.underlying62 zv59 rfl rfl) rfl rfl ?_
  rintro _ w20 ⟨us62, j62, u62, rfl, hu62, hg62, hs62, M⟩
  try simp only [sC0, sCS] at M
  refine ⟨nofun, ?_⟩
  refine wa_w 9 rfl (by kernel_rfl) (q_ext rfl rfl) nofun rfl rfl ?_
  refine wa_w 11 rfl (by kernel_rfl) (q_ext rfl rfl) nofun rfl rfl ?_
  refine wa_e 10 rfl (by kernel_rfl) (e_gapp 2 j62 M rfl Try.underlying59 hu62 hg62 rfl rfl R61 (by rw [hg]; have := grp_look_len (fun e : Move => e.src) (fun e : Move => e) x2.src ((K.flatMap (tcE (tgt (tgt (usF t bs) costA l1) readA l2) xs)).take k2); rw [List.length_take] at this; show (_ + 1) * 40 ≤ _; omega)) rfl rfl ?_
  rintro _ w21 ⟨u63, rfl, M⟩
  try simp only [sC0, sCS] at M
  refine ⟨nofun, ?_⟩
  replace M := M.less hJ61 hoJ44
  refine wa_e0 12 rfl (by kernel_rfl) (e_gst 2 j62 M rfl (by rw [List.length_set]; exact (List.getElem?_eq_some_iff.1 hg62).1) (List.getElem?_eq_some_iff.1 hu62).1 rfl rfl rfl) rfl ?_
  intro _ w22 M
  rw [hs62] at M
  try simp only [sC0, sCS] at M
  refine ⟨nofun, ?_⟩
  refine wa_done (by kernel_rfl) ?_
  refine wc_region <| wl_m M (q_add rfl rfl (IntWalk.i64_in _ (by omega))) rfl rfl ?_
  refine wl_mv M rfl rfl <| wl_nil ?_
  replace M := M.drop 0
  refine ⟨(k2 + 1, us62.set j62 u63, aput g_41_2 x2.src ((aget g_41_2 x2.src).getD [] ++ [x2])), ?_, ⟨(by omega), (by rw [take_snoc hx2, grp_snoc, hg]), M⟩, ⟨rfl, trivial⟩, unw_look rfl unw_base⟩
  show (K.flatMap (tcE (tgt (tgt (usF t bs) costA l1) readA l2) xs)).length - (k2 + 1) < (K.flatMap (tcE (tgt (tgt (usF t bs) costA l1) readA l2) xs)).length - k2
  omega
 have hke2 : k2 = (K.flatMap (tcE (tgt (tgt (usF t bs) costA l1) readA l2) xs)).length := by omega
 refine wc_exit rfl ?_
 refine wc_seq ?_
 rw [hke2, List.take_length] at hg
 obtain ⟨I9, M, hI9, Rg⟩ := M.frzGm 1 rfl
 have hoI9 := M.old
 rw [hg] at Rg
 obtain ⟨I10, M, hI10, Hs⟩ := M.frzBox 0 rfl
 have hoI10 := M.old
 refine wc_region <| wl_mv M rfl rfl <| wl_m M (q_fa fo_25_1 rfl) rfl rfl <| wl_m M (q_ldb 0 Try.underlying3 rfl rfl rfl rfl) rfl rfl <| wl_m M (q_build (bd_58_0 _) ⟨⟨rfl, rfl⟩, trivial⟩) rfl rfl <| wl_e (e_bsI (E := ETCfg) (xs := [(TCfg.mk ((tgt (tgt (usF t bs) costA l1) readA l2).start) 0)]) M (bs_56_1 _ _) ⟨⟨rfl, rfl⟩, trivial⟩ rfl rfl (by decide)) rfl rfl ?_
 rintro _ w23 ⟨u70, J70, rfl, hJ70, R70, M⟩
 have hoJ70 := M.old
 refine wl_e (e_callC M (closed_c (lim := 1024) (wr := 0) (fr := [(⟨t.start, 0⟩ : TCfg)]) hmv hdl2 (by simp) ⟨by omega, by omega⟩ (by omega) M.imm (hJ70 _ _ Hs) ((Rg.mono hI10).mono hJ70) (((Rd.mono hI9).mono hI10).mono hJ70) R70) Try.func40 rfl rfl) rfl rfl ?_
 rintro _ w24 ⟨J71, hJ71, ⟨K91, R91, hn91, hl91, hK91⟩, M⟩
 obtain ⟨b91, rfl, hb91⟩ := R91
 have R91 : rdMp QTCfg Value.bool J71 (.map (some b91)) (tr K91) := ⟨b91, rfl, hb91⟩
 have hsr0 := sr_zero (nn := 1024) rfl hK hdk hK91
 have hoJ71 := M.old
 refine wl_m M (q_build (bd_72_0_1 _ _) ⟨⟨rfl, rfl⟩, ⟨rfl, rfl⟩, trivial⟩) rfl rfl <| wl_e (e_alloc M z72) rfl rfl ?_
 rintro _ w25 ⟨b14, rfl, M⟩
 refine wl_e0 (e_stW 0 M rfl rfl rfl sz72 rfl rfl) rfl ?_
 intro _ w26 M
 try simp only [sC0, sCS] at M
 refine wl_nil ?_
 refine wc_seq <| wc_block ?_
 refine wc_loop (α := Heap × SV × Nat × (List Int) × (List TCfg)) [73, 74, 75, 76, 77, 78, 79, 80, 81] (fun ((Ic, ut, bt_, tx, cs) : Heap × SV × Nat × (List Int) × (List TCfg)) => [])
   (fun ((Ic, ut, bt_, tx, cs) : Heap × SV × Nat × (List Int) × (List TCfg)) w' => (hle J71 Ic) ∧ (ShtIn (tnet (tgt (tgt (usF t bs) costA l1) readA l2) xs) ⟨t.start, 0⟩ 1024 tx cs) ∧ (rdSl ERune Ic (sv ut) tx) ∧ (rdMp QTCfg Value.bool Ic (.map (some bt_)) (tr cs)) ∧ (cs.length ≤ 2097152) ∧ Mem w I Ic (box b14 72 [sv ut, (.map (some bt_))] :: box b5 25 [.int .i64 ((tgt (tgt (usF t bs) costA l1) readA l2).states), .int .i64 ((tgt (tgt (usF t bs) costA l1) readA l2).start), sv fu20, sv au20] :: box b1 25 [.int .i64 t.states, .int .i64 t.start, sv fu1, sv au1] :: []) w')
   (fun ((Ic, ut, bt_, tx, cs) : Heap × SV × Nat × (List Int) × (List TCfg)) => 1025 - tx.length) (J71, nilV, b91, [], K91) trivial ?_ ?_
 ·refine ⟨hle.refl _, (ShtIn.zero hsr0 hone), (rdSl_nil _), R91, (by omega), ?_⟩
  exact M
 rintro ⟨Ic, ut, bt_, tx, cs⟩ jj4 w27 ⟨hIc, hSh, Rt, Rs, hcl, M⟩
 have hoIc := M.old
 refine wc_seq ?_
 refine wc_seq <| wc_region <| wl_mv M rfl rfl <| wl_m M (q_makeFunc (vs := [.pointer (some ⟨b14, 0, none⟩)]) rfl) rfl rfl ?_
 obtain ⟨I13, M, hI13, Hq, hq0⟩ := M.frzBoxT 0 rfl
 have hoI13 := M.old
 refine wl_e (e_callC M (containsG_c M.imm ((((((((Re.mono hJ40).mono hJ44).mono hI9).mono hI10).mono hJ70).mono hJ71).mono hIc).mono hI13) Hq (Rs.mono hI13)) Try.func41 rfl rfl) rfl rfl ?_
 rintro _ w28 ⟨J75, hJ75, rfl, M⟩
 replace M := M.less hJ75 hoI13
 replace M := M.thaw hI13 hoIc Hq hq0
 refine wl_m M (q_not rfl) rfl rfl <| wl_nil ?_
 refine wc_cond rfl (fun ht76 => ?_) (fun ht76 => ?_)
 ·have hacc : accP (tnet (tgt (tgt (usF t bs) costA l1) readA l2) xs) (tx, cs) = false := by rw [← acc_ends]; exact Eq.mp (Bool.not_eq_true' _) ht76
  refine wc_skip <| wc_block <| wc_region <| wl_mv M rfl rfl <| wl_m M (q_ldbA 0 Try.underlying72 rfl sz72 rfl rfl rfl rfl) rfl rfl <| wl_e (e_callC M (longer_c (txt := tx) (cs := cs) hmv hdl2 ⟨by omega, by omega⟩ (by have := hSh.len; omega) hcl (alph_mv (t := (tgt (tgt (usF t bs) costA l1) readA l2)) fun ks h1 h2 => hal hv ks h1 fun r hr => ⟨(h2 r hr).1, (h2 r hr).2.imp fun z hz => ⟨(List.mem_filter.1 (List.mem_filter.1 (List.mem_filter.1 hz.1).1).1).1, hz.2⟩⟩) M.imm (hIc _ _ (hJ71 _ _ (hJ70 _ _ Hs))) ((((Rg.mono hI10).mono hJ70).mono hJ71).mono hIc) (((((Rd.mono hI9).mono hI10).mono hJ70).mono hJ71).mono hIc) Rt Rs) Try.func43 rfl rfl) rfl rfl ?_
  rintro _ w29 ⟨J79, hJ79, ⟨rs, ys, fr, Kf, hL, ⟨hKl, hyl⟩, R79, P79⟩, M⟩
  obtain ⟨u79, rfl⟩ := rdSl_slice R79
  obtain ⟨q, rest, hqs, hS2, r2, hq1⟩ := hSh.step hone hacc ((nx_out (t := (tgt (tgt (usF t bs) costA l1) readA l2)) (q := (tx, cs)) (nn := 1024) rfl hK hdk hL).2 hSh.set)
  have hqm : q ∈ qsL tx ys Kf := by rw [hqs]; exact List.mem_cons_self ..
  have hqc : q.2.length ≤ 2097152 := by
    obtain ⟨r, hr, rfl⟩ := List.mem_map.1 hqm
    have := hKl r (List.mem_filter.1 hr).1
    show (Kf r).length ≤ _
    omega
  have hql2 : q.1.length = tx.length + 1 := by rw [hq1, List.length_append, List.length_singleton]
  have hS2l := hS2.len
  rw [hqs] at P79
  obtain ⟨r0, rs0, rfl⟩ : ∃ r0 rs0, rs = r0 :: rs0 := by
    cases rs with
    | nil => exact False.elim P79
    | cons a l => exact ⟨a, l, rfl⟩
  obtain ⟨Rt9, Rs9⟩ := P79.1
  have hoJ79 := M.old
  refine wl_ix (j := 0) M R79 Try.underlying75 rfl rfl rfl rfl (fun b80 o80 p80 => ?_)
  refine wl_m M (q_ldp p80 rfl rfl) rfl rfl ?_
  refine wl_e0 (e_stW 0 M rfl rfl rfl sz72 rfl rfl) rfl ?_
  intro _ w30 M
  try simp only [sC0, sCS] at M
  refine wl_nil ?_
  refine ⟨(J79, r0.text, r0.set, q.1, q.2), ?_, ⟨(hle.trans hIc hJ79), hS2, Rt9, Rs9, hqc, M⟩, trivial, unw_look rfl unw_base⟩
  show 1025 - q.1.length < 1025 - tx.length
  omega
 refine wc_exit rfl ?_
 refine wc_seq ?_
 refine wc_draws (fun w' => Mem w I Ic (box b14 72 [sv ut, (.map (some bt_))] :: box b5 25 [.int .i64 ((tgt (tgt (usF t bs) costA l1) readA l2).states), .int .i64 ((tgt (tgt (usF t bs) costA l1) readA l2).start), sv fu20, sv au20] :: box b1 25 [.int .i64 t.states, .int .i64 t.start, sv fu1, sv au1] :: []) w' ∧ True) [] fol ?_
 replace M := M.drew
 have hS := (⟨M, trivial⟩ : _ ∧ _)
 refine wa_q 0 rfl (by kernel_rfl) (q_move rfl) hS rfl rfl ?_
 refine wa_q 2 rfl (by kernel_rfl) (q_fa fo_72_0 rfl) hS rfl rfl ?_
 refine wa_q 3 rfl (by kernel_rfl) ((q_ldb 0 Try.underlying40 rfl rfl rfl rfl).mono fun _ h => h.1) hS rfl rfl ?_
 refine wa_q 1 rfl (by kernel_rfl) ((q_cvS (E := ERune) (fun _ => rfl) rfl (fun _ M => ((((((((R22.mono hI8).mono hJ40).mono hJ44).mono hI9).mono hI10).mono hJ70).mono hJ71).mono hIc).mono M.imm) Try.underlying40 Try.underlying21 Try.underlying9 rfl).mono fun _ h => h.1) hS rfl rfl ?_
 refine wa_q 5 rfl (by kernel_rfl) (q_assign rfl) hS rfl rfl ?_
 refine wa_q 4 rfl (by kernel_rfl) ((q_cvS (E := ERune) (fun _ => rfl) rfl (fun _ M => Rt.mono M.imm) Try.underlying40 Try.underlying21 Try.underlying9 rfl).mono fun _ h => h.1) hS rfl rfl ?_
 refine wa_q 6 rfl (by kernel_rfl) (q_assign rfl) hS rfl rfl ?_
 refine wa_q 7 rfl (by kernel_rfl) (q_assign rfl) hS rfl rfl ?_
 refine wa_done (by kernel_rfl) ?_
 refine wc_ret ?_
 exact out3 rfl rfl rfl rfl ⟨_, _, rfl, M.grow, _, _, _, rfl, fun h => (by rw [h] at ht16; cases ht16), fun _ => ⟨rfl, _, xs, tx, hisu, hG, hSh.fin hone (by rw [← acc_ends]; exact Eq.mp (Bool.not_eq_false' _) ht76), rfl, rfl⟩⟩
end Go.Proofs.Ytfepjcmjkaolgaa.G
