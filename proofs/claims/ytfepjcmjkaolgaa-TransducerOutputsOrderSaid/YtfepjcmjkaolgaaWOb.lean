/- Walks of the program's functions. -/
import Derived.Test.YtfepjcmjkaolgaaGMov
import Derived.Test.YtfepjcmjkaolgaaGTrm
set_option linter.all false
namespace Go.Proofs.Ytfepjcmjkaolgaa.G
open Go Go.RowKit
theorem cloneT_c {w0 w : World} {I0 I : Heap} {Lt : List Res} {u : SV} {xs : List TCfg} (hxs : xs.length ≤ 4398046511104) (M : Mem w0 I0 I Lt w) (R0 : rdSl ETCfg I (sv u) xs) :
    Calls A 64 #[sv u] w (fun e w' => ∃ u' : SV, e = .returned (sv u') ∧ Mem w0 I0 I (row ETCfg (sv u') xs :: Lt) w') := by
 have hoI := M.old
 refine enter Try.func64 rfl 8 Try.ntmps64 [_] rfl ?_
 refine wc_seq <| wc_region <| wl_as M rfl rfl <| wl_nil ?_
 refine wc_seq ?_
 refine wc_seq <| wc_region <| wl_mv M rfl rfl <| wl_m M (q_eqlN Try.underlying56 rfl rfl) rfl rfl <| wl_nil ?_
 refine wc_cond rfl (fun ht4 => ?_) (fun ht4 => ?_)
 ·refine wc_seq <| wc_region <| wl_as M rfl rfl <| wl_nil <| wc_ret ?_
  obtain rfl := rd_none R0 ht4
  exact out1 rfl rfl ⟨nilV, rfl, M.nilRow ETCfg⟩
 refine wc_skip ?_
 refine wc_seq <| wc_region <| wl_e (e_bsR (E := ETCfg) (xs := []) M (bs_56_0) trivial rfl rfl (by decide)) rfl rfl ?_
 rintro _ w1 ⟨u5, rfl, M⟩
 refine wl_mv M rfl rfl <| wl_e (e_app 0 M rfl R0 Try.underlying56 rfl rfl (by show (_ + _) * 16 ≤ _; simp only [List.length_nil]; omega)) rfl rfl ?_
 rintro _ w2 ⟨u7, rfl, M⟩
 simp only [sC0, sCS] at M
 refine wl_as M rfl rfl <| wl_nil <| wc_ret ?_
 exact out1 rfl rfl ⟨_, rfl, M⟩
set_option maxRecDepth 4000 in
set_option maxHeartbeats 1000000 in
theorem distances_c {mv : List Move} {es : List TCfg} (hmv : mv.length ≤ 1048576) (hes : es.length ≤ 4096) {u1 u2 : SV} {I : Heap} {w : World} (hI : hle I (hp w)) (R1 : rdSl EMove I (sv u1) mv) (R2 : rdSl ETCfg I (sv u2) es) :
    Calls A 39 #[sv u1, sv u2] w (Ret w I fun r I' => ∃ dist : List (TCfg × Int), rdMp QTCfg (Value.int .i64) I' r dist ∧ (∀ c k, okD dist c k = true ↔ ∃ m : Nat, Far (preM mv) es c m ∧ (m : Int) ≤ k) ∧ dist.length ≤ es.length + mv.length) := by
 have hUl : (es ++ mv.map (·.src)).length = es.length + mv.length := by simp
 have hUm : ∀ c k, Far (preM mv) es c k → c ∈ (es ++ mv.map (·.src)) := fun c k h => far_in h
 have M := Mem.start hI
 refine enter Try.func39 rfl 84 Try.ntmps39 [_, _] rfl ?_
 refine wc_seq <| wc_region <| wl_as M rfl rfl <| wl_nil ?_
 refine wc_seq <| wc_region <| wl_e (e_mkm QTCfg sv M) rfl rfl ?_
 rintro _ w1 ⟨b17, rfl, M⟩
 replace M := M.toGm 0 EMove rfl
 simp only [sC0, sCS] at M
 refine wl_as M rfl rfl <| wl_nil ?_
 refine wc_seq ?_
 refine wc_seq <| wc_region <| wl_mv M rfl rfl <| wl_m M (q_lenR R1 Try.underlying59 rfl) rfl rfl <| wl_mv M rfl rfl <| wl_nil <| wc_block ?_
 refine wc_loop (α := Nat × (List SV) × (List (TCfg × List Move))) [7, 20, 21, 22, 23, 24, 25, 26, 27, 28, 29, 30, 31, 32, 33] (fun ((k0, us_17_0, g_17_0) : Nat × (List SV) × (List (TCfg × List Move))) => [(20, .int .i64 (k0 : Int))])
   (fun ((k0, us_17_0, g_17_0) : Nat × (List SV) × (List (TCfg × List Move))) w' => (k0 ≤ mv.length) ∧ (g_17_0 = grp (fun e : Move => e.dst) (fun e : Move => e) (mv.take k0)) ∧ Mem w I I (gmap QTCfg EMove b17 us_17_0 us_17_0 g_17_0 :: []) w')
   (fun ((k0, us_17_0, g_17_0) : Nat × (List SV) × (List (TCfg × List Move))) => mv.length - k0) (0, [], []) ⟨rfl, trivial⟩ ?_ ?_
 ·refine ⟨Nat.zero_le _, rfl, ?_⟩
  exact M
 rintro ⟨k0, us_17_0, g_17_0⟩ jj0 w2 ⟨hk0, hg, M⟩
 refine wc_seq <| wc_region <| wl_m M (q_lss rfl rfl) rfl rfl <| wl_nil ?_
 refine wc_seq ?_
 refine wc_dec rfl (fun ht21 => ?_) (fun ht21 => ?_)
 ·obtain ⟨x0, hx0⟩ : ∃ x_, mv[k0]? = some x_ := ⟨_, List.getElem?_eq_getElem (by omega)⟩
  have hll0 := (R1).len_le
  refine wc_skip ?_
  refine wc_seq <| wc_block ?_
  refine wc_seq <| wc_region ?_
  refine wl_ix (j := k0) M R1 Try.underlying59 rfl rfl hx0 rfl (fun b22 o22 p22 => ?_)
  refine wl_m M (q_ldp p22 rfl rfl) rfl rfl <| wl_e (e_alloc M z68) rfl rfl ?_
  rintro _ w3 ⟨b7, rfl, M⟩
  refine wl_e0 (e_stW 0 M rfl rfl rfl sz68 rfl rfl) rfl ?_
  intro _ w4 M
  simp only [sC0, sCS] at M
  refine wl_nil <| wc_region <| wl_mv M rfl rfl <| wl_m M (q_fa fo_68_1 rfl) rfl rfl <| wl_m M (q_ldbA 0 Try.underlying58 rfl sz58 rfl rfl rfl rfl) rfl rfl <| wl_m M (q_ldbA 0 Try.underlying68 rfl sz68 rfl rfl rfl rfl) rfl rfl <| wl_e (e_bsI (E := EMove) (xs := [x0]) M (bs_59_1 _ _ _ _ _) ⟨⟨rfl, rfl⟩, trivial⟩ rfl rfl (by decide)) rfl rfl ?_
  rintro _ w5 ⟨u29, J29, rfl, hJ29, R29, M⟩
  have hoJ29 := M.old
  refine wl_e (e_gent (k := x0.dst) 1 M rfl Try.underlying62 zv59 rfl rfl) rfl rfl ?_
  rintro _ w6 ⟨us30, j30, u30, rfl, hu30, hg30, hs30, M⟩
  simp only [sC0, sCS] at M
  refine wl_m M (q_ext rfl rfl) rfl rfl <| wl_e (e_gapp 1 j30 M rfl Try.underlying59 hu30 hg30 rfl rfl R29 (by rw [hg]; have := grp_look_len (fun e : Move => e.dst) (fun e : Move => e) x0.dst (mv.take k0); rw [List.length_take] at this; show (_ + 1) * 40 ≤ _; omega)) rfl rfl ?_
  rintro _ w7 ⟨u31, rfl, M⟩
  replace M := M.less hJ29 (fun _ _ => rfl)
  simp only [sC0, sCS] at M
  refine wl_m M (q_ext rfl rfl) rfl rfl ?_
  refine wl_e0 (e_gst 1 j30 M rfl (by rw [List.length_set]; exact (List.getElem?_eq_some_iff.1 hg30).1) (List.getElem?_eq_some_iff.1 hu30).1 rfl rfl rfl) rfl ?_
  intro _ w8 M
  rw [hs30] at M
  simp only [sC0, sCS] at M
  refine wl_nil <| wc_region <| wl_m M (q_add rfl rfl (IntWalk.i64_in _ (by omega))) rfl rfl ?_
  refine wl_mv M rfl rfl <| wl_nil ?_
  replace M := M.drop 0
  refine ⟨(k0 + 1, us30.set j30 u31, aput g_17_0 x0.dst ((aget g_17_0 x0.dst).getD [] ++ [x0])), ?_, ⟨(by omega), (by rw [take_snoc hx0, grp_snoc, hg]), M⟩, ⟨rfl, trivial⟩, unw_look rfl unw_base⟩
  show mv.length - (k0 + 1) < mv.length - k0
  omega
 have hke0 : k0 = mv.length := by omega
 refine wc_exit rfl ?_
 refine wc_seq ?_
 rw [hke0, List.take_length] at hg
 obtain ⟨I9, M, hI9, Rb⟩ := M.frzGm 0 rfl
 have hoI9 := M.old
 rw [hg] at Rb
 refine wc_region <| wl_e (e_mkm QTCfg (Value.int .i64) M) rfl rfl ?_
 rintro _ w9 ⟨b34, rfl, M⟩
 refine wl_as M rfl rfl <| wl_nil ?_
 refine wc_seq ?_
 refine wc_seq <| wc_region <| wl_mv M rfl rfl <| wl_e (e_callO (val := sv) Try.func64 rfl (vs := [sv u2]) rfl (cloneT_c (by omega) M (R2.mono hI9))) rfl rfl ?_
 rintro _ w10 ⟨u36, rfl, M⟩
 refine wl_as M rfl rfl <| wl_as M rfl rfl <| wl_nil <| wc_block ?_
 refine wc_loop (α := Nat × SV × (List TCfg) × (List (TCfg × Int))) [9, 10, 11, 12, 13, 14, 16, 37, 38, 39, 40, 41, 42, 43, 44, 45, 46, 47, 48, 49, 50, 51, 52, 53, 54, 55, 56, 57, 58, 59, 60, 61, 62, 63, 64, 65, 66, 67, 68, 69, 70, 71, 72, 73, 74, 75, 76, 77, 78, 79, 80, 81, 82] (fun ((d, u_36_2, l_36_2, m_34_2) : Nat × SV × (List TCfg) × (List (TCfg × Int))) => [(9, .int .i64 (d : Int)), (10, sv u_36_2)])
   (fun ((d, u_36_2, l_36_2, m_34_2) : Nat × SV × (List TCfg) × (List (TCfg × Int))) w' => (Ds (preM mv) es d m_34_2 l_36_2 [] gT) ∧ (l_36_2.length ≤ es.length + m_34_2.length * mv.length) ∧ (d ≤ m_34_2.length + 1 ∧ (l_36_2 ≠ [] → d ≤ m_34_2.length)) ∧ Mem w I I9 (row ETCfg (sv u_36_2) l_36_2 :: mpr QTCfg (Value.int .i64) b34 m_34_2 :: []) w')
   (fun ((d, u_36_2, l_36_2, m_34_2) : Nat × SV × (List TCfg) × (List (TCfg × Int))) => 2 * ((es ++ mv.map (·.src)).length - m_34_2.length) + (if l_36_2 = [] then 0 else 1)) (0, u36, es, []) ⟨rfl, rfl, trivial⟩ ?_ ?_
 ·refine ⟨Ds.init, (by simp), (by simp), ?_⟩
  exact M
 rintro ⟨d, u_36_2, l_36_2, m_34_2⟩ jj2 w11 ⟨hD, hbd, hDn, M⟩
 have hoI9 := M.old
 refine wc_seq ?_
 refine wc_seq <| wc_region <| wl_mv M rfl rfl <| wl_m M (q_lenr 0 M rfl Try.underlying56 rfl) rfl rfl <| wl_m M (q_gtr rfl rfl) rfl rfl <| wl_nil ?_
 refine wc_dec rfl (fun ht39 => ?_) (fun ht39 => ?_)
 ·refine wc_skip ?_
  refine wc_seq <| wc_block ?_
  refine wc_seq <| wc_region <| wl_as M rfl rfl ?_
  replace M := M.nilRow ETCfg
  refine wl_nil ?_
  refine wc_seq <| wc_block ?_
  refine wc_loop (α := SV × (List TCfg) × SV × (List TCfg) × (List (TCfg × Int))) [10, 11, 12, 13, 14, 16, 42, 43, 44, 45, 46, 47, 48, 49, 50, 51, 52, 53, 54, 55, 56, 57, 58, 59, 60, 61, 62, 63, 64, 65, 66, 67, 68, 69, 70, 71, 72, 73, 74, 75, 76, 77, 78, 79, 80, 81] (fun ((u_11_4, l_11_4, u_36_4, l_36_4, m_34_4) : SV × (List TCfg) × SV × (List TCfg) × (List (TCfg × Int))) => [(10, sv u_36_4), (11, sv u_11_4)])
    (fun ((u_11_4, l_11_4, u_36_4, l_36_4, m_34_4) : SV × (List TCfg) × SV × (List TCfg) × (List (TCfg × Int))) w' => (Ds (preM mv) es d m_34_4 l_36_4 l_11_4 gT) ∧ (l_36_4.length + l_11_4.length ≤ es.length + m_34_4.length * mv.length) ∧ (m_34_2.length ≤ m_34_4.length ∧ (l_11_4 = [] ∨ m_34_2.length < m_34_4.length)) ∧ Mem w I I9 (row ETCfg (sv u_11_4) l_11_4 :: row ETCfg (sv u_36_4) l_36_4 :: mpr QTCfg (Value.int .i64) b34 m_34_4 :: []) w')
    (fun ((u_11_4, l_11_4, u_36_4, l_36_4, m_34_4) : SV × (List TCfg) × SV × (List TCfg) × (List (TCfg × Int))) => ((es ++ mv.map (·.src)).length - m_34_4.length) * (mv.length + 1) + l_36_4.length) (nilV, [], u_36_2, l_36_2, m_34_2) ⟨rfl, rfl, trivial⟩ ?_ ?_
  ·refine ⟨hD, (by simpa using hbd), ⟨Nat.le_refl _, .inl rfl⟩, ?_⟩
   exact M
  rintro ⟨u_11_4, l_11_4, u_36_4, l_36_4, m_34_4⟩ jj4 w12 ⟨hD4, hbd4, hgr4, M⟩
  have hoI9 := M.old
  refine wc_seq ?_
  refine wc_seq <| wc_region <| wl_mv M rfl rfl <| wl_m M (q_lenr 1 M rfl Try.underlying56 rfl) rfl rfl <| wl_m M (q_gtr rfl rfl) rfl rfl <| wl_nil ?_
  refine wc_dec rfl (fun ht44 => ?_) (fun ht44 => ?_)
  ·obtain ⟨x, qs, hq⟩ : ∃ (x : TCfg) (qs : List TCfg), l_36_4 = x :: qs := by
     cases l_36_4 with
     | nil => simp at ht44
     | cons x qs => exact ⟨x, qs, rfl⟩
   have hlq := congrArg List.length hq
   rw [List.length_cons] at hlq
   refine wc_skip ?_
   refine wc_seq <| wc_block ?_
   refine wc_seq <| wc_region <| wl_mv M rfl rfl ?_
   refine wl_ixr (j := 0) 1 M rfl Try.underlying56 rfl rfl (by rw [hq]; rfl) rfl (fun b48 o48 p48 => ?_)
   refine wl_m M (q_ldp p48 rfl rfl) rfl rfl <| wl_e (e_alloc M z58) rfl rfl ?_
   rintro _ w13 ⟨b12, rfl, M⟩
   refine wl_e0 (e_stW 0 M rfl rfl rfl sz58 rfl rfl) rfl ?_
   intro _ w14 M
   simp only [sC0, sCS] at M
   refine wl_nil ?_
   refine wc_seq ?_
   refine wc_seq <| wc_region <| wl_mv M rfl rfl <| wl_m M (q_ldbA 0 Try.underlying58 rfl sz58 rfl rfl rfl rfl) rfl rfl <| wl_m M (q_lk2 (k := x) (z := 0) 3 rfl Try.underlying63 zv3 rfl rfl) rfl rfl <| wl_mv M rfl rfl <| wl_m M (q_ext rfl rfl) rfl rfl <| wl_m M (q_ext rfl rfl) rfl rfl <| wl_as M rfl rfl <| wl_as M rfl rfl <| wl_nil ?_
   refine wc_seq <| wc_region <| wl_mv M rfl rfl <| wl_nil ?_
   refine wc_cond rfl (fun ht56 => ?_) (fun ht56 => ?_)
   ·refine wc_exit rfl <| wc_region <| wl_mv M rfl rfl <| wl_e (e_cut (k := 1) 2 M rfl Try.underlying56 rfl rfl (by omega)) rfl rfl ?_
    rintro _ w15 ⟨u46, rfl, M⟩
    simp only [sC0, sCS] at M
    refine wl_as M rfl rfl <| wl_nil ?_
    replace M := M.drop 0
    refine ⟨(u_11_4, l_11_4, u46, l_36_4.drop 1, m_34_4), ?_, ⟨(by rw [hq, List.drop_one, List.tail_cons]; rw [hq] at hD4; exact hD4.known (aget_of ht56)), (by rw [List.length_drop]; omega), hgr4, M⟩, ⟨rfl, rfl, trivial⟩, unw_look rfl unw_base⟩
    show ((es ++ mv.map (·.src)).length - m_34_4.length) * (mv.length + 1) + (l_36_4.drop 1).length < ((es ++ mv.map (·.src)).length - m_34_4.length) * (mv.length + 1) + l_36_4.length
    rw [hq, List.drop_one, List.tail_cons, List.length_cons]; omega
   have hnew : aget m_34_4 x = none := by simpa using ht56
   have hroom := (by rw [hq] at hD4; exact hD4.room hnew hUm : m_34_4.length + 1 ≤ _)
   have hpl : (aput m_34_4 x (d : Int)).length = m_34_4.length + 1 := aput_nw hnew
   have hgx : aget (aput m_34_4 x (d : Int)) x = some (d : Int) := by rw [aget_aput, if_pos rfl]
   have hfl : (mv.filter fun m_ => m_.dst = x).length ≤ mv.length := List.length_filter_le _ _
   refine wc_skip ?_
   refine wc_seq <| wc_region <| wl_mv M rfl rfl <| wl_m M (q_ldbA 0 Try.underlying58 rfl sz58 rfl rfl rfl rfl) rfl rfl <| wl_mv M rfl rfl ?_
   refine wl_e0 (e_mpu (k := x) (v := (d : Int)) 3 M rfl Try.underlying63 rfl rfl rfl) rfl ?_
   intro _ w16 M
   simp only [sC0, sCS] at M
   refine wl_nil ?_
   refine wc_seq <| wc_region <| wl_mv M rfl rfl <| wl_m M (q_ldbA 0 Try.underlying58 rfl sz58 rfl rfl rfl rfl) rfl rfl ?_
   refine wl_lkg (k := x) M Rb Try.underlying62 zv59 rfl rfl rfl (fun u62 R62 => ?_)
   rw [grp_id] at R62
   replace R62 : rdSl EMove I9 (sv u62) (mv.filter fun m_ => m_.dst = x) := R62
   refine wl_m M (q_lenR R62 Try.underlying59 rfl) rfl rfl <| wl_mv M rfl rfl <| wl_nil <| wc_block ?_
   refine wc_loop (α := Nat × SV × (List TCfg) × SV × (List TCfg)) [10, 11, 16, 64, 65, 66, 67, 68, 69, 70, 71, 72, 73, 74, 75, 76, 77, 78, 79, 80, 81] (fun ((k6, u_11_6, l_11_6, u_36_6, l_36_6) : Nat × SV × (List TCfg) × SV × (List TCfg)) => [(64, .int .i64 (k6 : Int)), (10, sv u_36_6), (11, sv u_11_6)])
     (fun ((k6, u_11_6, l_11_6, u_36_6, l_36_6) : Nat × SV × (List TCfg) × SV × (List TCfg)) w' => (k6 ≤ (mv.filter fun m_ => m_.dst = x).length) ∧ (Ds (preM mv) es d (aput m_34_4 x (d : Int)) l_36_6.tail l_11_6 (gX x (((mv.filter fun m_ => m_.dst = x).take k6).map fun m_ => (m_.src, !decide (m_.out = 0))))) ∧ (l_36_6 = x :: l_36_6.tail) ∧ (l_36_6.length + l_11_6.length ≤ l_36_4.length + l_11_4.length + k6 ∧ l_36_6.length ≤ l_36_4.length + k6) ∧ Mem w I I9 (box b12 58 [.int .i64 x.state, .int .i64 x.pos] :: row ETCfg (sv u_11_6) l_11_6 :: row ETCfg (sv u_36_6) l_36_6 :: mpr QTCfg (Value.int .i64) b34 (aput m_34_4 x (d : Int)) :: []) w')
     (fun ((k6, u_11_6, l_11_6, u_36_6, l_36_6) : Nat × SV × (List TCfg) × SV × (List TCfg)) => (mv.filter fun m_ => m_.dst = x).length - k6) (0, u_11_4, l_11_4, u_36_4, l_36_4) ⟨rfl, rfl, rfl, trivial⟩ ?_ ?_
   ·refine ⟨Nat.zero_le _, (by rw [hq, List.tail_cons]; rw [hq] at hD4; exact hD4.opn hnew), (by rw [hq]; rfl), (by omega), ?_⟩
    exact M
   rintro ⟨k6, u_11_6, l_11_6, u_36_6, l_36_6⟩ jj6 w17 ⟨hk6, hD6, hc6, hl6, M⟩
   have hoI9 := M.old
   refine wc_seq <| wc_region <| wl_m M (q_lss rfl rfl) rfl rfl <| wl_nil ?_
   refine wc_seq ?_
   refine wc_dec rfl (fun ht65 => ?_) (fun ht65 => ?_)
   ·obtain ⟨x6, hx6⟩ : ∃ x_, (mv.filter fun m_ => m_.dst = x)[k6]? = some x_ := ⟨_, List.getElem?_eq_getElem (by omega)⟩
    have hll6 := (R62).len_le
    have hx6m : x6 ∈ mv ∧ x6.dst = x := by have := List.mem_filter.1 (List.mem_of_getElem? hx6); simpa using this
    have hD6L : l_36_6.length + l_11_6.length ≤ es.length + m_34_4.length * mv.length + mv.length ∧ m_34_4.length ≤ es.length + mv.length := ⟨by omega, by rw [← hUl]; omega⟩
    refine wc_skip ?_
    refine wc_seq <| wc_block ?_
    refine wc_seq <| wc_region ?_
    refine wl_ix (j := k6) M R62 Try.underlying59 rfl rfl hx6 rfl (fun b66 o66 p66 => ?_)
    refine wl_m M (q_ldp p66 rfl rfl) rfl rfl <| wl_e (e_alloc M z68) rfl rfl ?_
    rintro _ w18 ⟨b16, rfl, M⟩
    refine wl_e0 (e_stW 0 M rfl rfl rfl sz68 rfl rfl) rfl ?_
    intro _ w19 M
    simp only [sC0, sCS] at M
    refine wl_nil ?_
    refine wc_seq <| wc_region <| wl_m M (q_fa fo_68_2 rfl) rfl rfl <| wl_m M (q_ldb 0 Try.underlying21 rfl rfl rfl rfl) rfl rfl <| wl_m M (q_eql rfl rfl) rfl rfl <| wl_nil ?_
    refine wc_dec rfl (fun ht70 => ?_) (fun ht70 => ?_)
    ·refine wc_region <| wl_mv M rfl rfl <| wl_m M (q_fa fo_68_0 rfl) rfl rfl <| wl_m M (q_ldbA 0 Try.underlying58 rfl sz58 rfl rfl rfl rfl) rfl rfl <| wl_e (e_bsI (E := ETCfg) (xs := [x6.src]) M (bs_56_1 _ _) ⟨⟨rfl, rfl⟩, trivial⟩ rfl rfl (by decide)) rfl rfl ?_
     rintro _ w20 ⟨u74, J74, rfl, hJ74, R74, M⟩
     have hoJ74 := M.old
     refine wl_e (e_app 3 M rfl R74 Try.underlying56 rfl rfl (by have hb1 := far_bd hmv hes hD6L; show (_ + 1) * 16 ≤ _; omega)) rfl rfl ?_
     rintro _ w21 ⟨u75, rfl, M⟩
     replace M := M.less hJ74 hoI9
     simp only [sC0, sCS] at M
     refine wl_as M rfl rfl <| wl_nil <| wc_region <| wl_m M (q_add rfl rfl (IntWalk.i64_in _ (by omega))) rfl rfl ?_
     refine wl_mv M rfl rfl <| wl_nil ?_
     replace M := M.drop 0
     refine ⟨(k6 + 1, u_11_6, l_11_6, u75, l_36_6 ++ [x6.src]), ?_, ⟨(by omega), (by rw [take_snoc hx6, List.map_append, tail_snoc hc6]; have h := hD6.push0 (b := x6.src) hgx (mem_preM.2 ⟨x6, hx6m.1, hx6m.2, rfl, by simp [ht70]⟩); simpa [ht70] using h), (snocT hc6), (by simp only [List.length_append, List.length_singleton]; omega), M⟩, ⟨rfl, rfl, rfl, trivial⟩, unw_look rfl unw_base⟩
     show (mv.filter fun m_ => m_.dst = x).length - (k6 + 1) < (mv.filter fun m_ => m_.dst = x).length - k6
     omega
    refine wc_region <| wl_mv M rfl rfl <| wl_m M (q_fa fo_68_0 rfl) rfl rfl <| wl_m M (q_ldbA 0 Try.underlying58 rfl sz58 rfl rfl rfl rfl) rfl rfl <| wl_e (e_bsI (E := ETCfg) (xs := [x6.src]) M (bs_56_1 _ _) ⟨⟨rfl, rfl⟩, trivial⟩ rfl rfl (by decide)) rfl rfl ?_
    rintro _ w22 ⟨u79, J79, rfl, hJ79, R79, M⟩
    have hoJ79 := M.old
    refine wl_e (e_app 2 M rfl R79 Try.underlying56 rfl rfl (by have hb1 := far_bd hmv hes hD6L; show (_ + 1) * 16 ≤ _; omega)) rfl rfl ?_
    rintro _ w23 ⟨u80, rfl, M⟩
    replace M := M.less hJ79 hoI9
    simp only [sC0, sCS] at M
    refine wl_as M rfl rfl <| wl_nil <| wc_region <| wl_m M (q_add rfl rfl (IntWalk.i64_in _ (by omega))) rfl rfl ?_
    refine wl_mv M rfl rfl <| wl_nil ?_
    replace M := M.drop 0
    refine ⟨(k6 + 1, u80, l_11_6 ++ [x6.src], u_36_6, l_36_6), ?_, ⟨(by omega), (by rw [take_snoc hx6, List.map_append]; have h := hD6.push1 (b := x6.src) hgx (mem_preM.2 ⟨x6, hx6m.1, hx6m.2, rfl, by simp [ht70]⟩); simpa [ht70] using h), hc6, (by simp only [List.length_append, List.length_singleton]; omega), M⟩, ⟨rfl, rfl, rfl, trivial⟩, unw_look rfl unw_base⟩
    show (mv.filter fun m_ => m_.dst = x).length - (k6 + 1) < (mv.filter fun m_ => m_.dst = x).length - k6
    omega
   have hke6 : k6 = (mv.filter fun m_ => m_.dst = x).length := by omega
   rw [hke6, List.take_length] at hD6
   rw [hke6] at hl6
   have hlc6 := congrArg List.length hc6
   rw [List.length_cons] at hlc6
   refine wc_exit rfl <| wc_region <| wl_mv M rfl rfl <| wl_e (e_cut (k := 1) 2 M rfl Try.underlying56 rfl rfl (by omega)) rfl rfl ?_
   rintro _ w24 ⟨u46, rfl, M⟩
   simp only [sC0, sCS] at M
   refine wl_as M rfl rfl <| wl_nil ?_
   replace M := M.drop 0
   refine ⟨(u_11_6, l_11_6, u46, l_36_6.drop 1, aput m_34_4 x (d : Int)), ?_, ⟨(by rw [List.drop_one]; exact hD6.close (fun e_ he_ => he_)), (by rw [List.length_drop, hpl, Nat.add_mul, Nat.one_mul]; omega), ⟨by rw [hpl]; omega, .inr (by rw [hpl]; omega)⟩, M⟩, ⟨rfl, rfl, trivial⟩, unw_look rfl (unw_hav rfl (unw_look rfl unw_base))⟩
   show ((es ++ mv.map (·.src)).length - (aput m_34_4 x (d : Int)).length) * (mv.length + 1) + (l_36_6.drop 1).length < ((es ++ mv.map (·.src)).length - m_34_4.length) * (mv.length + 1) + l_36_4.length
   rw [List.length_drop]; exact far_mu hroom hpl hl6 hfl (by rw [hc6, List.length_cons]; omega)
  obtain rfl : l_36_4 = [] := by cases l_36_4 with | nil => rfl | cons x l => simp at ht44
  have hld4 := hD4.len hUm
  have hne2 : l_36_2 ≠ [] := by intro e; rw [e] at ht39; simp at ht39
  have hd2 := hDn.2 hne2
  have hdn2 : d + 1 ≤ m_34_4.length + 1 ∧ (l_11_4 ≠ [] → d + 1 ≤ m_34_4.length) := ⟨by omega, fun h => by rcases hgr4.2 with h1 | h1; exact absurd h1 h; omega⟩
  refine wc_exit rfl <| wc_region <| wl_mv M rfl rfl <| wl_as M rfl rfl <| wl_nil <| wc_region <| wl_mv M rfl rfl <| wl_m M (q_add rfl rfl (IntWalk.i64_in _ (by have := hDn; omega))) rfl rfl ?_
  refine wl_as M rfl rfl <| wl_nil ?_
  replace M := M.drop 1
  refine ⟨(d + 1, u_11_4, l_11_4, m_34_4), ?_, ⟨hD4.turn, (by simpa using hbd4), hdn2, M⟩, ⟨rfl, rfl, trivial⟩, unw_look rfl (unw_hav rfl (unw_look rfl unw_base))⟩
  show 2 * ((es ++ mv.map (·.src)).length - m_34_4.length) + (if l_11_4 = [] then 0 else 1) < 2 * ((es ++ mv.map (·.src)).length - m_34_2.length) + (if l_36_2 = [] then 0 else 1)
  rw [if_neg hne2]
  rcases hgr4.2 with h1 | h1
  · rw [if_pos h1]; omega
  · split <;> omega
 obtain rfl : l_36_2 = [] := by cases l_36_2 with | nil => rfl | cons x l => simp at ht39
 refine wc_exit rfl ?_
 refine wc_seq <| wc_region <| wl_mv M rfl rfl <| wl_as M rfl rfl <| wl_nil <| wc_ret ?_
 obtain ⟨K1, M, hK1, Rk1⟩ := M.frzMp 1 rfl
 exact out1 rfl rfl ⟨_, K1, rfl, (M.grow : Grow w I _ K1), _, Rk1, hD.fin, by rw [← hUl]; exact hD.len hUm⟩
set_option maxRecDepth 4000 in
set_option maxHeartbeats 1000000 in
theorem closed_c {mv : List Move} {dist : List (TCfg × Int)} {lim wr : Int} {fr : List TCfg} {va vd : Value} {sb : Nat} (hmv : mv.length ≤ 1048576) (hdl : dist.length ≤ 2097152) (hfr : fr.length ≤ 4398046511104) (hlim : 0 ≤ lim ∧ lim ≤ 1099511627776) (hwr : 0 ≤ wr ∧ wr ≤ 1099511627776) {u : SV} {I : Heap} {w : World} (hI : hle I (hp w)) (Hs : I sb = some (.cells ([va, vd, .int .i64 lim] : List Value).toArray 66 (0, 0))) (Rg : rdGm QTCfg EMove I va (grp (fun e : Move => e.src) (fun e : Move => e) mv)) (Rd : rdMp QTCfg (Value.int .i64) I vd dist) (Rf : rdSl ETCfg I (sv u) fr) :
    Calls A 40 #[.pointer (some ⟨sb, 0, none⟩), sv u, .int .i64 wr] w (Ret w I fun r I' => ∃ K : List TCfg, rdMp QTCfg Value.bool I' r (tr K) ∧ K.Nodup ∧ K.length ≤ dist.length ∧ ∀ c, c ∈ K ↔ Reach (fun c => (silM mv c).filter (fun c => okD dist c (lim - wr))) (fun c => c ∈ fr ∧ (fun c => okD dist c (lim - wr)) c = true) c) := by
 have hUm : ∀ c, (fun c => okD dist c (lim - wr)) c = true → c ∈ dist.map (·.1) := fun c h => okD_key h
 have hUl : (dist.map (·.1)).length = dist.length := List.length_map _
 have M := Mem.start hI
 refine enter Try.func40 rfl 74 Try.ntmps40 [_, _, _] rfl ?_
 refine wc_seq <| wc_region <| wl_as M rfl rfl <| wl_nil ?_
 refine wc_seq <| wc_region <| wl_e (e_mkm QTCfg Value.bool M) rfl rfl ?_
 rintro _ w1 ⟨b14, rfl, M⟩
 refine wl_as M rfl rfl <| wl_nil ?_
 refine wc_seq ?_
 refine wc_seq <| wc_region <| wl_mv M rfl rfl <| wl_e (e_callO (val := sv) Try.func64 rfl (vs := [sv u]) rfl (cloneT_c (by omega) M Rf)) rfl rfl ?_
 rintro _ w2 ⟨u16, rfl, M⟩
 refine wl_as M rfl rfl <| wl_nil <| wc_block ?_
 refine wc_loop (α := (List TCfg) × SV × (List TCfg) × (List (TCfg × Bool))) [8, 9, 10, 11, 13, 17, 18, 19, 20, 21, 22, 23, 24, 25, 26, 27, 28, 29, 30, 31, 32, 33, 34, 35, 36, 37, 38, 39, 40, 41, 42, 43, 44, 45, 46, 47, 48, 49, 50, 51, 52, 53, 54, 55, 56, 57, 58, 59, 60, 61, 62, 63, 64, 65, 66, 67, 68, 69, 70, 71, 72] (fun ((K, u_16_0, l_16_0, m_14_0) : (List TCfg) × SV × (List TCfg) × (List (TCfg × Bool))) => [(8, sv u_16_0)])
   (fun ((K, u_16_0, l_16_0, m_14_0) : (List TCfg) × SV × (List TCfg) × (List (TCfg × Bool))) w' => (Cq (silM mv) (fun c => okD dist c (lim - wr)) fr K l_16_0) ∧ (m_14_0 = tr K) ∧ (l_16_0.length ≤ fr.length + K.length * mv.length) ∧ Mem w I I (row ETCfg (sv u_16_0) l_16_0 :: mpr QTCfg Value.bool b14 m_14_0 :: []) w')
   (fun ((K, u_16_0, l_16_0, m_14_0) : (List TCfg) × SV × (List TCfg) × (List (TCfg × Bool))) => (dist.length - K.length) * (mv.length + 1) + l_16_0.length) ([], u16, fr, []) ⟨rfl, trivial⟩ ?_ ?_
 ·refine ⟨Cq.init, rfl, (by simp), ?_⟩
  exact M
 rintro ⟨K, u_16_0, l_16_0, m_14_0⟩ jj0 w3 ⟨hQ, hm, hbd, M⟩
 refine wc_seq ?_
 refine wc_seq <| wc_region <| wl_mv M rfl rfl <| wl_m M (q_lenr 0 M rfl Try.underlying56 rfl) rfl rfl <| wl_m M (q_gtr rfl rfl) rfl rfl <| wl_nil ?_
 refine wc_dec rfl (fun ht19 => ?_) (fun ht19 => ?_)
 ·obtain ⟨x, qs, hq⟩ : ∃ (x : TCfg) (qs : List TCfg), l_16_0 = x :: qs := by
    cases l_16_0 with
    | nil => simp at ht19
    | cons x qs => exact ⟨x, qs, rfl⟩
  have hlq := congrArg List.length hq
  rw [List.length_cons] at hlq
  refine wc_skip ?_
  refine wc_seq <| wc_block ?_
  refine wc_seq <| wc_region <| wl_mv M rfl rfl ?_
  refine wl_ixr (j := 0) 0 M rfl Try.underlying56 rfl rfl (by rw [hq]; rfl) rfl (fun b23 o23 p23 => ?_)
  refine wl_m M (q_ldp p23 rfl rfl) rfl rfl <| wl_e (e_alloc M z58) rfl rfl ?_
  rintro _ w4 ⟨b9, rfl, M⟩
  refine wl_e0 (e_stW 0 M rfl rfl rfl sz58 rfl rfl) rfl ?_
  intro _ w5 M
  simp only [sC0, sCS] at M
  refine wl_nil ?_
  refine wc_seq ?_
  refine wc_seq ?_
  refine wc_draws (fun w' => Mem w I I (box b9 58 [.int .i64 x.state, .int .i64 x.pos] :: row ETCfg (sv u_16_0) l_16_0 :: mpr QTCfg Value.bool b14 m_14_0 :: []) w' ∧ True) [] fol ?_
  replace M := M.drew
  have hS := (⟨M, trivial⟩ : _ ∧ _)
  refine wa_q 0 rfl (by kernel_rfl) (q_move rfl) hS rfl rfl ?_
  refine wa_q 1 rfl (by kernel_rfl) (q_nilCheck rfl) hS rfl rfl ?_
  refine wa_q 2 rfl (by kernel_rfl) (q_fa fo_66_1 rfl) hS rfl rfl ?_
  refine wa_q 3 rfl (by kernel_rfl) ((q_ldbI Hs Try.underlying63 rfl rfl rfl).mono fun _ h => h.1) hS rfl rfl ?_
  refine wa_q 4 rfl (by kernel_rfl) ((q_ldbA 0 Try.underlying58 rfl sz58 rfl rfl rfl rfl).mono fun _ h => h.1) hS rfl rfl ?_
  refine wa_q 5 rfl (by kernel_rfl) ((q_lkI2 (k := x) (z := 0) Rd Try.underlying63 zv3 rfl rfl).mono fun _ h => h.1) hS rfl rfl ?_
  refine wa_q 6 rfl (by kernel_rfl) (q_move rfl) hS rfl rfl ?_
  refine wa_q 7 rfl (by kernel_rfl) (q_ext rfl rfl) hS rfl rfl ?_
  refine wa_q 8 rfl (by kernel_rfl) (q_ext rfl rfl) hS rfl rfl ?_
  refine wa_q 9 rfl (by kernel_rfl) (q_assign rfl) hS rfl rfl ?_
  refine wa_q 10 rfl (by kernel_rfl) (q_assign rfl) hS rfl rfl ?_
  refine wa_done (by kernel_rfl) ?_
  refine wc_seq ?_
  refine wc_join (α := Unit) [34, 35, 36, 37, 38, 39, 40, 41, 42, 43, 44, 45, 46, 47, 48, 49, 50] (fun _ => [(50, .bool (((!((aget dist x).isSome)) || (decide ((lim - wr) < ((aget dist x).getD 0)))) || ((aget m_14_0 x).getD false)))]) (fun _ w' => Mem w I I (box b9 58 [.int .i64 x.state, .int .i64 x.pos] :: row ETCfg (sv u_16_0) l_16_0 :: mpr QTCfg Value.bool b14 m_14_0 :: []) w') ?_ ?_
  ·refine wc_region <| wl_mv M rfl rfl <| wl_m M (q_not rfl) rfl rfl <| wl_mv M rfl rfl ?_
   rcases Bool.eq_false_or_eq_true (!((aget dist x).isSome)) with hg36 | hg36
   ·refine wl_m M (q_off 2 rfl rfl rfl hg36) rfl rfl <| wl_m M (q_off 2 rfl rfl rfl hg36) rfl rfl <| wl_m M (q_off 2 rfl rfl rfl hg36) rfl rfl <| wl_m M (q_off 2 rfl rfl rfl hg36) rfl rfl <| wl_m M (q_off 2 rfl rfl rfl hg36) rfl rfl <| wl_m M (q_off 2 rfl rfl rfl hg36) rfl rfl <| wl_m M (q_off 2 rfl rfl rfl hg36) rfl rfl <| wl_m M (q_off 2 rfl rfl rfl hg36) rfl rfl <| wl_m M (q_pickT rfl hg36 rfl) rfl rfl <| wl_mv M rfl rfl <| wl_m M (q_off 12 rfl rfl rfl rfl) rfl rfl <| wl_m M (q_off 12 rfl rfl rfl rfl) rfl rfl <| wl_m M (q_off 12 rfl rfl rfl rfl) rfl rfl ?_
    refine wl_m M (q_pickT rfl rfl rfl) rfl rfl <| wl_nil ?_
    exact ⟨(), M, ⟨(show some (Value.bool true) = some (Value.bool (((!((aget dist x).isSome)) || (decide ((lim - wr) < ((aget dist x).getD 0)))) || ((aget m_14_0 x).getD false))) from by first | (simp only [hg36, bL8]; done) | (simp_all; done) | (simp_all; omega)), trivial⟩, unw_take 17 rfl rfl⟩
   refine wl_m M (q_guard 2 rfl rfl rfl hg36 (q_move rfl)) rfl rfl <| wl_m M (q_guard 2 rfl rfl rfl hg36 (q_move rfl)) rfl rfl <| wl_m M (q_guard 2 rfl rfl rfl hg36 (q_nilCheck rfl)) rfl rfl <| wl_m M (q_guard 2 rfl rfl rfl hg36 (q_fa fo_66_2 rfl)) rfl rfl <| wl_m M (q_guard 2 rfl rfl rfl hg36 (q_ldbI Hs Try.underlying3 rfl rfl rfl)) rfl rfl <| wl_m M (q_guard 2 rfl rfl rfl hg36 (q_move rfl)) rfl rfl <| wl_m M (q_guard 2 rfl rfl rfl hg36 (q_sub rfl rfl (IntWalk.i64_in _ (by omega)))) rfl rfl ?_
   refine wl_m M (q_guard 2 rfl rfl rfl hg36 (q_gtr rfl rfl)) rfl rfl <| wl_m M (q_pickF rfl hg36 rfl) rfl rfl <| wl_mv M rfl rfl ?_
   rcases Bool.eq_false_or_eq_true (decide ((lim - wr) < ((aget dist x).getD 0))) with hg46 | hg46
   ·refine wl_m M (q_off 12 rfl rfl rfl hg46) rfl rfl <| wl_m M (q_off 12 rfl rfl rfl hg46) rfl rfl <| wl_m M (q_off 12 rfl rfl rfl hg46) rfl rfl <| wl_m M (q_pickT rfl hg46 rfl) rfl rfl <| wl_nil ?_
    exact ⟨(), M, ⟨(show some (Value.bool true) = some (Value.bool (((!((aget dist x).isSome)) || (decide ((lim - wr) < ((aget dist x).getD 0)))) || ((aget m_14_0 x).getD false))) from by first | (simp only [hg36, hg46, bL8]; done) | (simp_all; done) | (simp_all; omega)), trivial⟩, unw_take 17 rfl rfl⟩
   refine wl_m M (q_guard 12 rfl rfl rfl hg46 (q_move rfl)) rfl rfl <| wl_m M (q_guard 12 rfl rfl rfl hg46 (q_ldbA 0 Try.underlying58 rfl sz58 rfl rfl rfl rfl)) rfl rfl <| wl_m M (q_guard 12 rfl rfl rfl hg46 (q_lk (k := x) (z := false) 2 rfl Try.underlying69 zv4 rfl rfl)) rfl rfl <| wl_m M (q_pickF rfl hg46 rfl) rfl rfl <| wl_nil ?_
   exact ⟨(), M, ⟨(show some (Value.bool ((aget m_14_0 x).getD false)) = some (Value.bool (((!((aget dist x).isSome)) || (decide ((lim - wr) < ((aget dist x).getD 0)))) || ((aget m_14_0 x).getD false))) from by first | (simp only [hg36, hg46, bL8]; done) | (simp_all; done) | (simp_all; omega)), trivial⟩, unw_take 17 rfl rfl⟩
  rintro _ jr7 w6 M
  refine wc_cond rfl (fun ht50 => ?_) (fun ht50 => ?_)
  ·rw [hm, okD_neg, aget_tr] at ht50
   have hsk := clo_skip ht50
   refine wc_exit rfl <| wc_region <| wl_mv M rfl rfl <| wl_e (e_cut (k := 1) 1 M rfl Try.underlying56 rfl rfl (by omega)) rfl rfl ?_
   rintro _ w7 ⟨u21, rfl, M⟩
   simp only [sC0, sCS] at M
   refine wl_as M rfl rfl <| wl_nil ?_
   replace M := M.drop 0
   refine ⟨(K, u21, l_16_0.drop 1, m_14_0), ?_, ⟨(by rw [hq, List.drop_one, List.tail_cons]; rw [hq] at hQ; exact hQ.skip hsk), hm, (by rw [List.length_drop]; omega), M⟩, ⟨rfl, trivial⟩, unw_look rfl (unw_hav rfl (unw_look rfl unw_base))⟩
   show (dist.length - K.length) * (mv.length + 1) + (l_16_0.drop 1).length < (dist.length - K.length) * (mv.length + 1) + l_16_0.length
   rw [hq, List.drop_one, List.tail_cons, List.length_cons]; omega
  rw [hm, okD_neg, aget_tr] at ht50
  obtain ⟨hok, hnk⟩ := clo_push ht50
  have hroom := (by rw [hq] at hQ; exact hQ.room hok hnk hUm : K.length + 1 ≤ _)
  rw [hUl] at hroom
  refine wc_skip ?_
  refine wc_seq <| wc_region <| wl_mv M rfl rfl <| wl_m M (q_ldbA 0 Try.underlying58 rfl sz58 rfl rfl rfl rfl) rfl rfl ?_
  refine wl_e0 (e_mpu (k := x) (v := true) 2 M rfl Try.underlying69 rfl rfl rfl) rfl ?_
  intro _ w8 M
  simp only [sC0, sCS] at M
  refine wl_nil ?_
  refine wc_seq ?_
  refine wc_draws (fun w' => Mem w I I (box b9 58 [.int .i64 x.state, .int .i64 x.pos] :: row ETCfg (sv u_16_0) l_16_0 :: mpr QTCfg Value.bool b14 (aput m_14_0 x true) :: []) w' ∧ True) [] fol ?_
  replace M := M.drew
  have hS := (⟨M, trivial⟩ : _ ∧ _)
  refine wa_q 0 rfl (by kernel_rfl) (q_move rfl) hS rfl rfl ?_
  refine wa_q 1 rfl (by kernel_rfl) (q_nilCheck rfl) hS rfl rfl ?_
  refine wa_q 2 rfl (by kernel_rfl) (q_fa fo_66_0 rfl) hS rfl rfl ?_
  refine wa_q 3 rfl (by kernel_rfl) ((q_ldbI Hs Try.underlying62 rfl rfl rfl).mono fun _ h => h.1) hS rfl rfl ?_
  refine wa_q 4 rfl (by kernel_rfl) ((q_ldbA 0 Try.underlying58 rfl sz58 rfl rfl rfl rfl).mono fun _ h => h.1) hS rfl rfl ?_
  refine wa_lkg (k := x) 5 rfl (by kernel_rfl) (fun _ h => h.1) Rg Try.underlying62 zv59 rfl rfl hS rfl (fun u58 R58 => ?_)
  rw [grp_id] at R58
  replace R58 : rdSl EMove I (sv u58) (mv.filter fun m_ => m_.src = x) := R58
  refine wa_q 6 rfl (by kernel_rfl) (q_lenR R58 Try.underlying59 rfl) hS rfl rfl ?_
  refine wa_q 7 rfl (by kernel_rfl) (q_move rfl) hS rfl rfl ?_
  refine wa_done (by kernel_rfl) ?_
  refine wc_block ?_
  refine wc_loop (α := Nat × SV × (List TCfg)) [8, 13, 60, 61, 62, 63, 64, 65, 66, 67, 68, 69, 70, 71, 72] (fun ((k2, u_16_2, l_16_2) : Nat × SV × (List TCfg)) => [(60, .int .i64 (k2 : Int)), (8, sv u_16_2)])
    (fun ((k2, u_16_2, l_16_2) : Nat × SV × (List TCfg)) w' => (k2 ≤ (mv.filter fun m_ => m_.src = x).length) ∧ (l_16_2 = l_16_0 ++ (((mv.filter fun m_ => m_.src = x).take k2).filter fun m_ => m_.out = 0).map (·.dst)) ∧ Mem w I I (box b9 58 [.int .i64 x.state, .int .i64 x.pos] :: row ETCfg (sv u_16_2) l_16_2 :: mpr QTCfg Value.bool b14 (aput m_14_0 x true) :: []) w')
    (fun ((k2, u_16_2, l_16_2) : Nat × SV × (List TCfg)) => (mv.filter fun m_ => m_.src = x).length - k2) (0, u_16_0, l_16_0) ⟨rfl, rfl, trivial⟩ ?_ ?_
  ·refine ⟨Nat.zero_le _, (by simp), ?_⟩
   exact M
  rintro ⟨k2, u_16_2, l_16_2⟩ jj2 w9 ⟨hk2, hl2, M⟩
  refine wc_seq <| wc_region <| wl_m M (q_lss rfl rfl) rfl rfl <| wl_nil ?_
  refine wc_seq ?_
  refine wc_dec rfl (fun ht61 => ?_) (fun ht61 => ?_)
  ·obtain ⟨x2, hx2⟩ : ∃ x_, (mv.filter fun m_ => m_.src = x)[k2]? = some x_ := ⟨_, List.getElem?_eq_getElem (by omega)⟩
   have hll2 := (R58).len_le
   refine wc_skip ?_
   refine wc_seq <| wc_block ?_
   refine wc_seq <| wc_region ?_
   refine wl_ix (j := k2) M R58 Try.underlying59 rfl rfl hx2 rfl (fun b62 o62 p62 => ?_)
   refine wl_m M (q_ldp p62 rfl rfl) rfl rfl <| wl_e (e_alloc M z68) rfl rfl ?_
   rintro _ w10 ⟨b13, rfl, M⟩
   refine wl_e0 (e_stW 0 M rfl rfl rfl sz68 rfl rfl) rfl ?_
   intro _ w11 M
   simp only [sC0, sCS] at M
   refine wl_nil ?_
   refine wc_seq <| wc_region <| wl_m M (q_fa fo_68_2 rfl) rfl rfl <| wl_m M (q_ldb 0 Try.underlying21 rfl rfl rfl rfl) rfl rfl <| wl_m M (q_eql rfl rfl) rfl rfl <| wl_nil ?_
   refine wc_dec rfl (fun ht66 => ?_) (fun ht66 => ?_)
   ·refine wc_region <| wl_mv M rfl rfl <| wl_m M (q_fa fo_68_1 rfl) rfl rfl <| wl_m M (q_ldbA 0 Try.underlying58 rfl sz58 rfl rfl rfl rfl) rfl rfl <| wl_e (e_bsI (E := ETCfg) (xs := [x2.dst]) M (bs_56_1 _ _) ⟨⟨rfl, rfl⟩, trivial⟩ rfl rfl (by decide)) rfl rfl ?_
    rintro _ w12 ⟨u70, J70, rfl, hJ70, R70, M⟩
    have hoJ70 := M.old
    refine wl_e (e_app 2 M rfl R70 Try.underlying56 rfl rfl (by have h1 := Nat.mul_le_mul (show K.length ≤ 2097152 by have := hQ.len hUm; omega) hmv; have h2 : (((mv.filter fun m_ => m_.src = x).take k2).filter fun m_ => m_.out = 0).length ≤ mv.length := Nat.le_trans (List.length_filter_le _ _) (Nat.le_trans (by rw [List.length_take]; exact Nat.min_le_right _ _) (List.length_filter_le (fun m_ => decide (m_.src = x)) mv)); rw [hl2, List.length_append, List.length_map]; show (_ + 1) * 16 ≤ _; omega)) rfl rfl ?_
    rintro _ w13 ⟨u71, rfl, M⟩
    replace M := M.less hJ70 (fun _ _ => rfl)
    simp only [sC0, sCS] at M
    refine wl_as M rfl rfl <| wl_nil <| wc_region <| wl_m M (q_add rfl rfl (IntWalk.i64_in _ (by omega))) rfl rfl ?_
    refine wl_mv M rfl rfl <| wl_nil ?_
    replace M := M.drop 0
    refine ⟨(k2 + 1, u71, l_16_2 ++ [x2.dst]), ?_, ⟨(by omega), (by rw [take_snoc hx2, List.filter_append, hl2]; simp [ht66]), M⟩, ⟨rfl, rfl, trivial⟩, unw_look rfl unw_base⟩
    show (mv.filter fun m_ => m_.src = x).length - (k2 + 1) < (mv.filter fun m_ => m_.src = x).length - k2
    omega
   refine wc_skip <| wc_region <| wl_m M (q_add rfl rfl (IntWalk.i64_in _ (by omega))) rfl rfl ?_
   refine wl_mv M rfl rfl <| wl_nil ?_
   replace M := M.drop 0
   refine ⟨(k2 + 1, u_16_2, l_16_2), ?_, ⟨(by omega), (by rw [take_snoc hx2, List.filter_append, hl2]; simp [ht66]), M⟩, ⟨rfl, rfl, trivial⟩, unw_look rfl unw_base⟩
   show (mv.filter fun m_ => m_.src = x).length - (k2 + 1) < (mv.filter fun m_ => m_.src = x).length - k2
   omega
  have hke2 : k2 = (mv.filter fun m_ => m_.src = x).length := by omega
  rw [hke2, List.take_length] at hl2
  have hlc2 : 1 ≤ l_16_2.length := by rw [hl2, hq]; simp
  refine wc_exit rfl <| wc_region <| wl_mv M rfl rfl <| wl_e (e_cut (k := 1) 1 M rfl Try.underlying56 rfl rfl (by omega)) rfl rfl ?_
  rintro _ w14 ⟨u21, rfl, M⟩
  simp only [sC0, sCS] at M
  refine wl_as M rfl rfl <| wl_nil ?_
  replace M := M.drop 0
  refine ⟨(K ++ [x], u21, l_16_2.drop 1, aput m_14_0 x true), ?_, ⟨(by rw [hl2, hq]; rw [hq] at hQ; exact hQ.push hok hnk), (by rw [hm, aput_tr hnk]), (by rw [List.length_drop, hl2, List.length_append, hq, List.length_cons, List.length_append, List.length_singleton, Nat.add_mul, Nat.one_mul]; rw [hq, List.length_cons] at hbd; have := silM_len mv x; unfold silM at this; omega), M⟩, ⟨rfl, trivial⟩, unw_look rfl (unw_hav rfl (unw_look rfl (unw_hav rfl (unw_look rfl unw_base))))⟩
  show (dist.length - (K ++ [x]).length) * (mv.length + 1) + (l_16_2.drop 1).length < (dist.length - K.length) * (mv.length + 1) + l_16_0.length
  rw [hl2, hq]; exact clo_mu hroom (silM_len mv x) rfl
 obtain rfl : l_16_0 = [] := by cases l_16_0 with | nil => rfl | cons x l => simp at ht19
 refine wc_exit rfl ?_
 refine wc_seq <| wc_region <| wl_mv M rfl rfl <| wl_as M rfl rfl <| wl_nil <| wc_ret ?_
 obtain ⟨K1, M, hK1, Rk1⟩ := M.frzMp 1 rfl
 rw [hm] at Rk1
 exact out1 rfl rfl ⟨_, K1, rfl, (M.grow : Grow w I _ K1), K, Rk1, hQ.nd, by have := hQ.len hUm; rw [hUl] at this; exact this, hQ.fin⟩
end Go.Proofs.Ytfepjcmjkaolgaa.G
