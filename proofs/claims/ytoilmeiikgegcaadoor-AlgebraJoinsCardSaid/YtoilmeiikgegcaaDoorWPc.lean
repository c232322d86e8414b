/- Walks of the program's functions. -/
import Derived.Test.YtoilmeiikgegcaaDoorWPb
set_option linter.all false
namespace Go.Proofs.YtoilmeiikgegcaaDoor.G
open Go Go.RowKit
theorem words_c (ws : List ByteArray) (hws : ws.length ≤ 1000) (hsz : ∀ s ∈ ws, s.size ≤ 100000) {u : SV} {I : Heap} {w : World} (hI : hle I (hp w)) (hT : Tabs I) (R0 : rdSl EStr I (sv u) ws) :
    Calls A 17 #[sv u] w (Ret w I fun r I' => ∃ (v' : Value) (t : Tra) (e : Int), r = .tuple #[v', .int .i64 e] ∧ t.rd I' v' ∧ (t, e) = PairsS (ws.map fun s => ⟨s, s⟩)) := by
 have M := Mem.start hI
 refine enter Tryd.func17 rfl 27 Tryd.ntmps17 [_] rfl ?_
 refine wc_seq ?_
 refine wc_region ?_
 refine wl_e (e_alloc M z29) rfl rfl ?_
 rintro _ w1 ⟨b2, rfl, M⟩
 refine wl_as M rfl rfl ?_
 refine wl_nil ?_
 refine wc_seq ?_
 refine wc_region ?_
 refine wl_mv M rfl rfl ?_
 refine wl_m M (q_lenR R0 Tryd.underlying23 rfl) rfl rfl ?_
 refine wl_e (e_make0 (E := ESPair) (m := ws.length) M Tryd.underlying22 rfl rfl (by show _ * 32 ≤ _; omega)) rfl rfl ?_
 rintro _ w2 ⟨u9, rfl, M⟩
 refine wl_as M rfl rfl ?_
 refine wl_nil ?_
 refine wc_seq ?_
 refine wc_seq ?_
 refine wc_region ?_
 refine wl_mv M rfl rfl ?_
 refine wl_m M (q_lenR R0 Tryd.underlying23 rfl) rfl rfl ?_
 refine wl_mv M rfl rfl ?_
 refine wl_nil ?_
 refine wc_block ?_
 refine wc_loop (α := Nat × SV × (List SPair)) [4, 6, 12, 13, 14, 15, 16, 17, 18, 19, 20, 21, 22] (fun ((k0, u_9_0, l_9_0) : Nat × SV × (List SPair)) => [(12, .int .i64 (k0 : Int)), (4, sv u_9_0)])
   (fun ((k0, u_9_0, l_9_0) : Nat × SV × (List SPair)) w' => (k0 ≤ ws.length) ∧ (l_9_0 = (ws.take k0).map fun s => SPair.mk s s) ∧ Mem w I I (row ESPair (sv u_9_0) l_9_0 :: box b2 29 [.int .i64 0, .int .i64 0, .slice none 0 0, .slice none 0 0] :: []) w')
   (fun ((k0, u_9_0, l_9_0) : Nat × SV × (List SPair)) => ws.length - k0) (0, u9, []) ⟨rfl, rfl, trivial⟩ ?_ ?_
 ·refine ⟨Nat.zero_le _, rfl, ?_⟩
  exact M
 rintro ⟨k0, u_9_0, l_9_0⟩ jj0 w3 ⟨hk0, hps, M⟩
 refine wc_seq ?_
 refine wc_region ?_
 refine wl_m M (q_lss rfl rfl) rfl rfl ?_
 refine wl_nil ?_
 refine wc_seq ?_
 refine wc_dec rfl (fun ht13 => ?_) (fun ht13 => ?_)
 ·obtain ⟨x0, hx0⟩ : ∃ x_, ws[k0]? = some x_ := ⟨_, List.getElem?_eq_getElem (by omega)⟩
  have hll0 := (R0).len_le
  refine wc_skip ?_
  refine wc_seq ?_
  refine wc_block ?_
  refine wc_seq ?_
  refine wc_region ?_
  refine wl_ix (j := k0) M R0 Tryd.underlying23 rfl rfl hx0 rfl (fun b14 o14 p14 => ?_)
  refine wl_m M (q_ldp p14 rfl rfl) rfl rfl ?_
  refine wl_as M rfl rfl ?_
  refine wl_nil ?_
  refine wc_region ?_
  refine wl_mv M rfl rfl ?_
  refine wl_mv M rfl rfl ?_
  refine wl_mv M rfl rfl ?_
  refine wl_m M (q_build (bd_25_0_1 _ _) ⟨⟨rfl, rfl⟩, ⟨rfl, rfl⟩, trivial⟩) rfl rfl ?_
  refine wl_e (e_bsI (E := ESPair) (xs := [(SPair.mk x0 x0)]) M (bs_22_1 _ _) ⟨⟨rfl, rfl⟩, trivial⟩ rfl rfl (by decide)) rfl rfl ?_
  rintro _ w4 ⟨u20, J20, rfl, hJ20, R20, M⟩
  have hoJ20 := M.old
  refine wl_e (e_app 0 M rfl R20 Tryd.underlying22 rfl rfl (by rw [hps, List.length_map, List.length_take]; show (_ + 1) * 32 ≤ _; omega)) rfl rfl ?_
  rintro _ w5 ⟨u21, rfl, M⟩
  replace M := M.less hJ20 (fun _ _ => rfl)
  simp only [sC0, sCS] at M
  refine wl_as M rfl rfl ?_
  refine wl_nil ?_
  refine wc_region ?_
  refine wl_m M (q_add rfl rfl (IntWalk.i64_in _ (by omega))) rfl rfl ?_
  refine wl_mv M rfl rfl ?_
  refine wl_nil ?_
  refine ⟨(k0 + 1, u21, l_9_0 ++ [(SPair.mk x0 x0)]), ?_, ⟨(by omega), (by rw [take_snoc hx0, List.map_append, hps]; rfl), M⟩, ⟨rfl, rfl, trivial⟩, unw_look rfl unw_base⟩
  show ws.length - (k0 + 1) < ws.length - k0
  omega
 have hke0 : k0 = ws.length := by omega
 refine wc_exit rfl ?_
 refine wc_seq ?_
 rw [hke0, List.take_length] at hps
 subst hps
 obtain ⟨I9, M, hI9, Rn⟩ := M.frzRow 0 rfl
 have hoI9 := M.old
 simp only [List.eraseIdx_cons_zero, List.eraseIdx_cons_succ] at M
 refine wc_region ?_
 refine wl_mv M rfl rfl ?_
 refine wl_e (e_callC M (pairs_c (ws.map fun s => SPair.mk s s) (by simpa using hws) (by intro p hp; obtain ⟨s, hs, rfl⟩ := List.mem_map.1 hp; exact ⟨hsz s hs, hsz s hs⟩) M.imm (hT.mono hI9) Rn) Tryd.func15 rfl rfl) rfl rfl ?_
 rintro _ w6 ⟨J24, hJ24, ⟨_, rfl, ⟨fu24, au24, rfl, Rf24, Ra24⟩⟩, M⟩
 have hoJ24 := M.old
 refine wl_m M (q_ext rfl rfl) rfl rfl ?_
 refine wl_m M (q_ext rfl rfl) rfl rfl ?_
 refine wl_e0 (e_stW 0 M rfl rfl rfl sz29 rfl rfl) rfl ?_
 intro _ w7 M
 simp only [sC0, sCS] at M
 refine wl_as M rfl rfl ?_
 refine wl_nil ?_
 refine wc_ret ?_
 exact outc2 rfl rfl (load_boxA M 0 Tryd.underlying29 rfl sz29 rfl rfl rfl) rfl ⟨_, _, rfl, M.grow, _, (PairsS (ws.map fun s => SPair.mk s s)).1, (PairsS (ws.map fun s => SPair.mk s s)).2, rfl, ⟨_, _, rfl, Rf24, Ra24⟩, rfl⟩
end Go.Proofs.YtoilmeiikgegcaaDoor.G
