/- Walks of the program's functions. -/
import Derived.Test.YtmjieefhjmiagaaDoorWFf
import Derived.Test.YtmjieefhjmiagaaDoorWR
set_option linter.all false
namespace Go.Proofs.YtmjieefhjmiagaaDoor.G
open Go Go.RowKit
theorem functionalR_c {t : Tra} {ws : List ByteArray} (hs : ∀ s ∈ ws, s.size ≤ 70368744177664) {v1 : Value} {u : SV} {I : Heap} {w : World} (hI : hle I (hp w)) (hT : Tabs I) (R1 : t.rd I v1) (R2 : rdSl EStr I (sv u) ws) :
    Calls A 22 #[v1, sv u] w (Ret w I fun r _ => r = .tuple #[.bool (FncS t ws).1, .int .i64 (FncS t ws).2]) := by
 obtain ⟨fu1, au1, rfl, Rf1, Ra1⟩ := R1
 have M := Mem.start hI
 refine enter Tryd.func22 rfl 49 Tryd.ntmps22 [_, _] rfl ?_
 refine wc_seq ?_
 refine wc_region ?_
 refine wl_e (e_box M rfl) rfl rfl ?_
 rintro _ w1 ⟨b2, rfl, M⟩
 refine wl_as M rfl rfl ?_
 refine wl_as M rfl rfl ?_
 refine wl_nil ?_
 refine wc_seq ?_
 refine wc_region ?_
 refine wl_as M rfl rfl ?_
 refine wl_nil ?_
 refine wc_seq ?_
 refine wc_seq ?_
 refine wc_region ?_
 refine wl_mv M rfl rfl ?_
 refine wl_m M (q_lenR R2 Tryd.underlying42 rfl) rfl rfl ?_
 refine wl_mv M rfl rfl ?_
 refine wl_nil ?_
 refine wc_block ?_
 refine wc_loop (α := Nat × Bool) [4, 5, 6, 8, 9, 10, 15, 16, 17, 18, 19, 20, 21, 22, 23, 24, 25, 26, 27, 28, 29, 30, 31, 32] (fun ((k0, lg) : Nat × Bool) => [(6, .bool lg), (15, .int .i64 (k0 : Int))])
   (fun ((k0, lg) : Nat × Bool) w' => (k0 ≤ ws.length) ∧ ((ws.take k0).all okR = true) ∧ (lg = (ws.take k0).any fun s => decide (40 < ((runesR s).length : Int))) ∧ Mem w I I (box b2 25 [.int .i64 t.states, .int .i64 t.start, sv fu1, sv au1] :: []) w')
   (fun ((k0, lg) : Nat × Bool) => ws.length - k0) (0, false) ⟨rfl, rfl, trivial⟩ ?_ ?_
 ·refine ⟨Nat.zero_le _, rfl, rfl, ?_⟩
  exact M
 rintro ⟨k0, lg⟩ jj0 w2 ⟨hk0, ha, hlg, M⟩
 refine wc_seq ?_
 refine wc_region ?_
 refine wl_m M (q_lss rfl rfl) rfl rfl ?_
 refine wl_nil ?_
 refine wc_seq ?_
 refine wc_dec rfl (fun ht16 => ?_) (fun ht16 => ?_)
 ·obtain ⟨x0, hx0⟩ : ∃ x_, ws[k0]? = some x_ := ⟨_, List.getElem?_eq_getElem (by omega)⟩
  have hll0 := (R2).len_le
  have hll0 := R2.len_le
  refine wc_skip ?_
  refine wc_seq ?_
  refine wc_block ?_
  refine wc_seq ?_
  refine wc_region ?_
  refine wl_ix (j := k0) M R2 Tryd.underlying42 rfl rfl hx0 rfl (fun b17 o17 p17 => ?_)
  refine wl_m M (q_ldp p17 rfl rfl) rfl rfl ?_
  refine wl_as M rfl rfl ?_
  refine wl_nil ?_
  refine wc_seq ?_
  refine wc_region ?_
  refine wl_mv M rfl rfl ?_
  refine wl_e (e_callC M (runes3_c x0 (hs x0 (List.mem_of_getElem? hx0)) M.imm hT) Tryd.func51 rfl rfl) rfl rfl ?_
  rintro _ w3 ⟨J21, hJ21, ⟨u21, rfl, R21⟩, M⟩
  have hoJ21 := M.old
  refine wl_mv M rfl rfl ?_
  refine wl_m M (q_ext rfl rfl) rfl rfl ?_
  refine wl_m M (q_ext rfl rfl) rfl rfl ?_
  refine wl_as M rfl rfl ?_
  refine wl_as M rfl rfl ?_
  refine wl_nil ?_
  refine wc_seq ?_
  refine wc_seq ?_
  refine wc_region ?_
  refine wl_mv M rfl rfl ?_
  refine wl_m M (q_not rfl) rfl rfl ?_
  refine wl_nil ?_
  refine wc_cond rfl (fun ht25 => ?_) (fun ht25 => ?_)
  ·refine wc_seq ?_
   refine wc_region ?_
   refine wl_as M rfl rfl ?_
   refine wl_as M rfl rfl ?_
   refine wl_nil ?_
   refine wc_ret ?_
   exact out2 rfl rfl rfl ⟨_, _, rfl, M.grow, by rw [fnc_bad hx0 (by simpa using ht25)]⟩
  refine wc_skip ?_
  refine wc_join (α := Unit) [6, 26, 27, 28, 29, 30, 31] (fun _ => [(6, .bool (lg || (decide (40 < ((runesR x0).length : Int)))))]) (fun _ w' => Mem w I J21 (box b2 25 [.int .i64 t.states, .int .i64 t.start, sv fu1, sv au1] :: []) w') ?_ ?_
  ·refine wc_region ?_
   refine wl_mv M rfl rfl ?_
   refine wl_mv M rfl rfl ?_
   rcases Bool.eq_false_or_eq_true (lg) with hg27 | hg27
   ·refine wl_m M (q_off 1 rfl rfl rfl hg27) rfl rfl ?_
    refine wl_m M (q_off 1 rfl rfl rfl hg27) rfl rfl ?_
    refine wl_m M (q_off 1 rfl rfl rfl hg27) rfl rfl ?_
    refine wl_m M (q_pickT rfl hg27 rfl) rfl rfl ?_
    refine wl_as M rfl rfl ?_
    refine wl_nil ?_
    exact ⟨(), M, ⟨(show some (Value.bool true) = some (Value.bool (lg || (decide (40 < ((runesR x0).length : Int))))) from by first | (simp only [hg27, Bool.true_or, Bool.false_or, Bool.true_and, Bool.false_and, Bool.or_true, Bool.or_false, Bool.and_true, Bool.and_false]; done) | (simp_all; done) | (simp_all; omega)), trivial⟩, unw_take 7 rfl rfl⟩
   refine wl_m M (q_guard 1 rfl rfl rfl hg27 (q_move rfl)) rfl rfl ?_
   refine wl_m M (q_guard 1 rfl rfl rfl hg27 (q_lenR R21 Tryd.underlying84 rfl)) rfl rfl ?_
   refine wl_m M (q_guard 1 rfl rfl rfl hg27 (q_gtr rfl rfl)) rfl rfl ?_
   refine wl_m M (q_pickF rfl hg27 rfl) rfl rfl ?_
   refine wl_as M rfl rfl ?_
   refine wl_nil ?_
   exact ⟨(), M, ⟨(show some (Value.bool (decide (40 < ((runesR x0).length : Int)))) = some (Value.bool (lg || (decide (40 < ((runesR x0).length : Int))))) from by first | (simp only [hg27, Bool.true_or, Bool.false_or, Bool.true_and, Bool.false_and, Bool.or_true, Bool.or_false, Bool.and_true, Bool.and_false]; done) | (simp_all; done) | (simp_all; omega)), trivial⟩, unw_take 7 rfl rfl⟩
  rintro _ jr8 w4 M
  refine wc_region ?_
  refine wl_m M (q_add rfl rfl (IntWalk.i64_in _ (by omega))) rfl rfl ?_
  refine wl_mv M rfl rfl ?_
  refine wl_nil ?_
  replace M := M.less hJ21 (fun _ _ => rfl)
  refine ⟨(k0 + 1, (lg || decide (40 < ((runesR x0).length : Int)))), ?_, ⟨(by omega), (all_take_succ hx0 ha (by simpa using ht25)), (by rw [take_snoc hx0, List.any_append, ← hlg]; simp), M⟩, ⟨rfl, rfl, trivial⟩, unw_look rfl (unw_hav rfl (unw_look rfl unw_base))⟩
  show ws.length - (k0 + 1) < ws.length - k0
  omega
 have hke0 : k0 = ws.length := by omega
 rw [hke0, List.take_length] at ha hlg
 refine wc_exit rfl ?_
 refine wc_seq ?_
 refine wc_seq ?_
 refine wc_region ?_
 refine wl_m M (q_ldbA 0 Tryd.underlying25 rfl sz25 rfl rfl rfl rfl) rfl rfl ?_
 refine wl_e (e_callC M (valid3_c t M.imm ⟨_, _, rfl, Rf1, Ra1⟩) Tryd.func36 rfl rfl) rfl rfl ?_
 rintro _ w5 ⟨J34, hJ34, rfl, M⟩
 replace M := M.less hJ34 (fun _ _ => rfl)
 refine wl_m M (q_not rfl) rfl rfl ?_
 refine wl_nil ?_
 refine wc_cond rfl (fun ht35 => ?_) (fun ht35 => ?_)
 ·refine wc_seq ?_
  refine wc_region ?_
  refine wl_as M rfl rfl ?_
  refine wl_as M rfl rfl ?_
  refine wl_nil ?_
  refine wc_ret ?_
  exact out2 rfl rfl rfl ⟨_, _, rfl, M.grow, by rw [fnc_inv (by simpa using ht35)]⟩
 have hv : validT t = true := by simpa using ht35
 obtain ⟨m, ht, hfn, hfl⟩ := validT_ok hv
 have hfin : ∀ p ∈ t.finals, 0 ≤ p ∧ p < (m : Int) := fun p hp => by have := validT_fin hv p hp; rwa [ht.st] at this
 refine wc_skip ?_
 refine wc_seq ?_
 refine wc_seq ?_
 refine wc_region ?_
 refine wl_mv M rfl rfl ?_
 refine wl_nil ?_
 refine wc_cond rfl (fun ht36 => ?_) (fun ht36 => ?_)
 ·refine wc_seq ?_
  refine wc_region ?_
  refine wl_as M rfl rfl ?_
  refine wl_as M rfl rfl ?_
  refine wl_nil ?_
  refine wc_ret ?_
  exact out2 rfl rfl rfl ⟨_, _, rfl, M.grow, by rw [fnc_long hv ha (hlg.symm.trans ht36)]⟩
 have hgo := fnc_go hv ha (hlg.symm.trans ht36)
 refine wc_skip ?_
 refine wc_seq ?_
 refine wc_seq ?_
 refine wc_region ?_
 refine wl_mv M rfl rfl ?_
 refine wl_m M (q_lenR R2 Tryd.underlying42 rfl) rfl rfl ?_
 refine wl_mv M rfl rfl ?_
 refine wl_nil ?_
 refine wc_block ?_
 refine wc_loop (α := Nat) [4, 5, 12, 39, 40, 41, 42, 43, 44, 45, 46, 47, 48] (fun (k2 : Nat) => [(39, .int .i64 (k2 : Int))])
   (fun (k2 : Nat) w' => (k2 ≤ ws.length) ∧ ((ws.take k2).all (fun w => sglB t (runesL w)) = true) ∧ Mem w I I (box b2 25 [.int .i64 t.states, .int .i64 t.start, sv fu1, sv au1] :: []) w')
   (fun (k2 : Nat) => ws.length - k2) (0) ⟨rfl, trivial⟩ ?_ ?_
 ·refine ⟨Nat.zero_le _, rfl, ?_⟩
  exact M
 rintro k2 jj2 w6 ⟨hk2, hb, M⟩
 refine wc_seq ?_
 refine wc_region ?_
 refine wl_m M (q_lss rfl rfl) rfl rfl ?_
 refine wl_nil ?_
 refine wc_seq ?_
 refine wc_dec rfl (fun ht40 => ?_) (fun ht40 => ?_)
 ·obtain ⟨x2, hx2⟩ : ∃ x_, ws[k2]? = some x_ := ⟨_, List.getElem?_eq_getElem (by omega)⟩
  have hll2 := (R2).len_le
  have hll0 := R2.len_le
  refine wc_skip ?_
  refine wc_seq ?_
  refine wc_block ?_
  refine wc_seq ?_
  refine wc_region ?_
  refine wl_ix (j := k2) M R2 Tryd.underlying42 rfl rfl hx2 rfl (fun b41 o41 p41 => ?_)
  refine wl_m M (q_ldp p41 rfl rfl) rfl rfl ?_
  refine wl_as M rfl rfl ?_
  refine wl_nil ?_
  refine wc_seq ?_
  refine wc_region ?_
  refine wl_m M (q_ldbA 0 Tryd.underlying25 rfl sz25 rfl rfl rfl rfl) rfl rfl ?_
  refine wl_mv M rfl rfl ?_
  refine wl_e (e_cvRI (E := ERune) (s := x2) M (fun _ => rfl) Tryd.underlying9 Tryd.underlying84 Tryd.underlying21 (hs x2 (List.mem_of_getElem? hx2)) rfl) rfl rfl ?_
  rintro v45 w7 ⟨J45, hJ45, R45, M⟩
  obtain ⟨u45, rfl⟩ := rdSl_slice R45
  have hoJ45 := M.old
  replace R45 : rdSl ERune J45 (sv u45) (runesL x2) := R45
  refine wl_e (e_callC M (singleR_c ht hfin hfl (hgo.2 x2 (List.mem_of_getElem? hx2)) M.imm ⟨_, _, rfl, (Rf1.mono hJ45), (Ra1.mono hJ45)⟩ R45) Tryd.func52 rfl rfl) rfl rfl ?_
  rintro _ w8 ⟨J46, hJ46, rfl, M⟩
  replace M := M.less hJ46 hoJ45
  refine wl_m M (q_not rfl) rfl rfl ?_
  refine wl_nil ?_
  refine wc_cond rfl (fun ht47 => ?_) (fun ht47 => ?_)
  ·refine wc_seq ?_
   refine wc_region ?_
   refine wl_as M rfl rfl ?_
   refine wl_as M rfl rfl ?_
   refine wl_nil ?_
   refine wc_ret ?_
   exact out2 rfl rfl rfl ⟨_, _, rfl, M.grow, by rw [hgo.1, all_false_at (f := fun w => sglB t (runesL w)) hx2 (by simpa using ht47)]⟩
  refine wc_skip ?_
  refine wc_region ?_
  refine wl_m M (q_add rfl rfl (IntWalk.i64_in _ (by omega))) rfl rfl ?_
  refine wl_mv M rfl rfl ?_
  refine wl_nil ?_
  replace M := M.less hJ45 (fun _ _ => rfl)
  refine ⟨(k2 + 1), ?_, ⟨(by omega), (all_take_succ (f := fun w => sglB t (runesL w)) hx2 hb (by simpa using ht47)), M⟩, ⟨rfl, trivial⟩, unw_look rfl unw_base⟩
  show ws.length - (k2 + 1) < ws.length - k2
  omega
 have hke2 : k2 = ws.length := by omega
 rw [hke2, List.take_length] at hb
 refine wc_exit rfl ?_
 refine wc_seq ?_
 refine wc_region ?_
 refine wl_as M rfl rfl ?_
 refine wl_as M rfl rfl ?_
 refine wl_nil ?_
 refine wc_ret ?_
 exact out2 rfl rfl rfl ⟨_, _, rfl, M.grow, by rw [hgo.1, hb]⟩
end Go.Proofs.YtmjieefhjmiagaaDoor.G
