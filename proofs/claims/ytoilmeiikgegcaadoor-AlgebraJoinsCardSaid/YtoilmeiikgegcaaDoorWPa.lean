/- Walks of the program's functions. -/
import Derived.Test.YtoilmeiikgegcaaDoorWVc
import Derived.Test.YtoilmeiikgegcaaDoorGArr
set_option linter.all false
namespace Go.Proofs.YtoilmeiikgegcaaDoor.G
open Go Go.RowKit
theorem readableA_c (s : ByteArray) (hs : s.size ≤ 70368744177664) {I : Heap} {w : World} (hI : hle I (hp w)) (hT : Tabs I) : Calls A 42 #[.string s] w (Ret w I fun r _ => r = .bool (okS s)) := by
 have M := Mem.start hI
 refine enter Tryd.func42 rfl 10 Tryd.ntmps42 [_] rfl ?_
 refine wc_seq ?_
 refine wc_region ?_
 refine wl_as M rfl rfl ?_
 refine wl_nil ?_
 refine wc_seq ?_
 refine wc_join (α := Unit) [2, 3, 4, 5, 6, 7, 8, 9] (fun _ => [(2, .bool ((Lib.validD s.data.toList) && (!(decide ((0 : Int) ∈ bytesL s)))))]) (fun _ w' => Mem w I I ([]) w') ?_ ?_
 ·refine wc_region ?_
  refine wl_mv M rfl rfl ?_
  refine wl_e (e_callC M (validS_c s hs M.imm hT) Tryd.func67 rfl rfl) rfl rfl ?_
  rintro _ w1 ⟨J4, hJ4, rfl, M⟩
  replace M := M.less hJ4 (fun _ _ => rfl)
  refine wl_mv M rfl rfl ?_
  rcases Bool.eq_false_or_eq_true (Lib.validD s.data.toList) with hg5 | hg5
  ·refine wl_m M (q_guard 2 rfl rfl rfl hg5 (q_move rfl)) rfl rfl ?_
   refine wl_e (e_guard 2 rfl rfl rfl hg5 (e_callC M (containsZ_c s M.imm) Tryd.func68 rfl rfl)) rfl rfl ?_
   rintro _ w2 ⟨J7, hJ7, rfl, M⟩
   replace M := M.less hJ7 (fun _ _ => rfl)
   refine wl_m M (q_guard 2 rfl rfl rfl hg5 (q_not rfl)) rfl rfl ?_
   refine wl_m M (q_pickT rfl hg5 rfl) rfl rfl ?_
   refine wl_as M rfl rfl ?_
   refine wl_nil ?_
   exact ⟨(), M, ⟨(show some (Value.bool (!(decide ((0 : Int) ∈ bytesL s)))) = some (Value.bool ((Lib.validD s.data.toList) && (!(decide ((0 : Int) ∈ bytesL s))))) from by first | (simp only [hg5, Bool.true_or, Bool.false_or, Bool.true_and, Bool.false_and, Bool.or_true, Bool.or_false, Bool.and_true, Bool.and_false]; done) | simp_all), trivial⟩, unw_take 8 rfl rfl⟩
  refine wl_m M (q_off 2 rfl rfl rfl hg5) rfl rfl ?_
  refine wl_m M (q_off 2 rfl rfl rfl hg5) rfl rfl ?_
  refine wl_m M (q_off 2 rfl rfl rfl hg5) rfl rfl ?_
  refine wl_m M (q_pickF rfl hg5 rfl) rfl rfl ?_
  refine wl_as M rfl rfl ?_
  refine wl_nil ?_
  exact ⟨(), M, ⟨(show some (Value.bool false) = some (Value.bool ((Lib.validD s.data.toList) && (!(decide ((0 : Int) ∈ bytesL s))))) from by first | (simp only [hg5, Bool.true_or, Bool.false_or, Bool.true_and, Bool.false_and, Bool.or_true, Bool.or_false, Bool.and_true, Bool.and_false]; done) | simp_all), trivial⟩, unw_take 8 rfl rfl⟩
 rintro _ jr1 w3 M
 refine wc_ret ?_
 exact out1 rfl rfl ⟨_, _, rfl, M.grow, rfl⟩
end Go.Proofs.YtoilmeiikgegcaaDoor.G
