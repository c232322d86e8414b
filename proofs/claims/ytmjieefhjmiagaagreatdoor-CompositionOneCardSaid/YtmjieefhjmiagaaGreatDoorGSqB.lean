/- slices.Sort, slices.Collect, slices.Sorted at runes: at most twelve of them. -/
import Derived.Test.YtmjieefhjmiagaaGreatDoorGSqA
import Derived.Test.YtmjieefhjmiagaaGreatDoorWSq
import Derived.Test.YtmjieefhjmiagaaGreatDoorGLayB
import Derived.Shelf.Sort.So_math_bits_LenIn
import Derived.Sort.EveryDepth
set_option linter.all false
namespace Go.Proofs.YtmjieefhjmiagaaGreatDoor.G
open Go Go.RowKit Go.Shelf
theorem q_cvII {P : Program} {n : Nat} {ops : Array Oper} {S : World → Prop} {e : Env} {dst : Option Tmp} {ty : TypeId} {pos : String} {af : Array Go.Edge} {src d : TypeId} {x : Operand} {k k' : IntKind} {r r' : Int} (hs : (P.underlying src).isSome = true) (hd : P.underlying d = some (.int k')) (hw : k'.wrap r = r') (hx : evo e x = some (.int k r)) : Quiet P n ops S ⟨dst, .convert src d x, ty, pos, af, none⟩ e (.int k' r') := by
  replace hx := ev_of hx
  have hk : P.intKind d = k' := by simp [Program.intKind, hd]
  refine q_of rfl fun w _ => ?_
  have := run_convert_int (P := P) w src d k r hs (by rw [hk]; exact hd)
  simp only [execOp, hx, Sem.run_bind, this, Result.andThen_ok, Sem.run_pure, hk, hw]
theorem bitsLen_c (x : Int) (w : World) (h0 : 0 ≤ x) (h1 : x ≤ 18446744073709551615) : Calls A 91 #[.int .u64 x] w fun e w' => ∃ v, e = .returned v ∧ (v = .int .i64 (Lib.bitLen x.toNat) ∧ w' = w) :=
  (calls_of_every_depth fun D => AnyS.bits_LenIn Tryz.bitsLen D x w h0 h1).mono fun e w' h => ⟨_, h.1, rfl, h.2⟩
theorem sortR_c {u : SV} {xs : List Int} {w0 w : World} {I0 I : Heap} {Lt : List Res} (hl : xs.length ≤ 12) (M : Mem w0 I0 I (row ERune (sv u) xs :: Lt) w) :
    Calls A 99 #[sv u] w fun e w' => ∃ v, e = .returned v ∧ ∃ ys : List Int, (ys.Perm xs ∧ ys.Pairwise (· ≤ ·)) ∧ Mem w0 I0 I (row ERune (sv u) ys :: Lt) w' := by
  refine enter Tryz.func99 rfl 11 Tryz.ntmps99 [_] rfl ?_
  refine wc_seq ?_
  refine wc_region ?_
  refine wl_mv M rfl rfl ?_
  refine wl_m M (q_lenr 0 M rfl Tryz.underlying29 rfl) rfl rfl ?_
  refine wl_as M rfl rfl ?_
  refine wl_nil ?_
  refine wc_region ?_
  refine wl_mv M rfl rfl ?_
  refine wl_mv M rfl rfl ?_
  refine wl_mv M rfl rfl ?_
  refine wl_m M (q_cvII (k' := .u64) (r' := (xs.length : Int)) (by rw [Tryz.underlying3]; rfl) Tryz.underlying175 (IntWalk.u64_in _ (by omega)) rfl) rfl rfl ?_
  refine wl_e (e_callR Tryz.func91 rfl (vs := [.int .u64 (xs.length : Int)]) rfl (bitsLen_c _ _ (by omega) (by omega))) rfl rfl ?_
  rintro _ w1 ⟨rfl, rfl⟩
  refine wl_e (e_callR Tryz.func132 rfl (vs := [sv u, .int .i64 0, .int .i64 (xs.length : Int), _]) rfl (pdqR_c hl _ M)) rfl rfl ?_
  rintro _ w2 ⟨ys, hys, M⟩
  refine wl_nil ?_
  exact out0 rfl ⟨_, rfl, ys, hys, M⟩
theorem collectR_c {w0 w : World} {I0 I : Heap} {Lt : List Res} {gf : FuncId} {lb : Array Value} {S : List Int → Prop} {N : Nat} (hN : (N + 1) * 4 ≤ 140737488355328) (eg : ∀ args w, (callFunc gf args).run A w = .ok (.enter gf args) w)
    (hit : Gives A gf lb (Value.int .i32) S N w0 I0 I) (M : Mem w0 I0 I Lt w) : Calls A 98 #[.func (.func gf) #[] lb] w fun e w' => ∃ v, e = .returned v ∧ ∃ (u : SV) (xs : List Int), v = sv u ∧ S xs ∧ Mem w0 I0 I (row ERune (sv u) xs :: Lt) w' := by
  refine enter Tryz.func98 rfl 5 Tryz.ntmps98 [_] rfl ?_
  refine wc_seq ?_
  refine wc_region ?_
  refine wl_as M rfl rfl ?_
  refine wl_nil ?_
  refine wc_seq ?_
  refine wc_region ?_
  refine wl_mv M rfl rfl ?_
  refine wl_e (e_callR (Post := fun v w' => ∃ (u : SV) (xs : List Int), v = sv u ∧ S xs ∧ Mem w0 I0 I (row ERune (sv u) xs :: Lt) w') Tryz.func131 rfl (vs := [.slice none 0 0, .func (.func gf) #[] lb]) rfl ((appendSeq_c hN eg hit M).mono fun e w' h => by obtain ⟨u, xs, rfl, h⟩ := h; exact ⟨_, rfl, u, xs, rfl, h⟩)) rfl rfl ?_
  rintro _ w1 ⟨u, xs, rfl, hS, M⟩
  refine wl_as M rfl rfl ?_
  refine wl_nil ?_
  refine wc_ret ?_
  exact out1 rfl rfl ⟨_, rfl, u, xs, rfl, hS, M⟩
theorem sortedR_c {w0 w : World} {I0 I : Heap} {Lt : List Res} {gf : FuncId} {lb : Array Value} {S : List Int → Prop} {N : Nat} (hN : (N + 1) * 4 ≤ 140737488355328) (hS12 : ∀ xs, S xs → xs.length ≤ 12) (eg : ∀ args w, (callFunc gf args).run A w = .ok (.enter gf args) w)
    (hit : Gives A gf lb (Value.int .i32) S N w0 I0 I) (M : Mem w0 I0 I Lt w) : Calls A 65 #[.func (.func gf) #[] lb] w fun e w' => ∃ v, e = .returned v ∧ ∃ (u : SV) (xs ys : List Int), v = sv u ∧ S xs ∧ (ys.Perm xs ∧ ys.Pairwise (· ≤ ·)) ∧ Mem w0 I0 I (row ERune (sv u) ys :: Lt) w' := by
  refine enter Tryz.func65 rfl 9 Tryz.ntmps65 [_] rfl ?_
  refine wc_seq ?_
  refine wc_region ?_
  refine wl_as M rfl rfl ?_
  refine wl_nil ?_
  refine wc_seq ?_
  refine wc_region ?_
  refine wl_mv M rfl rfl ?_
  refine wl_e (e_callR Tryz.func98 rfl (vs := [.func (.func gf) #[] lb]) rfl (collectR_c hN eg hit M)) rfl rfl ?_
  rintro _ w1 ⟨u, xs, rfl, hS, M⟩
  refine wl_as M rfl rfl ?_
  refine wl_nil ?_
  refine wc_seq ?_
  refine wc_region ?_
  refine wl_mv M rfl rfl ?_
  refine wl_e (e_callR Tryz.func99 rfl (vs := [sv u]) rfl (sortR_c (hS12 xs hS) M)) rfl rfl ?_
  rintro _ w2 ⟨ys, hys, M⟩
  refine wl_nil ?_
  refine wc_seq ?_
  refine wc_region ?_
  refine wl_mv M rfl rfl ?_
  refine wl_as M rfl rfl ?_
  refine wl_nil ?_
  refine wc_ret ?_
  exact out1 rfl rfl ⟨_, rfl, u, xs, ys, rfl, hS, hys, M⟩
end Go.Proofs.YtmjieefhjmiagaaGreatDoor.G
