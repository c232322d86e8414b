/- math/bits.Len, and the next power of two. -/
import Derived.Test.YtfepjcmjkaolgaaGStr
import Derived.Test.YtfepjcmjkaolgaaProg
import Derived.Shelf.Lays
import Derived.Ground.NamesProg
import Derived.Test.YtfepjcmjkaolgaaGBit
import Derived.Shelf.Sort.So_math_bits_LenIn
import Derived.Sort.EveryDepth
set_option linter.all false
namespace Go.Proofs.Ytfepjcmjkaolgaa.G
open Go Go.RowKit
noncomputable abbrev A := Try.prog
noncomputable def EInt : ET A Int := ET.one1 3 8 (fun n => .int .i64 n) _ Try.underlying3 rfl (.int .i64 0) rfl (by kernel_rfl) (by decide) (fun _ => rfl)
noncomputable def ERune : ET A Int := ET.one1 21 4 (fun n => .int .i32 n) _ Try.underlying21 rfl (.int .i32 0) rfl (by kernel_rfl) (by decide) (fun _ => rfl)
noncomputable def EBool : ET A Bool := ET.one1 4 1 (fun b => .bool b) _ Try.underlying4 rfl (.bool false) rfl (by kernel_rfl) (by decide) (fun _ => rfl)
noncomputable def EStr : ET A ByteArray := ET.one1 9 16 (fun s => .string s) _ Try.underlying9 rfl (.string ⟨#[]⟩) rfl (by kernel_rfl) (by decide) (fun _ => rfl)
noncomputable def EArc : ET A Arc := ET.agg 50 4 24 Arc.cells _ Try.underlying50 rfl (.agg #[.int .i64 0, .int .i64 0, .int .i32 0, .int .i32 0]) rfl (by kernel_rfl) (by decide) (by decide) (fun _ => rfl) (fun x v hv => by simp [Arc.cells] at hv; rcases hv with rfl | rfl | rfl | rfl <;> rfl)
noncomputable def QArc : KT A Arc := KT.ints 50 [.i64, .i64, .i32, .i32] (fun x => [x.src, x.dst, x.inp, x.out]) Arc.cells _ Try.underlying50 (by kernel_rfl) (by kernel_rfl) rfl (fun _ => rfl) (fun _ => rfl) (fun a b h => by cases a; cases b; simpa using h) (fun x => sb_ints _ rfl)
noncomputable def EPlace : ET A Place := ET.agg 82 3 24 Place.cells _ Try.underlying82 rfl (.agg #[.int .i64 0, .int .i64 0, .int .i64 0]) rfl (by kernel_rfl) (by decide) (by decide) (fun _ => rfl) (fun x v hv => by simp [Place.cells] at hv; rcases hv with rfl | rfl | rfl <;> rfl)
noncomputable def QPlace : KT A Place := KT.ints 82 [.i64, .i64, .i64] (fun x => [x.state, x.inn, x.out]) Place.cells _ Try.underlying82 (by kernel_rfl) (by kernel_rfl) rfl (fun _ => rfl) (fun _ => rfl) (fun a b h => by cases a; cases b; simpa using h) (fun x => sb_ints _ rfl)
noncomputable def ETCfg : ET A TCfg := ET.agg 58 2 16 TCfg.cells _ Try.underlying58 rfl (.agg #[.int .i64 0, .int .i64 0]) rfl (by kernel_rfl) (by decide) (by decide) (fun _ => rfl) (fun x v hv => by simp [TCfg.cells] at hv; rcases hv with rfl | rfl <;> rfl)
noncomputable def QTCfg : KT A TCfg := KT.ints 58 [.i64, .i64] (fun x => [x.state, x.pos]) TCfg.cells _ Try.underlying58 (by kernel_rfl) (by kernel_rfl) rfl (fun _ => rfl) (fun _ => rfl) (fun a b h => by cases a; cases b; simpa using h) (fun x => sb_ints _ rfl)
noncomputable def QLbl : KT A Lbl := KT.ints 88 [.i64, .i32] (fun x => [x.src, x.inp]) Lbl.cells _ Try.underlying88 (by kernel_rfl) (by kernel_rfl) rfl (fun _ => rfl) (fun _ => rfl) (fun a b h => by cases a; cases b; simpa using h) (fun x => sb_ints _ rfl)
noncomputable def EMove : ET A Move := ET.agg 68 5 40 Move.cells _ Try.underlying68 rfl (.agg #[.int .i64 0, .int .i64 0, .int .i64 0, .int .i64 0, .int .i32 0]) rfl (by kernel_rfl) (by decide) (by decide) (fun _ => rfl) (fun x v hv => by simp [Move.cells] at hv; rcases hv with rfl | rfl | rfl | rfl | rfl <;> rfl)
noncomputable def QArcE : EqT A Arc := EqT.ints 50 [.i64, .i64, .i32, .i32] (fun x => [x.src, x.dst, x.inp, x.out]) Arc.cells _ Try.underlying50 (by kernel_rfl) (by kernel_rfl) rfl (fun _ => rfl) (fun _ => rfl) (fun a b h => by cases a; cases b; simpa using h) (by kernel_rfl)
noncomputable def ETra : ET A RTra := ET.agg 25 4 64 RTra.cells _ Try.underlying25 rfl (.agg #[.int .i64 0, .int .i64 0, .slice none 0 0, .slice none 0 0]) rfl (by kernel_rfl) (by decide) (by decide) (fun _ => rfl) (fun x v hv => by simp [RTra.cells] at hv; rcases hv with rfl | rfl | rfl | rfl <;> rfl)
noncomputable def QRune : KT A Int := KT.int 21 .i32 Try.underlying21
noncomputable def VInt : ET A SV := ESl 22 3 Try.underlying22 (by kernel_rfl)
noncomputable def VArc : ET A SV := ESl 23 50 Try.underlying23 (by kernel_rfl)
theorem fo_25_0 : fieldOff A 25 0 = some 0 := by kernel_rfl
theorem fo_25_3 : fieldOff A 25 3 = some 3 := by kernel_rfl
theorem fo_25_2 : fieldOff A 25 2 = some 2 := by kernel_rfl
theorem z50 : zeroOf A 50 = some [.int .i64 0, .int .i64 0, .int .i32 0, .int .i32 0] := by kernel_rfl
theorem sz50 : (A.info? 50).map (·.size) = some 4 := by kernel_rfl
theorem fo_50_0 : fieldOff A 50 0 = some 0 := by kernel_rfl
theorem fo_50_1 : fieldOff A 50 1 = some 1 := by kernel_rfl
theorem fo_50_2 : fieldOff A 50 2 = some 2 := by kernel_rfl
theorem fo_50_3 : fieldOff A 50 3 = some 3 := by kernel_rfl
theorem fo_25_1 : fieldOff A 25 1 = some 1 := by kernel_rfl
theorem z23 : zeroOf A 23 = some [.slice none 0 0] := by kernel_rfl
theorem bs_23_1 (a0 a1 a2 a3 : Value) : bldS A 23 1 [(0, [a0, a1, a2, a3])] 50 [a0, a1, a2, a3] := fun w => by kernel_rfl
theorem sz25 : (A.info? 25).map (·.size) = some 4 := by kernel_rfl
theorem bd_82_0 (a0 : Value) : bld A 82 [(0, [a0])] [a0, .int .i64 0, .int .i64 0] := fun w => by kernel_rfl
theorem bs_84_1 (a0 a1 a2 : Value) : bldS A 84 1 [(0, [a0, a1, a2])] 82 [a0, a1, a2] := fun w => by kernel_rfl
theorem z82 : zeroOf A 82 = some [.int .i64 0, .int .i64 0, .int .i64 0] := by kernel_rfl
theorem sz82 : (A.info? 82).map (·.size) = some 3 := by kernel_rfl
theorem fo_82_1 : fieldOff A 82 1 = some 1 := by kernel_rfl
theorem fo_82_2 : fieldOff A 82 2 = some 2 := by kernel_rfl
theorem fo_82_0 : fieldOff A 82 0 = some 0 := by kernel_rfl
theorem bd_82_0_1_2 (a0 a1 a2 : Value) : bld A 82 [(0, [a0]), (1, [a1]), (2, [a2])] [a0, a1, a2] := fun w => by kernel_rfl
theorem sz3 : (A.info? 3).map (·.size) = some 1 := by kernel_rfl
theorem zv4 : zeroV A 4 = some (.bool false) := by kernel_rfl
theorem bs_22_0 : bldS A 22 0 [] 3 [] := fun w => by kernel_rfl
theorem z22 : zeroOf A 22 = some [.slice none 0 0] := by kernel_rfl
theorem bs_22_1 (a0 : Value) : bldS A 22 1 [(0, [a0])] 3 [a0] := fun w => by kernel_rfl
theorem z4 : zeroOf A 4 = some [.bool false] := by kernel_rfl
theorem bs_22_4 (a0 a1 a2 a3 : Value) : bldS A 22 4 [(0, [a0]), (1, [a1]), (2, [a2]), (3, [a3])] 3 [a0, a1, a2, a3] := fun w => by kernel_rfl
theorem z25 : zeroOf A 25 = some [.int .i64 0, .int .i64 0, .slice none 0 0, .slice none 0 0] := by kernel_rfl
theorem bd_25 : bld A 25 [] [.int .i64 0, .int .i64 0, .slice none 0 0, .slice none 0 0] := fun w => by kernel_rfl
theorem bd_25_0 (a0 : Value) : bld A 25 [(0, [a0])] [a0, .int .i64 0, .slice none 0 0, .slice none 0 0] := fun w => by kernel_rfl
theorem z3 : zeroOf A 3 = some [.int .i64 0] := by kernel_rfl
theorem sz22 : (A.info? 22).map (·.size) = some 1 := by kernel_rfl
theorem bd_50_0_1_2_3 (a0 a1 a2 a3 : Value) : bld A 50 [(0, [a0]), (1, [a1]), (2, [a2]), (3, [a3])] [a0, a1, a2, a3] := fun w => by kernel_rfl
theorem sz23 : (A.info? 23).map (·.size) = some 1 := by kernel_rfl
theorem bd_58_0 (a0 : Value) : bld A 58 [(0, [a0])] [a0, .int .i64 0] := fun w => by kernel_rfl
theorem z58 : zeroOf A 58 = some [.int .i64 0, .int .i64 0] := by kernel_rfl
theorem sz58 : (A.info? 58).map (·.size) = some 2 := by kernel_rfl
theorem bs_56_1 (a0 a1 : Value) : bldS A 56 1 [(0, [a0, a1])] 58 [a0, a1] := fun w => by kernel_rfl
theorem fo_58_0 : fieldOff A 58 0 = some 0 := by kernel_rfl
theorem fo_58_1 : fieldOff A 58 1 = some 1 := by kernel_rfl
theorem bd_58_0_1 (a0 a1 : Value) : bld A 58 [(0, [a0]), (1, [a1])] [a0, a1] := fun w => by kernel_rfl
theorem bd_68_0_1_2 (a0 a1 a2 a3 a4 : Value) : bld A 68 [(0, [a0, a1]), (1, [a2, a3]), (2, [a4])] [a0, a1, a2, a3, a4] := fun w => by kernel_rfl
theorem bs_59_1 (a0 a1 a2 a3 a4 : Value) : bldS A 59 1 [(0, [a0, a1, a2, a3, a4])] 68 [a0, a1, a2, a3, a4] := fun w => by kernel_rfl
theorem bs_56_0 : bldS A 56 0 [] 58 [] := fun w => by kernel_rfl
theorem z68 : zeroOf A 68 = some [.int .i64 0, .int .i64 0, .int .i64 0, .int .i64 0, .int .i32 0] := by kernel_rfl
theorem sz68 : (A.info? 68).map (·.size) = some 5 := by kernel_rfl
theorem fo_68_1 : fieldOff A 68 1 = some 2 := by kernel_rfl
theorem zv59 : zeroV A 59 = some (.slice none 0 0) := by kernel_rfl
theorem zv3 : zeroV A 3 = some (.int .i64 0) := by kernel_rfl
theorem fo_68_2 : fieldOff A 68 2 = some 4 := by kernel_rfl
theorem fo_68_0 : fieldOff A 68 0 = some 0 := by kernel_rfl
theorem fo_66_1 : fieldOff A 66 1 = some 1 := by kernel_rfl
theorem fo_66_2 : fieldOff A 66 2 = some 2 := by kernel_rfl
theorem fo_66_0 : fieldOff A 66 0 = some 0 := by kernel_rfl
theorem bs_40_0 : bldS A 40 0 [] 21 [] := fun w => by kernel_rfl
theorem fo_72_1 : fieldOff A 72 1 = some 1 := by kernel_rfl
theorem fo_72_0 : fieldOff A 72 0 = some 0 := by kernel_rfl
theorem bs_40_1 (a0 : Value) : bldS A 40 1 [(0, [a0])] 21 [a0] := fun w => by kernel_rfl
theorem zv56 : zeroV A 56 = some (.slice none 0 0) := by kernel_rfl
theorem bd_72_0_1 (a0 a1 : Value) : bld A 72 [(0, [a0]), (1, [a1])] [a0, a1] := fun w => by kernel_rfl
theorem bs_75_1 (a0 a1 : Value) : bldS A 75 1 [(0, [a0, a1])] 72 [a0, a1] := fun w => by kernel_rfl
theorem bd_66_0_1_2 (a0 a1 a2 : Value) : bld A 66 [(0, [a0]), (1, [a1]), (2, [a2])] [a0, a1, a2] := fun w => by kernel_rfl
theorem z72 : zeroOf A 72 = some [.slice none 0 0, .map none] := by kernel_rfl
theorem sz72 : (A.info? 72).map (·.size) = some 2 := by kernel_rfl
theorem bs_30_1 (a0 : Value) : bldS A 30 1 [(0, [a0])] 9 [a0] := fun w => by kernel_rfl
theorem bd_88_0_1 (a0 a1 : Value) : bld A 88 [(0, [a0]), (1, [a1])] [a0, a1] := fun w => by kernel_rfl
theorem z88 : zeroOf A 88 = some [.int .i64 0, .int .i32 0] := by kernel_rfl
theorem sz88 : (A.info? 88).map (·.size) = some 2 := by kernel_rfl
theorem bs_23_2 (a0 a1 a2 a3 a4 a5 a6 a7 : Value) : bldS A 23 2 [(0, [a0, a1, a2, a3]), (1, [a4, a5, a6, a7])] 50 [a0, a1, a2, a3, a4, a5, a6, a7] := fun w => by kernel_rfl
theorem bd_25_0_2_3 (a0 a1 a2 : Value) : bld A 25 [(0, [a0]), (2, [a1]), (3, [a2])] [a0, .int .i64 0, a1, a2] := fun w => by kernel_rfl
theorem sz135 : (A.info? 135).map (·.size) = some 1 := by kernel_rfl
theorem z135 : zeroOf A 135 = some [.int .u64 0] := by kernel_rfl
theorem fol : A.follows .mixedOrders = true := by kernel_rfl
end Go.Proofs.Ytfepjcmjkaolgaa.G

namespace Go.Proofs
open Go.Shelf
def Try.bitsLen_ren : Go.Shelf.Ren := ⟨fun | 125 => 72 | 128 => 88 | 129 => 89 | n => n, fun | 46 => 118 | 3 => 3 | 51 => 130 | 53 => 132 | 4 => 4 | 5 => 5 | 9 => 9 | n => n, fun | n => n⟩
theorem Try.bitsLen : Go.Proofs.Lays.n125 Try.prog Try.bitsLen_ren := {
  mixed := by kernel_rfl
  f125 := Try.func72.trans (congrArg some (by kernel_rfl))
  f128 := Try.func88.trans (congrArg some (by kernel_rfl))
  f129 := Try.func89.trans (congrArg some (by kernel_rfl))
  t3 := Try.underlying3
  a3 := Try.isAgg3
  z3 := Try.sizeOf3
  v3 := Try.zeroValue3
  t4 := Try.underlying4
  a4 := Try.isAgg4
  z4 := Try.sizeOf4
  v4 := Try.zeroValue4
  t5 := Try.underlying5
  a5 := Try.isAgg5
  z5 := Try.sizeOf5
  v5 := Try.zeroValue5
  t9 := Try.underlying9
  a9 := Try.isAgg9
  z9 := Try.sizeOf9
  v9 := Try.zeroValue9
  t46 := Try.underlying118
  a46 := Try.isAgg118
  z46 := Try.sizeOf118
  v46 := Try.zeroValue118
  t51 := Try.underlying130
  a51 := Try.isAgg130
  z51 := Try.sizeOf130
  v51 := Try.zeroValue130
  t53 := Try.underlying132
  a53 := Try.isAgg132
  z53 := Try.sizeOf132
  v53 := Try.zeroValue132 }
end Go.Proofs

set_option linter.all false
namespace Go.Proofs.Ytfepjcmjkaolgaa.G
open Go Go.RowKit Go.Shelf
theorem bitsLenQ_c (x : Int) {I : Heap} {w : World} (hI : hle I (hp w)) (h0 : 0 ≤ x) (h1 : x ≤ 18446744073709551615) : Calls A 72 #[.int .u64 x] w (Ret w I fun r _ => r = .int .i64 (Lib.bitLen x.toNat)) :=
  (calls_of_every_depth fun D => AnyS.bits_LenIn Try.bitsLen D x w h0 h1).mono fun e w' h => ⟨_, I, h.1, by rw [h.2]; exact Grow.refl hI, rfl⟩
theorem bitLen_pow : ∀ x : Nat, 1 ≤ x → x < 2 ^ 64 → 2 ^ Lib.bitLen x ≤ 2 * x := fun x => by
  induction x using Nat.strongRecOn with
  | ind x ih =>
    intro h1 h2
    rw [Lib.bitLen_half x (by omega) h2, Nat.pow_add]
    by_cases h : x = 1
    · subst h; decide
    · have := ih (x / 2) (by omega) (by omega) (by omega)
      omega
theorem shl_one {x : Int} (h1 : 1 ≤ x) (h2 : x ≤ 1099511627776) : 1 ≤ shlK .u64 1 (Lib.bitLen x.toNat : Int) ∧ shlK .u64 1 (Lib.bitLen x.toNat : Int) ≤ 2 * x := by
  have hp := bitLen_pow x.toNat (by omega) (by omega)
  have hl : Lib.bitLen x.toNat ≤ 64 := Lib.bitLen_le _ 64 (Nat.le_refl _) (by omega)
  have e : min ((Lib.bitLen x.toNat : Int)).toNat IntKind.u64.bits = Lib.bitLen x.toNat := by
    rw [Int.toNat_natCast]; exact Nat.min_eq_left hl
  have hpos : 0 < 2 ^ Lib.bitLen x.toNat := Nat.pow_pos (by decide)
  have hc : ((2 : Int) ^ Lib.bitLen x.toNat) = ((2 ^ Lib.bitLen x.toNat : Nat) : Int) := by norm_cast
  unfold shlK
  rw [e, Int.one_mul, hc, IntWalk.u64_in _ (by omega)]
  omega
end Go.Proofs.Ytfepjcmjkaolgaa.G
