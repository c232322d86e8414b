/- The numbers of this seat: element types, key types, facts of the types. -/
import Derived.Test.YtfepjcmjkaolgaaGStr
import Derived.Test.YtfepjcmjkaolgaaProg
set_option linter.all false
namespace Go.Proofs.Ytfepjcmjkaolgaa.G
open Go Go.RowKit
noncomputable abbrev A := Try.prog
noncomputable def EInt : ET A Int := ET.one1 3 8 (fun n => .int .i64 n) _ Try.underlying3 rfl (.int .i64 0) rfl (by kernel_rfl) (by decide) (fun _ => rfl)
noncomputable def ERune : ET A Int := ET.one1 21 4 (fun n => .int .i32 n) _ Try.underlying21 rfl (.int .i32 0) rfl (by kernel_rfl) (by decide) (fun _ => rfl)
noncomputable def EByte : ET A Int := ET.one1 5 1 (fun n => .int .u8 n) _ Try.underlying5 rfl (.int .u8 0) rfl (by kernel_rfl) (by decide) (fun _ => rfl)
noncomputable def EBool : ET A Bool := ET.one1 4 1 (fun b => .bool b) _ Try.underlying4 rfl (.bool false) rfl (by kernel_rfl) (by decide) (fun _ => rfl)
noncomputable def EStr : ET A ByteArray := ET.one1 9 16 (fun s => .string s) _ Try.underlying9 rfl (.string ⟨#[]⟩) rfl (by kernel_rfl) (by decide) (fun _ => rfl)
noncomputable def EArc : ET A Arc := ET.agg 50 4 24 Arc.cells _ Try.underlying50 rfl (.agg #[.int .i64 0, .int .i64 0, .int .i32 0, .int .i32 0]) rfl (by kernel_rfl) (by decide) (by decide) (fun _ => rfl) (fun x v hv => by simp [Arc.cells] at hv; rcases hv with rfl | rfl | rfl | rfl <;> rfl)
noncomputable def QArc : KT A Arc := KT.ints 50 [.i64, .i64, .i32, .i32] (fun x => [x.src, x.dst, x.inp, x.out]) Arc.cells _ Try.underlying50 (by kernel_rfl) (by kernel_rfl) rfl (fun _ => rfl) (fun _ => rfl) (fun a b h => by cases a; cases b; simpa using h) (fun x => sb_ints _ rfl)
noncomputable def EPlace : ET A Place := ET.agg 82 3 24 Place.cells _ Try.underlying82 rfl (.agg #[.int .i64 0, .int .i64 0, .int .i64 0]) rfl (by kernel_rfl) (by decide) (by decide) (fun _ => rfl) (fun x v hv => by simp [Place.cells] at hv; rcases hv with rfl | rfl | rfl <;> rfl)
noncomputable def QPlace : KT A Place := KT.ints 82 [.i64, .i64, .i64] (fun x => [x.state, x.inn, x.out]) Place.cells _ Try.underlying82 (by kernel_rfl) (by kernel_rfl) rfl (fun _ => rfl) (fun _ => rfl) (fun a b h => by cases a; cases b; simpa using h) (fun x => sb_ints _ rfl)
noncomputable def ETCfg : ET A TCfg := ET.agg 58 2 16 TCfg.cells _ Try.underlying58 rfl (.agg #[.int .i64 0, .int .i64 0]) rfl (by kernel_rfl) (by decide) (by decide) (fun _ => rfl) (fun x v hv => by simp [TCfg.cells] at hv; rcases hv with rfl | rfl <;> rfl)
noncomputable def QTCfg : KT A TCfg := KT.ints 58 [.i64, .i64] (fun x => [x.state, x.pos]) TCfg.cells _ Try.underlying58 (by kernel_rfl) (by kernel_rfl) rfl (fun _ => rfl) (fun _ => rfl) (fun a b h => by cases a; cases b; simpa using h) (fun x => sb_ints _ rfl)
noncomputable def ELbl : ET A Lbl := ET.agg 88 2 16 Lbl.cells _ Try.underlying88 rfl (.agg #[.int .i64 0, .int .i32 0]) rfl (by kernel_rfl) (by decide) (by decide) (fun _ => rfl) (fun x v hv => by simp [Lbl.cells] at hv; rcases hv with rfl | rfl <;> rfl)
noncomputable def QLbl : KT A Lbl := KT.ints 88 [.i64, .i32] (fun x => [x.src, x.inp]) Lbl.cells _ Try.underlying88 (by kernel_rfl) (by kernel_rfl) rfl (fun _ => rfl) (fun _ => rfl) (fun a b h => by cases a; cases b; simpa using h) (fun x => sb_ints _ rfl)
noncomputable def EMove : ET A Move := ET.agg 68 5 40 Move.cells _ Try.underlying68 rfl (.agg #[.int .i64 0, .int .i64 0, .int .i64 0, .int .i64 0, .int .i32 0]) rfl (by kernel_rfl) (by decide) (by decide) (fun _ => rfl) (fun x v hv => by simp [Move.cells] at hv; rcases hv with rfl | rfl | rfl | rfl | rfl <;> rfl)
noncomputable def QArcE : EqT A Arc := EqT.ints 50 [.i64, .i64, .i32, .i32] (fun x => [x.src, x.dst, x.inp, x.out]) Arc.cells _ Try.underlying50 (by kernel_rfl) (by kernel_rfl) rfl (fun _ => rfl) (fun _ => rfl) (fun a b h => by cases a; cases b; simpa using h) (by kernel_rfl)
noncomputable def QPlaceE : EqT A Place := EqT.ints 82 [.i64, .i64, .i64] (fun x => [x.state, x.inn, x.out]) Place.cells _ Try.underlying82 (by kernel_rfl) (by kernel_rfl) rfl (fun _ => rfl) (fun _ => rfl) (fun a b h => by cases a; cases b; simpa using h) (by kernel_rfl)
noncomputable def QTCfgE : EqT A TCfg := EqT.ints 58 [.i64, .i64] (fun x => [x.state, x.pos]) TCfg.cells _ Try.underlying58 (by kernel_rfl) (by kernel_rfl) rfl (fun _ => rfl) (fun _ => rfl) (fun a b h => by cases a; cases b; simpa using h) (by kernel_rfl)
noncomputable def QLblE : EqT A Lbl := EqT.ints 88 [.i64, .i32] (fun x => [x.src, x.inp]) Lbl.cells _ Try.underlying88 (by kernel_rfl) (by kernel_rfl) rfl (fun _ => rfl) (fun _ => rfl) (fun a b h => by cases a; cases b; simpa using h) (by kernel_rfl)
noncomputable def ETra : ET A RTra := ET.agg 25 4 64 RTra.cells _ Try.underlying25 rfl (.agg #[.int .i64 0, .int .i64 0, .slice none 0 0, .slice none 0 0]) rfl (by kernel_rfl) (by decide) (by decide) (fun _ => rfl) (fun x v hv => by simp [RTra.cells] at hv; rcases hv with rfl | rfl | rfl | rfl <;> rfl)
noncomputable def QRune : KT A Int := KT.int 21 .i32 Try.underlying21
noncomputable def QInt : KT A Int := KT.int 3 .i64 Try.underlying3
noncomputable def VInt : ET A SV := ESl 22 3 Try.underlying22 (by kernel_rfl)
noncomputable def VRune : ET A SV := ESl 40 21 Try.underlying40 (by kernel_rfl)
noncomputable def VBool : ET A SV := ESl 89 4 Try.underlying89 (by kernel_rfl)
noncomputable def VStr : ET A SV := ESl 30 9 Try.underlying30 (by kernel_rfl)
noncomputable def VArc : ET A SV := ESl 23 50 Try.underlying23 (by kernel_rfl)
noncomputable def VPlace : ET A SV := ESl 84 82 Try.underlying84 (by kernel_rfl)
noncomputable def VTCfg : ET A SV := ESl 56 58 Try.underlying56 (by kernel_rfl)
noncomputable def VMove : ET A SV := ESl 59 68 Try.underlying59 (by kernel_rfl)
theorem fo_25_0 : fieldOff A 25 0 = some 0 := by kernel_rfl
theorem fo_25_3 : fieldOff A 25 3 = some 3 := by kernel_rfl
theorem fo_25_2 : fieldOff A 25 2 = some 2 := by kernel_rfl
theorem z50 : zeroOf A 50 = some [.int .i64 0, .int .i64 0, .int .i32 0, .int .i32 0] := by kernel_rfl
theorem sz50 : (A.info? 50).map (·.size) = some 4 := by kernel_rfl
theorem fo_50_0 : fieldOff A 50 0 = some 0 := by kernel_rfl
theorem fo_50_1 : fieldOff A 50 1 = some 1 := by kernel_rfl
theorem fo_50_2 : fieldOff A 50 2 = some 2 := by kernel_rfl
theorem fo_50_3 : fieldOff A 50 3 = some 3 := by kernel_rfl
theorem fo_25_1 : fieldOff A 25 1 = some 1 := by kernel_rfl
theorem z23 : zeroOf A 23 = some [.slice none 0 0] := by kernel_rfl
theorem bs_23_1 (a0 a1 a2 a3 : Value) : bldS A 23 1 [(0, [a0, a1, a2, a3])] 50 [a0, a1, a2, a3] := fun w => by kernel_rfl
theorem sz25 : (A.info? 25).map (·.size) = some 4 := by kernel_rfl
theorem bd_82_0 (a0 : Value) : bld A 82 [(0, [a0])] [a0, .int .i64 0, .int .i64 0] := fun w => by kernel_rfl
theorem bs_84_1 (a0 a1 a2 : Value) : bldS A 84 1 [(0, [a0, a1, a2])] 82 [a0, a1, a2] := fun w => by kernel_rfl
theorem z82 : zeroOf A 82 = some [.int .i64 0, .int .i64 0, .int .i64 0] := by kernel_rfl
theorem sz82 : (A.info? 82).map (·.size) = some 3 := by kernel_rfl
theorem fo_82_1 : fieldOff A 82 1 = some 1 := by kernel_rfl
theorem fo_82_2 : fieldOff A 82 2 = some 2 := by kernel_rfl
theorem fo_82_0 : fieldOff A 82 0 = some 0 := by kernel_rfl
theorem bd_82_0_1_2 (a0 a1 a2 : Value) : bld A 82 [(0, [a0]), (1, [a1]), (2, [a2])] [a0, a1, a2] := fun w => by kernel_rfl
theorem sz3 : (A.info? 3).map (·.size) = some 1 := by kernel_rfl
theorem zv4 : zeroV A 4 = some (.bool false) := by kernel_rfl
theorem bs_22_0 : bldS A 22 0 [] 3 [] := fun w => by kernel_rfl
theorem z22 : zeroOf A 22 = some [.slice none 0 0] := by kernel_rfl
theorem bs_22_1 (a0 : Value) : bldS A 22 1 [(0, [a0])] 3 [a0] := fun w => by kernel_rfl
theorem z4 : zeroOf A 4 = some [.bool false] := by kernel_rfl
theorem bs_22_4 (a0 a1 a2 a3 : Value) : bldS A 22 4 [(0, [a0]), (1, [a1]), (2, [a2]), (3, [a3])] 3 [a0, a1, a2, a3] := fun w => by kernel_rfl
theorem z25 : zeroOf A 25 = some [.int .i64 0, .int .i64 0, .slice none 0 0, .slice none 0 0] := by kernel_rfl
theorem bd_25 : bld A 25 [] [.int .i64 0, .int .i64 0, .slice none 0 0, .slice none 0 0] := fun w => by kernel_rfl
theorem bd_25_0 (a0 : Value) : bld A 25 [(0, [a0])] [a0, .int .i64 0, .slice none 0 0, .slice none 0 0] := fun w => by kernel_rfl
theorem z3 : zeroOf A 3 = some [.int .i64 0] := by kernel_rfl
theorem sz22 : (A.info? 22).map (·.size) = some 1 := by kernel_rfl
theorem bd_50_0_1_2_3 (a0 a1 a2 a3 : Value) : bld A 50 [(0, [a0]), (1, [a1]), (2, [a2]), (3, [a3])] [a0, a1, a2, a3] := fun w => by kernel_rfl
theorem sz23 : (A.info? 23).map (·.size) = some 1 := by kernel_rfl
theorem bd_58_0 (a0 : Value) : bld A 58 [(0, [a0])] [a0, .int .i64 0] := fun w => by kernel_rfl
theorem z58 : zeroOf A 58 = some [.int .i64 0, .int .i64 0] := by kernel_rfl
theorem sz58 : (A.info? 58).map (·.size) = some 2 := by kernel_rfl
theorem bs_56_1 (a0 a1 : Value) : bldS A 56 1 [(0, [a0, a1])] 58 [a0, a1] := fun w => by kernel_rfl
theorem fo_58_0 : fieldOff A 58 0 = some 0 := by kernel_rfl
theorem fo_58_1 : fieldOff A 58 1 = some 1 := by kernel_rfl
theorem bd_58_0_1 (a0 a1 : Value) : bld A 58 [(0, [a0]), (1, [a1])] [a0, a1] := fun w => by kernel_rfl
theorem bd_68_0_1_2 (a0 a1 a2 a3 a4 : Value) : bld A 68 [(0, [a0, a1]), (1, [a2, a3]), (2, [a4])] [a0, a1, a2, a3, a4] := fun w => by kernel_rfl
theorem bs_59_1 (a0 a1 a2 a3 a4 : Value) : bldS A 59 1 [(0, [a0, a1, a2, a3, a4])] 68 [a0, a1, a2, a3, a4] := fun w => by kernel_rfl
theorem bs_56_0 : bldS A 56 0 [] 58 [] := fun w => by kernel_rfl
theorem z68 : zeroOf A 68 = some [.int .i64 0, .int .i64 0, .int .i64 0, .int .i64 0, .int .i32 0] := by kernel_rfl
theorem sz68 : (A.info? 68).map (·.size) = some 5 := by kernel_rfl
theorem fo_68_1 : fieldOff A 68 1 = some 2 := by kernel_rfl
theorem zv59 : zeroV A 59 = some (.slice none 0 0) := by kernel_rfl
theorem zv3 : zeroV A 3 = some (.int .i64 0) := by kernel_rfl
theorem fo_68_2 : fieldOff A 68 2 = some 4 := by kernel_rfl
theorem fo_68_0 : fieldOff A 68 0 = some 0 := by kernel_rfl
theorem fo_66_1 : fieldOff A 66 1 = some 1 := by kernel_rfl
theorem fo_66_2 : fieldOff A 66 2 = some 2 := by kernel_rfl
theorem fo_66_0 : fieldOff A 66 0 = some 0 := by kernel_rfl
theorem bs_40_0 : bldS A 40 0 [] 21 [] := fun w => by kernel_rfl
theorem fo_72_1 : fieldOff A 72 1 = some 1 := by kernel_rfl
theorem fo_72_0 : fieldOff A 72 0 = some 0 := by kernel_rfl
theorem bs_40_1 (a0 : Value) : bldS A 40 1 [(0, [a0])] 21 [a0] := fun w => by kernel_rfl
theorem zv56 : zeroV A 56 = some (.slice none 0 0) := by kernel_rfl
theorem bd_72_0_1 (a0 a1 : Value) : bld A 72 [(0, [a0]), (1, [a1])] [a0, a1] := fun w => by kernel_rfl
theorem bs_75_1 (a0 a1 : Value) : bldS A 75 1 [(0, [a0, a1])] 72 [a0, a1] := fun w => by kernel_rfl
theorem bd_66_0_1_2 (a0 a1 a2 : Value) : bld A 66 [(0, [a0]), (1, [a1]), (2, [a2])] [a0, a1, a2] := fun w => by kernel_rfl
theorem z72 : zeroOf A 72 = some [.slice none 0 0, .map none] := by kernel_rfl
theorem sz72 : (A.info? 72).map (·.size) = some 2 := by kernel_rfl
theorem bs_30_1 (a0 : Value) : bldS A 30 1 [(0, [a0])] 9 [a0] := fun w => by kernel_rfl
theorem bd_88_0_1 (a0 a1 : Value) : bld A 88 [(0, [a0]), (1, [a1])] [a0, a1] := fun w => by kernel_rfl
theorem z88 : zeroOf A 88 = some [.int .i64 0, .int .i32 0] := by kernel_rfl
theorem sz88 : (A.info? 88).map (·.size) = some 2 := by kernel_rfl
theorem bs_23_2 (a0 a1 a2 a3 a4 a5 a6 a7 : Value) : bldS A 23 2 [(0, [a0, a1, a2, a3]), (1, [a4, a5, a6, a7])] 50 [a0, a1, a2, a3, a4, a5, a6, a7] := fun w => by kernel_rfl
theorem bd_25_0_2_3 (a0 a1 a2 : Value) : bld A 25 [(0, [a0]), (2, [a1]), (3, [a2])] [a0, .int .i64 0, a1, a2] := fun w => by kernel_rfl
theorem bs_89_0 : bldS A 89 0 [] 4 [] := fun w => by kernel_rfl
theorem bs_23_0 : bldS A 23 0 [] 50 [] := fun w => by kernel_rfl
theorem fol : A.follows .mixedOrders = true := by kernel_rfl
end Go.Proofs.Ytfepjcmjkaolgaa.G
