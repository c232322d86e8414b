/- The numbers of this seat: element types, key types, facts of the types. -/
import Derived.Test.YtfepjcmjkaolgaaDoorGStr
import Derived.Test.YtfepjcmjkaolgaaDoorProg
set_option linter.all false
namespace Go.Proofs.YtfepjcmjkaolgaaDoor.G
open Go Go.RowKit
noncomputable abbrev A := Tryd.prog
noncomputable def EInt : ET A Int := ET.one1 3 8 (fun n => .int .i64 n) _ Tryd.underlying3 rfl (.int .i64 0) rfl (by kernel_rfl) (by decide) (fun _ => rfl)
noncomputable def ERune : ET A Int := ET.one1 21 4 (fun n => .int .i32 n) _ Tryd.underlying21 rfl (.int .i32 0) rfl (by kernel_rfl) (by decide) (fun _ => rfl)
noncomputable def EByte : ET A Int := ET.one1 5 1 (fun n => .int .u8 n) _ Tryd.underlying5 rfl (.int .u8 0) rfl (by kernel_rfl) (by decide) (fun _ => rfl)
noncomputable def EBool : ET A Bool := ET.one1 4 1 (fun b => .bool b) _ Tryd.underlying4 rfl (.bool false) rfl (by kernel_rfl) (by decide) (fun _ => rfl)
noncomputable def EStr : ET A ByteArray := ET.one1 9 16 (fun s => .string s) _ Tryd.underlying9 rfl (.string ⟨#[]⟩) rfl (by kernel_rfl) (by decide) (fun _ => rfl)
noncomputable def EArc : ET A Arc := ET.agg 30 4 24 Arc.cells _ Tryd.underlying30 rfl (.agg #[.int .i64 0, .int .i64 0, .int .i32 0, .int .i32 0]) rfl (by kernel_rfl) (by decide) (by decide) (fun _ => rfl) (fun x v hv => by simp [Arc.cells] at hv; rcases hv with rfl | rfl | rfl | rfl <;> rfl)
noncomputable def QArc : KT A Arc := KT.ints 30 [.i64, .i64, .i32, .i32] (fun x => [x.src, x.dst, x.inp, x.out]) Arc.cells _ Tryd.underlying30 (by kernel_rfl) (by kernel_rfl) rfl (fun _ => rfl) (fun _ => rfl) (fun a b h => by cases a; cases b; simpa using h) (fun x => sb_ints _ rfl)
noncomputable def EPlace : ET A Place := ET.agg 49 3 24 Place.cells _ Tryd.underlying49 rfl (.agg #[.int .i64 0, .int .i64 0, .int .i64 0]) rfl (by kernel_rfl) (by decide) (by decide) (fun _ => rfl) (fun x v hv => by simp [Place.cells] at hv; rcases hv with rfl | rfl | rfl <;> rfl)
noncomputable def QPlace : KT A Place := KT.ints 49 [.i64, .i64, .i64] (fun x => [x.state, x.inn, x.out]) Place.cells _ Tryd.underlying49 (by kernel_rfl) (by kernel_rfl) rfl (fun _ => rfl) (fun _ => rfl) (fun a b h => by cases a; cases b; simpa using h) (fun x => sb_ints _ rfl)
noncomputable def ETCfg : ET A TCfg := ET.agg 58 2 16 TCfg.cells _ Tryd.underlying58 rfl (.agg #[.int .i64 0, .int .i64 0]) rfl (by kernel_rfl) (by decide) (by decide) (fun _ => rfl) (fun x v hv => by simp [TCfg.cells] at hv; rcases hv with rfl | rfl <;> rfl)
noncomputable def QTCfg : KT A TCfg := KT.ints 58 [.i64, .i64] (fun x => [x.state, x.pos]) TCfg.cells _ Tryd.underlying58 (by kernel_rfl) (by kernel_rfl) rfl (fun _ => rfl) (fun _ => rfl) (fun a b h => by cases a; cases b; simpa using h) (fun x => sb_ints _ rfl)
noncomputable def ELbl : ET A Lbl := ET.agg 85 2 16 Lbl.cells _ Tryd.underlying85 rfl (.agg #[.int .i64 0, .int .i32 0]) rfl (by kernel_rfl) (by decide) (by decide) (fun _ => rfl) (fun x v hv => by simp [Lbl.cells] at hv; rcases hv with rfl | rfl <;> rfl)
noncomputable def QLbl : KT A Lbl := KT.ints 85 [.i64, .i32] (fun x => [x.src, x.inp]) Lbl.cells _ Tryd.underlying85 (by kernel_rfl) (by kernel_rfl) rfl (fun _ => rfl) (fun _ => rfl) (fun a b h => by cases a; cases b; simpa using h) (fun x => sb_ints _ rfl)
noncomputable def EMove : ET A Move := ET.agg 68 5 40 Move.cells _ Tryd.underlying68 rfl (.agg #[.int .i64 0, .int .i64 0, .int .i64 0, .int .i64 0, .int .i32 0]) rfl (by kernel_rfl) (by decide) (by decide) (fun _ => rfl) (fun x v hv => by simp [Move.cells] at hv; rcases hv with rfl | rfl | rfl | rfl | rfl <;> rfl)
noncomputable def QArcE : EqT A Arc := EqT.ints 30 [.i64, .i64, .i32, .i32] (fun x => [x.src, x.dst, x.inp, x.out]) Arc.cells _ Tryd.underlying30 (by kernel_rfl) (by kernel_rfl) rfl (fun _ => rfl) (fun _ => rfl) (fun a b h => by cases a; cases b; simpa using h) (by kernel_rfl)
noncomputable def QPlaceE : EqT A Place := EqT.ints 49 [.i64, .i64, .i64] (fun x => [x.state, x.inn, x.out]) Place.cells _ Tryd.underlying49 (by kernel_rfl) (by kernel_rfl) rfl (fun _ => rfl) (fun _ => rfl) (fun a b h => by cases a; cases b; simpa using h) (by kernel_rfl)
noncomputable def QTCfgE : EqT A TCfg := EqT.ints 58 [.i64, .i64] (fun x => [x.state, x.pos]) TCfg.cells _ Tryd.underlying58 (by kernel_rfl) (by kernel_rfl) rfl (fun _ => rfl) (fun _ => rfl) (fun a b h => by cases a; cases b; simpa using h) (by kernel_rfl)
noncomputable def QLblE : EqT A Lbl := EqT.ints 85 [.i64, .i32] (fun x => [x.src, x.inp]) Lbl.cells _ Tryd.underlying85 (by kernel_rfl) (by kernel_rfl) rfl (fun _ => rfl) (fun _ => rfl) (fun a b h => by cases a; cases b; simpa using h) (by kernel_rfl)
noncomputable def ETra : ET A RTra := ET.agg 25 4 64 RTra.cells _ Tryd.underlying25 rfl (.agg #[.int .i64 0, .int .i64 0, .slice none 0 0, .slice none 0 0]) rfl (by kernel_rfl) (by decide) (by decide) (fun _ => rfl) (fun x v hv => by simp [RTra.cells] at hv; rcases hv with rfl | rfl | rfl | rfl <;> rfl)
noncomputable def QRune : KT A Int := KT.int 21 .i32 Tryd.underlying21
noncomputable def QInt : KT A Int := KT.int 3 .i64 Tryd.underlying3
noncomputable def VInt : ET A SV := ESl 22 3 Tryd.underlying22 (by kernel_rfl)
noncomputable def VRune : ET A SV := ESl 43 21 Tryd.underlying43 (by kernel_rfl)
noncomputable def VBool : ET A SV := ESl 53 4 Tryd.underlying53 (by kernel_rfl)
noncomputable def VStr : ET A SV := ESl 31 9 Tryd.underlying31 (by kernel_rfl)
noncomputable def VArc : ET A SV := ESl 23 30 Tryd.underlying23 (by kernel_rfl)
noncomputable def VPlace : ET A SV := ESl 51 49 Tryd.underlying51 (by kernel_rfl)
noncomputable def VTCfg : ET A SV := ESl 56 58 Tryd.underlying56 (by kernel_rfl)
noncomputable def VMove : ET A SV := ESl 59 68 Tryd.underlying59 (by kernel_rfl)
theorem fo_25_0 : fieldOff A 25 0 = some 0 := by kernel_rfl
theorem fo_25_3 : fieldOff A 25 3 = some 3 := by kernel_rfl
theorem fo_25_2 : fieldOff A 25 2 = some 2 := by kernel_rfl
theorem z30 : zeroOf A 30 = some [.int .i64 0, .int .i64 0, .int .i32 0, .int .i32 0] := by kernel_rfl
theorem sz30 : (A.info? 30).map (·.size) = some 4 := by kernel_rfl
theorem fo_30_0 : fieldOff A 30 0 = some 0 := by kernel_rfl
theorem fo_30_1 : fieldOff A 30 1 = some 1 := by kernel_rfl
theorem fo_30_2 : fieldOff A 30 2 = some 2 := by kernel_rfl
theorem fo_30_3 : fieldOff A 30 3 = some 3 := by kernel_rfl
theorem fo_25_1 : fieldOff A 25 1 = some 1 := by kernel_rfl
theorem z23 : zeroOf A 23 = some [.slice none 0 0] := by kernel_rfl
theorem bs_23_1 (a0 a1 a2 a3 : Value) : bldS A 23 1 [(0, [a0, a1, a2, a3])] 30 [a0, a1, a2, a3] := fun w => by kernel_rfl
theorem sz25 : (A.info? 25).map (·.size) = some 4 := by kernel_rfl
theorem bd_49_0 (a0 : Value) : bld A 49 [(0, [a0])] [a0, .int .i64 0, .int .i64 0] := fun w => by kernel_rfl
theorem bs_51_1 (a0 a1 a2 : Value) : bldS A 51 1 [(0, [a0, a1, a2])] 49 [a0, a1, a2] := fun w => by kernel_rfl
theorem z49 : zeroOf A 49 = some [.int .i64 0, .int .i64 0, .int .i64 0] := by kernel_rfl
theorem sz49 : (A.info? 49).map (·.size) = some 3 := by kernel_rfl
theorem fo_49_1 : fieldOff A 49 1 = some 1 := by kernel_rfl
theorem fo_49_2 : fieldOff A 49 2 = some 2 := by kernel_rfl
theorem fo_49_0 : fieldOff A 49 0 = some 0 := by kernel_rfl
theorem bd_49_0_1_2 (a0 a1 a2 : Value) : bld A 49 [(0, [a0]), (1, [a1]), (2, [a2])] [a0, a1, a2] := fun w => by kernel_rfl
theorem sz3 : (A.info? 3).map (·.size) = some 1 := by kernel_rfl
theorem zv4 : zeroV A 4 = some (.bool false) := by kernel_rfl
theorem bs_22_0 : bldS A 22 0 [] 3 [] := fun w => by kernel_rfl
theorem z22 : zeroOf A 22 = some [.slice none 0 0] := by kernel_rfl
theorem bs_22_1 (a0 : Value) : bldS A 22 1 [(0, [a0])] 3 [a0] := fun w => by kernel_rfl
theorem z4 : zeroOf A 4 = some [.bool false] := by kernel_rfl
theorem bs_22_4 (a0 a1 a2 a3 : Value) : bldS A 22 4 [(0, [a0]), (1, [a1]), (2, [a2]), (3, [a3])] 3 [a0, a1, a2, a3] := fun w => by kernel_rfl
theorem z25 : zeroOf A 25 = some [.int .i64 0, .int .i64 0, .slice none 0 0, .slice none 0 0] := by kernel_rfl
theorem bd_25 : bld A 25 [] [.int .i64 0, .int .i64 0, .slice none 0 0, .slice none 0 0] := fun w => by kernel_rfl
theorem bd_25_0 (a0 : Value) : bld A 25 [(0, [a0])] [a0, .int .i64 0, .slice none 0 0, .slice none 0 0] := fun w => by kernel_rfl
theorem z3 : zeroOf A 3 = some [.int .i64 0] := by kernel_rfl
theorem sz22 : (A.info? 22).map (·.size) = some 1 := by kernel_rfl
theorem bd_30_0_1_2_3 (a0 a1 a2 a3 : Value) : bld A 30 [(0, [a0]), (1, [a1]), (2, [a2]), (3, [a3])] [a0, a1, a2, a3] := fun w => by kernel_rfl
theorem sz23 : (A.info? 23).map (·.size) = some 1 := by kernel_rfl
theorem bd_58_0 (a0 : Value) : bld A 58 [(0, [a0])] [a0, .int .i64 0] := fun w => by kernel_rfl
theorem z58 : zeroOf A 58 = some [.int .i64 0, .int .i64 0] := by kernel_rfl
theorem sz58 : (A.info? 58).map (·.size) = some 2 := by kernel_rfl
theorem bs_56_1 (a0 a1 : Value) : bldS A 56 1 [(0, [a0, a1])] 58 [a0, a1] := fun w => by kernel_rfl
theorem fo_58_0 : fieldOff A 58 0 = some 0 := by kernel_rfl
theorem fo_58_1 : fieldOff A 58 1 = some 1 := by kernel_rfl
theorem bd_58_0_1 (a0 a1 : Value) : bld A 58 [(0, [a0]), (1, [a1])] [a0, a1] := fun w => by kernel_rfl
theorem bd_68_0_1_2 (a0 a1 a2 a3 a4 : Value) : bld A 68 [(0, [a0, a1]), (1, [a2, a3]), (2, [a4])] [a0, a1, a2, a3, a4] := fun w => by kernel_rfl
theorem bs_59_1 (a0 a1 a2 a3 a4 : Value) : bldS A 59 1 [(0, [a0, a1, a2, a3, a4])] 68 [a0, a1, a2, a3, a4] := fun w => by kernel_rfl
theorem bs_56_0 : bldS A 56 0 [] 58 [] := fun w => by kernel_rfl
theorem z68 : zeroOf A 68 = some [.int .i64 0, .int .i64 0, .int .i64 0, .int .i64 0, .int .i32 0] := by kernel_rfl
theorem sz68 : (A.info? 68).map (·.size) = some 5 := by kernel_rfl
theorem fo_68_1 : fieldOff A 68 1 = some 2 := by kernel_rfl
theorem zv59 : zeroV A 59 = some (.slice none 0 0) := by kernel_rfl
theorem zv3 : zeroV A 3 = some (.int .i64 0) := by kernel_rfl
theorem fo_68_2 : fieldOff A 68 2 = some 4 := by kernel_rfl
theorem fo_68_0 : fieldOff A 68 0 = some 0 := by kernel_rfl
theorem fo_66_1 : fieldOff A 66 1 = some 1 := by kernel_rfl
theorem fo_66_2 : fieldOff A 66 2 = some 2 := by kernel_rfl
theorem fo_66_0 : fieldOff A 66 0 = some 0 := by kernel_rfl
theorem bs_43_0 : bldS A 43 0 [] 21 [] := fun w => by kernel_rfl
theorem fo_72_1 : fieldOff A 72 1 = some 1 := by kernel_rfl
theorem fo_72_0 : fieldOff A 72 0 = some 0 := by kernel_rfl
theorem bs_43_1 (a0 : Value) : bldS A 43 1 [(0, [a0])] 21 [a0] := fun w => by kernel_rfl
theorem zv56 : zeroV A 56 = some (.slice none 0 0) := by kernel_rfl
theorem bd_72_0_1 (a0 a1 : Value) : bld A 72 [(0, [a0]), (1, [a1])] [a0, a1] := fun w => by kernel_rfl
theorem bs_73_1 (a0 a1 : Value) : bldS A 73 1 [(0, [a0, a1])] 72 [a0, a1] := fun w => by kernel_rfl
theorem bd_66_0_1_2 (a0 a1 a2 : Value) : bld A 66 [(0, [a0]), (1, [a1]), (2, [a2])] [a0, a1, a2] := fun w => by kernel_rfl
theorem z72 : zeroOf A 72 = some [.slice none 0 0, .map none] := by kernel_rfl
theorem sz72 : (A.info? 72).map (·.size) = some 2 := by kernel_rfl
theorem bs_31_1 (a0 : Value) : bldS A 31 1 [(0, [a0])] 9 [a0] := fun w => by kernel_rfl
theorem bd_85_0_1 (a0 a1 : Value) : bld A 85 [(0, [a0]), (1, [a1])] [a0, a1] := fun w => by kernel_rfl
theorem z85 : zeroOf A 85 = some [.int .i64 0, .int .i32 0] := by kernel_rfl
theorem sz85 : (A.info? 85).map (·.size) = some 2 := by kernel_rfl
theorem bs_23_2 (a0 a1 a2 a3 a4 a5 a6 a7 : Value) : bldS A 23 2 [(0, [a0, a1, a2, a3]), (1, [a4, a5, a6, a7])] 30 [a0, a1, a2, a3, a4, a5, a6, a7] := fun w => by kernel_rfl
theorem bd_25_0_2_3 (a0 a1 a2 : Value) : bld A 25 [(0, [a0]), (2, [a1]), (3, [a2])] [a0, .int .i64 0, a1, a2] := fun w => by kernel_rfl
theorem fol : A.follows .mixedOrders = true := by kernel_rfl
end Go.Proofs.YtfepjcmjkaolgaaDoor.G
