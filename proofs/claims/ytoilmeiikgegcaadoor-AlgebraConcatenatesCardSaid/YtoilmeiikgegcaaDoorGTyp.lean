/- The numbers of this seat: element types, key types, facts of the types. -/
import Derived.Test.YtoilmeiikgegcaaDoorGStr
import Derived.Test.YtoilmeiikgegcaaDoorProg
set_option linter.all false
namespace Go.Proofs.YtoilmeiikgegcaaDoor.G
open Go Go.RowKit
noncomputable abbrev A := Tryd.prog
noncomputable def EInt : ET A Int := ET.one1 3 8 (fun n => .int .i64 n) _ Tryd.underlying3 rfl (.int .i64 0) rfl (by kernel_rfl) (by decide) (fun _ => rfl)
noncomputable def ERune : ET A Int := ET.one1 21 4 (fun n => .int .i32 n) _ Tryd.underlying21 rfl (.int .i32 0) rfl (by kernel_rfl) (by decide) (fun _ => rfl)
noncomputable def EByte : ET A Int := ET.one1 5 1 (fun n => .int .u8 n) _ Tryd.underlying5 rfl (.int .u8 0) rfl (by kernel_rfl) (by decide) (fun _ => rfl)
noncomputable def EBool : ET A Bool := ET.one1 4 1 (fun b => .bool b) _ Tryd.underlying4 rfl (.bool false) rfl (by kernel_rfl) (by decide) (fun _ => rfl)
noncomputable def EStr : ET A ByteArray := ET.one1 9 16 (fun s => .string s) _ Tryd.underlying9 rfl (.string ⟨#[]⟩) rfl (by kernel_rfl) (by decide) (fun _ => rfl)
noncomputable def EArc : ET A Arc := ET.agg 52 4 24 Arc.cells _ Tryd.underlying52 rfl (.agg #[.int .i64 0, .int .i64 0, .int .i32 0, .int .i32 0]) rfl (by kernel_rfl) (by decide) (by decide) (fun _ => rfl) (fun x v hv => by simp [Arc.cells] at hv; rcases hv with rfl | rfl | rfl | rfl <;> rfl)
noncomputable def QArc : KT A Arc := KT.ints 52 [.i64, .i64, .i32, .i32] (fun x => [x.src, x.dst, x.inp, x.out]) Arc.cells _ Tryd.underlying52 (by kernel_rfl) (by kernel_rfl) rfl (fun _ => rfl) (fun _ => rfl) (fun a b h => by cases a; cases b; simpa using h) (fun x => sb_ints _ rfl)
noncomputable def EPlace : ET A Place := ET.agg 62 3 24 Place.cells _ Tryd.underlying62 rfl (.agg #[.int .i64 0, .int .i64 0, .int .i64 0]) rfl (by kernel_rfl) (by decide) (by decide) (fun _ => rfl) (fun x v hv => by simp [Place.cells] at hv; rcases hv with rfl | rfl | rfl <;> rfl)
noncomputable def QPlace : KT A Place := KT.ints 62 [.i64, .i64, .i64] (fun x => [x.state, x.inn, x.out]) Place.cells _ Tryd.underlying62 (by kernel_rfl) (by kernel_rfl) rfl (fun _ => rfl) (fun _ => rfl) (fun a b h => by cases a; cases b; simpa using h) (fun x => sb_ints _ rfl)
noncomputable def ESPair : ET A SPair := ET.agg 25 2 32 SPair.cells _ Tryd.underlying25 rfl (.agg #[.string ⟨#[]⟩, .string ⟨#[]⟩]) rfl (by kernel_rfl) (by decide) (by decide) (fun _ => rfl) (fun x v hv => by simp [SPair.cells] at hv; rcases hv with rfl | rfl <;> rfl)
noncomputable def QArcE : EqT A Arc := EqT.ints 52 [.i64, .i64, .i32, .i32] (fun x => [x.src, x.dst, x.inp, x.out]) Arc.cells _ Tryd.underlying52 (by kernel_rfl) (by kernel_rfl) rfl (fun _ => rfl) (fun _ => rfl) (fun a b h => by cases a; cases b; simpa using h) (by kernel_rfl)
noncomputable def QPlaceE : EqT A Place := EqT.ints 62 [.i64, .i64, .i64] (fun x => [x.state, x.inn, x.out]) Place.cells _ Tryd.underlying62 (by kernel_rfl) (by kernel_rfl) rfl (fun _ => rfl) (fun _ => rfl) (fun a b h => by cases a; cases b; simpa using h) (by kernel_rfl)
noncomputable def ETra : ET A RTra := ET.agg 29 4 64 RTra.cells _ Tryd.underlying29 rfl (.agg #[.int .i64 0, .int .i64 0, .slice none 0 0, .slice none 0 0]) rfl (by kernel_rfl) (by decide) (by decide) (fun _ => rfl) (fun x v hv => by simp [RTra.cells] at hv; rcases hv with rfl | rfl | rfl | rfl <;> rfl)
noncomputable def QRune : KT A Int := KT.int 21 .i32 Tryd.underlying21
noncomputable def QInt : KT A Int := KT.int 3 .i64 Tryd.underlying3
noncomputable def VInt : ET A SV := ESl 26 3 Tryd.underlying26 (by kernel_rfl)
noncomputable def VRune : ET A SV := ESl 47 21 Tryd.underlying47 (by kernel_rfl)
noncomputable def VBool : ET A SV := ESl 56 4 Tryd.underlying56 (by kernel_rfl)
noncomputable def VStr : ET A SV := ESl 23 9 Tryd.underlying23 (by kernel_rfl)
noncomputable def VArc : ET A SV := ESl 27 52 Tryd.underlying27 (by kernel_rfl)
noncomputable def VPlace : ET A SV := ESl 64 62 Tryd.underlying64 (by kernel_rfl)
noncomputable def VSPair : ET A SV := ESl 22 25 Tryd.underlying22 (by kernel_rfl)
theorem fo_29_0 : fieldOff A 29 0 = some 0 := by kernel_rfl
theorem fo_29_3 : fieldOff A 29 3 = some 3 := by kernel_rfl
theorem fo_29_2 : fieldOff A 29 2 = some 2 := by kernel_rfl
theorem z52 : zeroOf A 52 = some [.int .i64 0, .int .i64 0, .int .i32 0, .int .i32 0] := by kernel_rfl
theorem sz52 : (A.info? 52).map (·.size) = some 4 := by kernel_rfl
theorem fo_52_0 : fieldOff A 52 0 = some 0 := by kernel_rfl
theorem fo_52_1 : fieldOff A 52 1 = some 1 := by kernel_rfl
theorem fo_52_2 : fieldOff A 52 2 = some 2 := by kernel_rfl
theorem fo_52_3 : fieldOff A 52 3 = some 3 := by kernel_rfl
theorem fo_29_1 : fieldOff A 29 1 = some 1 := by kernel_rfl
theorem z4 : zeroOf A 4 = some [.bool false] := by kernel_rfl
theorem bs_27_1 (a0 a1 a2 a3 : Value) : bldS A 27 1 [(0, [a0, a1, a2, a3])] 52 [a0, a1, a2, a3] := fun w => by kernel_rfl
theorem z29 : zeroOf A 29 = some [.int .i64 0, .int .i64 0, .slice none 0 0, .slice none 0 0] := by kernel_rfl
theorem sz29 : (A.info? 29).map (·.size) = some 4 := by kernel_rfl
theorem bs_26_1 (a0 : Value) : bldS A 26 1 [(0, [a0])] 3 [a0] := fun w => by kernel_rfl
theorem bd_29_0 (a0 : Value) : bld A 29 [(0, [a0])] [a0, .int .i64 0, .slice none 0 0, .slice none 0 0] := fun w => by kernel_rfl
theorem bd_29 : bld A 29 [] [.int .i64 0, .int .i64 0, .slice none 0 0, .slice none 0 0] := fun w => by kernel_rfl
theorem z3 : zeroOf A 3 = some [.int .i64 0] := by kernel_rfl
theorem sz3 : (A.info? 3).map (·.size) = some 1 := by kernel_rfl
theorem sz26 : (A.info? 26).map (·.size) = some 1 := by kernel_rfl
theorem bd_52_0_1_2_3 (a0 a1 a2 a3 : Value) : bld A 52 [(0, [a0]), (1, [a1]), (2, [a2]), (3, [a3])] [a0, a1, a2, a3] := fun w => by kernel_rfl
theorem sz27 : (A.info? 27).map (·.size) = some 1 := by kernel_rfl
theorem z27 : zeroOf A 27 = some [.slice none 0 0] := by kernel_rfl
theorem bd_62_0 (a0 : Value) : bld A 62 [(0, [a0])] [a0, .int .i64 0, .int .i64 0] := fun w => by kernel_rfl
theorem bs_64_1 (a0 a1 a2 : Value) : bldS A 64 1 [(0, [a0, a1, a2])] 62 [a0, a1, a2] := fun w => by kernel_rfl
theorem z62 : zeroOf A 62 = some [.int .i64 0, .int .i64 0, .int .i64 0] := by kernel_rfl
theorem sz62 : (A.info? 62).map (·.size) = some 3 := by kernel_rfl
theorem fo_62_1 : fieldOff A 62 1 = some 1 := by kernel_rfl
theorem fo_62_2 : fieldOff A 62 2 = some 2 := by kernel_rfl
theorem fo_62_0 : fieldOff A 62 0 = some 0 := by kernel_rfl
theorem bd_62_0_1_2 (a0 a1 a2 : Value) : bld A 62 [(0, [a0]), (1, [a1]), (2, [a2])] [a0, a1, a2] := fun w => by kernel_rfl
theorem zv4 : zeroV A 4 = some (.bool false) := by kernel_rfl
theorem bs_26_0 : bldS A 26 0 [] 3 [] := fun w => by kernel_rfl
theorem z26 : zeroOf A 26 = some [.slice none 0 0] := by kernel_rfl
theorem bs_26_4 (a0 a1 a2 a3 : Value) : bldS A 26 4 [(0, [a0]), (1, [a1]), (2, [a2]), (3, [a3])] 3 [a0, a1, a2, a3] := fun w => by kernel_rfl
theorem z56 : zeroOf A 56 = some [.slice none 0 0] := by kernel_rfl
theorem sz56 : (A.info? 56).map (·.size) = some 1 := by kernel_rfl
theorem sz21 : (A.info? 21).map (·.size) = some 1 := by kernel_rfl
theorem bd_29_0_1_2 (a0 a1 a2 : Value) : bld A 29 [(0, [a0]), (1, [a1]), (2, [a2])] [a0, a1, a2, .slice none 0 0] := fun w => by kernel_rfl
theorem z25 : zeroOf A 25 = some [.string ⟨#[]⟩, .string ⟨#[]⟩] := by kernel_rfl
theorem sz25 : (A.info? 25).map (·.size) = some 2 := by kernel_rfl
theorem sz9 : (A.info? 9).map (·.size) = some 1 := by kernel_rfl
theorem bd_52_0 (a0 : Value) : bld A 52 [(0, [a0])] [a0, .int .i64 0, .int .i32 0, .int .i32 0] := fun w => by kernel_rfl
theorem zv3 : zeroV A 3 = some (.int .i64 0) := by kernel_rfl
theorem bd_25_0_1 (a0 a1 : Value) : bld A 25 [(0, [a0]), (1, [a1])] [a0, a1] := fun w => by kernel_rfl
theorem bs_22_1 (a0 a1 : Value) : bldS A 22 1 [(0, [a0, a1])] 25 [a0, a1] := fun w => by kernel_rfl
theorem bs_56_1 (a0 : Value) : bldS A 56 1 [(0, [a0])] 4 [a0] := fun w => by kernel_rfl
theorem bd_52_1 (a0 : Value) : bld A 52 [(1, [a0])] [.int .i64 0, a0, .int .i32 0, .int .i32 0] := fun w => by kernel_rfl
theorem bs_27_2 (a0 a1 a2 a3 a4 a5 a6 a7 : Value) : bldS A 27 2 [(0, [a0, a1, a2, a3]), (1, [a4, a5, a6, a7])] 52 [a0, a1, a2, a3, a4, a5, a6, a7] := fun w => by kernel_rfl
theorem bd_29_0_1 (a0 a1 : Value) : bld A 29 [(0, [a0]), (1, [a1])] [a0, a1, .slice none 0 0, .slice none 0 0] := fun w => by kernel_rfl
theorem bd_52_0_1 (a0 a1 : Value) : bld A 52 [(0, [a0]), (1, [a1])] [a0, a1, .int .i32 0, .int .i32 0] := fun w => by kernel_rfl
theorem bd_29_0_2 (a0 a1 : Value) : bld A 29 [(0, [a0]), (2, [a1])] [a0, .int .i64 0, a1, .slice none 0 0] := fun w => by kernel_rfl
theorem bs_22_2 (a0 a1 a2 a3 : Value) : bldS A 22 2 [(0, [a0, a1]), (1, [a2, a3])] 25 [a0, a1, a2, a3] := fun w => by kernel_rfl
theorem bs_23_1 (a0 : Value) : bldS A 23 1 [(0, [a0])] 9 [a0] := fun w => by kernel_rfl
theorem bd_52_0_1_2 (a0 a1 a2 : Value) : bld A 52 [(0, [a0]), (1, [a1]), (2, [a2])] [a0, a1, a2, .int .i32 0] := fun w => by kernel_rfl
theorem bs_66_2 (a0 a1 a2 a3 a4 a5 a6 a7 : Value) : bldS A 66 2 [(0, [a0, a1, a2, a3]), (1, [a4, a5, a6, a7])] 29 [a0, a1, a2, a3, a4, a5, a6, a7] := fun w => by kernel_rfl
theorem bs_66_1 (a0 a1 a2 a3 : Value) : bldS A 66 1 [(0, [a0, a1, a2, a3])] 29 [a0, a1, a2, a3] := fun w => by kernel_rfl
theorem fol : A.follows .mixedOrders = true := by kernel_rfl
end Go.Proofs.YtoilmeiikgegcaaDoor.G
