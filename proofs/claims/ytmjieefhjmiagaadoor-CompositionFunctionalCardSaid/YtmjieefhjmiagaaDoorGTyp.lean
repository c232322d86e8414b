/- The numbers of this seat: element types, key types, facts of the types. -/
import Derived.Test.YtmjieefhjmiagaaDoorGStr
import Derived.Test.YtmjieefhjmiagaaDoorProg
set_option linter.all false
namespace Go.Proofs.YtmjieefhjmiagaaDoor.G
open Go Go.RowKit
noncomputable abbrev A := Tryd.prog
noncomputable def EInt : ET A Int := ET.one1 3 8 (fun n => .int .i64 n) _ Tryd.underlying3 rfl (.int .i64 0) rfl (by kernel_rfl) (by decide) (fun _ => rfl)
noncomputable def ERune : ET A Int := ET.one1 21 4 (fun n => .int .i32 n) _ Tryd.underlying21 rfl (.int .i32 0) rfl (by kernel_rfl) (by decide) (fun _ => rfl)
noncomputable def EByte : ET A Int := ET.one1 5 1 (fun n => .int .u8 n) _ Tryd.underlying5 rfl (.int .u8 0) rfl (by kernel_rfl) (by decide) (fun _ => rfl)
noncomputable def EBool : ET A Bool := ET.one1 4 1 (fun b => .bool b) _ Tryd.underlying4 rfl (.bool false) rfl (by kernel_rfl) (by decide) (fun _ => rfl)
noncomputable def EStr : ET A ByteArray := ET.one1 9 16 (fun s => .string s) _ Tryd.underlying9 rfl (.string ⟨#[]⟩) rfl (by kernel_rfl) (by decide) (fun _ => rfl)
noncomputable def EArc : ET A Arc := ET.agg 48 4 24 Arc.cells _ Tryd.underlying48 rfl (.agg #[.int .i64 0, .int .i64 0, .int .i32 0, .int .i32 0]) rfl (by kernel_rfl) (by decide) (by decide) (fun _ => rfl) (fun x v hv => by simp [Arc.cells] at hv; rcases hv with rfl | rfl | rfl | rfl <;> rfl)
noncomputable def QArc : KT A Arc := KT.ints 48 [.i64, .i64, .i32, .i32] (fun x => [x.src, x.dst, x.inp, x.out]) Arc.cells _ Tryd.underlying48 (by kernel_rfl) (by kernel_rfl) rfl (fun _ => rfl) (fun _ => rfl) (fun a b h => by cases a; cases b; simpa using h) (fun x => sb_ints _ rfl)
noncomputable def EPair : ET A Pair := ET.agg 56 2 16 Pair.cells _ Tryd.underlying56 rfl (.agg #[.int .i64 0, .int .i64 0]) rfl (by kernel_rfl) (by decide) (by decide) (fun _ => rfl) (fun x v hv => by simp [Pair.cells] at hv; rcases hv with rfl | rfl <;> rfl)
noncomputable def QPair : KT A Pair := KT.ints 56 [.i64, .i64] (fun x => [x.p, x.q]) Pair.cells _ Tryd.underlying56 (by kernel_rfl) (by kernel_rfl) rfl (fun _ => rfl) (fun _ => rfl) (fun a b h => by cases a; cases b; simpa using h) (fun x => sb_ints _ rfl)
noncomputable def EEdge : ET A Edge := ET.agg 65 6 40 Edge.cells _ Tryd.underlying65 rfl (.agg #[.int .i64 0, .int .i64 0, .int .i64 0, .int .i64 0, .int .i32 0, .int .i32 0]) rfl (by kernel_rfl) (by decide) (by decide) (fun _ => rfl) (fun x v hv => by simp [Edge.cells] at hv; rcases hv with rfl | rfl | rfl | rfl | rfl | rfl <;> rfl)
noncomputable def EConfig : ET A Config := ET.agg 76 4 32 Config.cells _ Tryd.underlying76 rfl (.agg #[.int .i64 0, .int .i64 0, .int .i64 0, .int .i64 0]) rfl (by kernel_rfl) (by decide) (by decide) (fun _ => rfl) (fun x v hv => by simp [Config.cells] at hv; rcases hv with rfl | rfl | rfl | rfl <;> rfl)
noncomputable def QConfig : KT A Config := KT.ints 76 [.i64, .i64, .i64, .i64] (fun x => [x.p, x.i, x.q, x.j]) Config.cells _ Tryd.underlying76 (by kernel_rfl) (by kernel_rfl) rfl (fun _ => rfl) (fun _ => rfl) (fun a b h => by cases a; cases b; simpa using h) (fun x => sb_ints _ rfl)
noncomputable def EPos : ET A Pos := ET.agg 123 2 16 Pos.cells _ Tryd.underlying123 rfl (.agg #[.int .i64 0, .int .i64 0]) rfl (by kernel_rfl) (by decide) (by decide) (fun _ => rfl) (fun x v hv => by simp [Pos.cells] at hv; rcases hv with rfl | rfl <;> rfl)
noncomputable def QPos : KT A Pos := KT.ints 123 [.i64, .i64] (fun x => [x.state, x.read]) Pos.cells _ Tryd.underlying123 (by kernel_rfl) (by kernel_rfl) rfl (fun _ => rfl) (fun _ => rfl) (fun a b h => by cases a; cases b; simpa using h) (fun x => sb_ints _ rfl)
noncomputable def EPlace : ET A Place := ET.agg 90 3 24 Place.cells _ Tryd.underlying90 rfl (.agg #[.int .i64 0, .int .i64 0, .int .i64 0]) rfl (by kernel_rfl) (by decide) (by decide) (fun _ => rfl) (fun x v hv => by simp [Place.cells] at hv; rcases hv with rfl | rfl | rfl <;> rfl)
noncomputable def QPlace : KT A Place := KT.ints 90 [.i64, .i64, .i64] (fun x => [x.state, x.inn, x.out]) Place.cells _ Tryd.underlying90 (by kernel_rfl) (by kernel_rfl) rfl (fun _ => rfl) (fun _ => rfl) (fun a b h => by cases a; cases b; simpa using h) (fun x => sb_ints _ rfl)
noncomputable def QArcE : EqT A Arc := EqT.ints 48 [.i64, .i64, .i32, .i32] (fun x => [x.src, x.dst, x.inp, x.out]) Arc.cells _ Tryd.underlying48 (by kernel_rfl) (by kernel_rfl) rfl (fun _ => rfl) (fun _ => rfl) (fun a b h => by cases a; cases b; simpa using h) (by kernel_rfl)
noncomputable def QPairE : EqT A Pair := EqT.ints 56 [.i64, .i64] (fun x => [x.p, x.q]) Pair.cells _ Tryd.underlying56 (by kernel_rfl) (by kernel_rfl) rfl (fun _ => rfl) (fun _ => rfl) (fun a b h => by cases a; cases b; simpa using h) (by kernel_rfl)
noncomputable def QConfigE : EqT A Config := EqT.ints 76 [.i64, .i64, .i64, .i64] (fun x => [x.p, x.i, x.q, x.j]) Config.cells _ Tryd.underlying76 (by kernel_rfl) (by kernel_rfl) rfl (fun _ => rfl) (fun _ => rfl) (fun a b h => by cases a; cases b; simpa using h) (by kernel_rfl)
noncomputable def QPosE : EqT A Pos := EqT.ints 123 [.i64, .i64] (fun x => [x.state, x.read]) Pos.cells _ Tryd.underlying123 (by kernel_rfl) (by kernel_rfl) rfl (fun _ => rfl) (fun _ => rfl) (fun a b h => by cases a; cases b; simpa using h) (by kernel_rfl)
noncomputable def QPlaceE : EqT A Place := EqT.ints 90 [.i64, .i64, .i64] (fun x => [x.state, x.inn, x.out]) Place.cells _ Tryd.underlying90 (by kernel_rfl) (by kernel_rfl) rfl (fun _ => rfl) (fun _ => rfl) (fun a b h => by cases a; cases b; simpa using h) (by kernel_rfl)
noncomputable def ETra : ET A RTra := ET.agg 25 4 64 RTra.cells _ Tryd.underlying25 rfl (.agg #[.int .i64 0, .int .i64 0, .slice none 0 0, .slice none 0 0]) rfl (by kernel_rfl) (by decide) (by decide) (fun _ => rfl) (fun x v hv => by simp [RTra.cells] at hv; rcases hv with rfl | rfl | rfl | rfl <;> rfl)
noncomputable def QRune : KT A Int := KT.int 21 .i32 Tryd.underlying21
noncomputable def QInt : KT A Int := KT.int 3 .i64 Tryd.underlying3
noncomputable def VInt : ET A SV := ESl 22 3 Tryd.underlying22 (by kernel_rfl)
noncomputable def VRune : ET A SV := ESl 84 21 Tryd.underlying84 (by kernel_rfl)
noncomputable def VByte : ET A SV := ESl 152 5 Tryd.underlying152 (by kernel_rfl)
noncomputable def VBool : ET A SV := ESl 108 4 Tryd.underlying108 (by kernel_rfl)
noncomputable def VStr : ET A SV := ESl 42 9 Tryd.underlying42 (by kernel_rfl)
noncomputable def VArc : ET A SV := ESl 23 48 Tryd.underlying23 (by kernel_rfl)
noncomputable def VPair : ET A SV := ESl 57 56 Tryd.underlying57 (by kernel_rfl)
noncomputable def VEdge : ET A SV := ESl 50 65 Tryd.underlying50 (by kernel_rfl)
noncomputable def VConfig : ET A SV := ESl 78 76 Tryd.underlying78 (by kernel_rfl)
noncomputable def VPos : ET A SV := ESl 125 123 Tryd.underlying125 (by kernel_rfl)
noncomputable def VPlace : ET A SV := ESl 92 90 Tryd.underlying92 (by kernel_rfl)
theorem fo_48_0 : fieldOff A 48 0 = some 0 := by kernel_rfl
theorem fo_48_1 : fieldOff A 48 1 = some 1 := by kernel_rfl
theorem fo_48_2 : fieldOff A 48 2 = some 2 := by kernel_rfl
theorem fo_48_3 : fieldOff A 48 3 = some 3 := by kernel_rfl
theorem bs_22_4 (a0 a1 a2 a3 : Value) : bldS A 22 4 [(0, [a0]), (1, [a1]), (2, [a2]), (3, [a3])] 3 [a0, a1, a2, a3] := fun w => by kernel_rfl
theorem fo_56_0 : fieldOff A 56 0 = some 0 := by kernel_rfl
theorem fo_56_1 : fieldOff A 56 1 = some 1 := by kernel_rfl
theorem bs_22_2 (a0 a1 : Value) : bldS A 22 2 [(0, [a0]), (1, [a1])] 3 [a0, a1] := fun w => by kernel_rfl
theorem z48 : zeroOf A 48 = some [.int .i64 0, .int .i64 0, .int .i32 0, .int .i32 0] := by kernel_rfl
theorem fo_25_0 : fieldOff A 25 0 = some 0 := by kernel_rfl
theorem fo_25_3 : fieldOff A 25 3 = some 3 := by kernel_rfl
theorem fo_25_2 : fieldOff A 25 2 = some 2 := by kernel_rfl
theorem sz48 : (A.info? 48).map (·.size) = some 4 := by kernel_rfl
theorem fo_25_1 : fieldOff A 25 1 = some 1 := by kernel_rfl
theorem z23 : zeroOf A 23 = some [.slice none 0 0] := by kernel_rfl
theorem bs_23_1 (a0 a1 a2 a3 : Value) : bldS A 23 1 [(0, [a0, a1, a2, a3])] 48 [a0, a1, a2, a3] := fun w => by kernel_rfl
theorem sz56 : (A.info? 56).map (·.size) = some 2 := by kernel_rfl
theorem bd_56_0_1 (a0 a1 : Value) : bld A 56 [(0, [a0]), (1, [a1])] [a0, a1] := fun w => by kernel_rfl
theorem bd_65_0_1_2_3 (a0 a1 a2 a3 a4 a5 : Value) : bld A 65 [(0, [a0, a1]), (1, [a2, a3]), (2, [a4]), (3, [a5])] [a0, a1, a2, a3, a4, a5] := fun w => by kernel_rfl
theorem bs_50_1 (a0 a1 a2 a3 a4 a5 : Value) : bldS A 50 1 [(0, [a0, a1, a2, a3, a4, a5])] 65 [a0, a1, a2, a3, a4, a5] := fun w => by kernel_rfl
theorem sz25 : (A.info? 25).map (·.size) = some 4 := by kernel_rfl
theorem z56 : zeroOf A 56 = some [.int .i64 0, .int .i64 0] := by kernel_rfl
theorem bs_57_1 (a0 a1 : Value) : bldS A 57 1 [(0, [a0, a1])] 56 [a0, a1] := fun w => by kernel_rfl
theorem z65 : zeroOf A 65 = some [.int .i64 0, .int .i64 0, .int .i64 0, .int .i64 0, .int .i32 0, .int .i32 0] := by kernel_rfl
theorem sz65 : (A.info? 65).map (·.size) = some 6 := by kernel_rfl
theorem fo_65_1 : fieldOff A 65 1 = some 2 := by kernel_rfl
theorem zv4 : zeroV A 4 = some (.bool false) := by kernel_rfl
theorem fo_65_0 : fieldOff A 65 0 = some 0 := by kernel_rfl
theorem zv57 : zeroV A 57 = some (.slice none 0 0) := by kernel_rfl
theorem z25 : zeroOf A 25 = some [.int .i64 0, .int .i64 0, .slice none 0 0, .slice none 0 0] := by kernel_rfl
theorem bd_25 : bld A 25 [] [.int .i64 0, .int .i64 0, .slice none 0 0, .slice none 0 0] := fun w => by kernel_rfl
theorem bd_25_0 (a0 : Value) : bld A 25 [(0, [a0])] [a0, .int .i64 0, .slice none 0 0, .slice none 0 0] := fun w => by kernel_rfl
theorem bs_22_1 (a0 : Value) : bldS A 22 1 [(0, [a0])] 3 [a0] := fun w => by kernel_rfl
theorem sz22 : (A.info? 22).map (·.size) = some 1 := by kernel_rfl
theorem zv3 : zeroV A 3 = some (.int .i64 0) := by kernel_rfl
theorem sz3 : (A.info? 3).map (·.size) = some 1 := by kernel_rfl
theorem fo_65_2 : fieldOff A 65 2 = some 4 := by kernel_rfl
theorem fo_65_3 : fieldOff A 65 3 = some 5 := by kernel_rfl
theorem bd_48_0_1_2_3 (a0 a1 a2 a3 : Value) : bld A 48 [(0, [a0]), (1, [a1]), (2, [a2]), (3, [a3])] [a0, a1, a2, a3] := fun w => by kernel_rfl
theorem sz23 : (A.info? 23).map (·.size) = some 1 := by kernel_rfl
theorem bd_25_0_1 (a0 a1 : Value) : bld A 25 [(0, [a0]), (1, [a1])] [a0, a1, .slice none 0 0, .slice none 0 0] := fun w => by kernel_rfl
theorem bd_48_0_1_2 (a0 a1 a2 : Value) : bld A 48 [(0, [a0]), (1, [a1]), (2, [a2])] [a0, a1, a2, .int .i32 0] := fun w => by kernel_rfl
theorem bd_48_0_1_3 (a0 a1 a2 : Value) : bld A 48 [(0, [a0]), (1, [a1]), (3, [a2])] [a0, a1, .int .i32 0, a2] := fun w => by kernel_rfl
theorem z4 : zeroOf A 4 = some [.bool false] := by kernel_rfl
theorem z3 : zeroOf A 3 = some [.int .i64 0] := by kernel_rfl
theorem fo_76_1 : fieldOff A 76 1 = some 1 := by kernel_rfl
theorem fo_112_2 : fieldOff A 112 2 = some 8 := by kernel_rfl
theorem fo_76_3 : fieldOff A 76 3 = some 3 := by kernel_rfl
theorem fo_112_3 : fieldOff A 112 3 = some 9 := by kernel_rfl
theorem fo_112_0 : fieldOff A 112 0 = some 0 := by kernel_rfl
theorem fo_76_0 : fieldOff A 76 0 = some 0 := by kernel_rfl
theorem fo_112_1 : fieldOff A 112 1 = some 4 := by kernel_rfl
theorem fo_76_2 : fieldOff A 76 2 = some 2 := by kernel_rfl
theorem fo_112_4 : fieldOff A 112 4 = some 10 := by kernel_rfl
theorem bd_76_0_1_2_3 (a0 a1 a2 a3 : Value) : bld A 76 [(0, [a0]), (1, [a1]), (2, [a2]), (3, [a3])] [a0, a1, a2, a3] := fun w => by kernel_rfl
theorem bs_78_1 (a0 a1 a2 a3 : Value) : bldS A 78 1 [(0, [a0, a1, a2, a3])] 76 [a0, a1, a2, a3] := fun w => by kernel_rfl
theorem fo_112_5 : fieldOff A 112 5 = some 11 := by kernel_rfl
theorem zv78 : zeroV A 78 = some (.slice none 0 0) := by kernel_rfl
theorem bs_42_2 (a0 a1 : Value) : bldS A 42 2 [(0, [a0]), (1, [a1])] 9 [a0, a1] := fun w => by kernel_rfl
theorem bd_112_0_1_2_3_4_5 (a0 a1 a2 a3 a4 a5 a6 a7 a8 a9 a10 a11 : Value) : bld A 112 [(0, [a0, a1, a2, a3]), (1, [a4, a5, a6, a7]), (2, [a8]), (3, [a9]), (4, [a10]), (5, [a11])] [a0, a1, a2, a3, a4, a5, a6, a7, a8, a9, a10, a11] := fun w => by kernel_rfl
theorem bd_76_0_2 (a0 a1 : Value) : bld A 76 [(0, [a0]), (2, [a1])] [a0, .int .i64 0, a1, .int .i64 0] := fun w => by kernel_rfl
theorem z76 : zeroOf A 76 = some [.int .i64 0, .int .i64 0, .int .i64 0, .int .i64 0] := by kernel_rfl
theorem sz76 : (A.info? 76).map (·.size) = some 4 := by kernel_rfl
theorem bd_25_0_2_3 (a0 a1 a2 : Value) : bld A 25 [(0, [a0]), (2, [a1]), (3, [a2])] [a0, .int .i64 0, a1, a2] := fun w => by kernel_rfl
theorem bs_37_2 (a0 a1 a2 a3 a4 a5 a6 a7 : Value) : bldS A 37 2 [(0, [a0, a1, a2, a3]), (1, [a4, a5, a6, a7])] 25 [a0, a1, a2, a3, a4, a5, a6, a7] := fun w => by kernel_rfl
theorem bs_37_3 (a0 a1 a2 a3 a4 a5 a6 a7 a8 a9 a10 a11 : Value) : bldS A 37 3 [(0, [a0, a1, a2, a3]), (1, [a4, a5, a6, a7]), (2, [a8, a9, a10, a11])] 25 [a0, a1, a2, a3, a4, a5, a6, a7, a8, a9, a10, a11] := fun w => by kernel_rfl
theorem bd_90_0 (a0 : Value) : bld A 90 [(0, [a0])] [a0, .int .i64 0, .int .i64 0] := fun w => by kernel_rfl
theorem bs_92_1 (a0 a1 a2 : Value) : bldS A 92 1 [(0, [a0, a1, a2])] 90 [a0, a1, a2] := fun w => by kernel_rfl
theorem z90 : zeroOf A 90 = some [.int .i64 0, .int .i64 0, .int .i64 0] := by kernel_rfl
theorem sz90 : (A.info? 90).map (·.size) = some 3 := by kernel_rfl
theorem fo_90_1 : fieldOff A 90 1 = some 1 := by kernel_rfl
theorem fo_90_2 : fieldOff A 90 2 = some 2 := by kernel_rfl
theorem fo_90_0 : fieldOff A 90 0 = some 0 := by kernel_rfl
theorem bd_90_0_1_2 (a0 a1 a2 : Value) : bld A 90 [(0, [a0]), (1, [a1]), (2, [a2])] [a0, a1, a2] := fun w => by kernel_rfl
theorem bs_22_0 : bldS A 22 0 [] 3 [] := fun w => by kernel_rfl
theorem z22 : zeroOf A 22 = some [.slice none 0 0] := by kernel_rfl
theorem z108 : zeroOf A 108 = some [.slice none 0 0] := by kernel_rfl
theorem sz108 : (A.info? 108).map (·.size) = some 1 := by kernel_rfl
theorem sz21 : (A.info? 21).map (·.size) = some 1 := by kernel_rfl
theorem bd_25_0_1_2 (a0 a1 a2 : Value) : bld A 25 [(0, [a0]), (1, [a1]), (2, [a2])] [a0, a1, a2, .slice none 0 0] := fun w => by kernel_rfl
theorem fo_123_0 : fieldOff A 123 0 = some 0 := by kernel_rfl
theorem fo_123_1 : fieldOff A 123 1 = some 1 := by kernel_rfl
theorem z123 : zeroOf A 123 = some [.int .i64 0, .int .i64 0] := by kernel_rfl
theorem bd_123_0_1 (a0 a1 : Value) : bld A 123 [(0, [a0]), (1, [a1])] [a0, a1] := fun w => by kernel_rfl
theorem sz123 : (A.info? 123).map (·.size) = some 2 := by kernel_rfl
theorem bs_125_1 (a0 a1 : Value) : bldS A 125 1 [(0, [a0, a1])] 123 [a0, a1] := fun w => by kernel_rfl
theorem zv125 : zeroV A 125 = some (.slice none 0 0) := by kernel_rfl
theorem zv9 : zeroV A 9 = some (.string ⟨#[]⟩) := by kernel_rfl
theorem z9 : zeroOf A 9 = some [.string ⟨#[]⟩] := by kernel_rfl
theorem sz9 : (A.info? 9).map (·.size) = some 1 := by kernel_rfl
theorem bs_108_0 : bldS A 108 0 [] 4 [] := fun w => by kernel_rfl
theorem bs_37_1 (a0 a1 a2 a3 : Value) : bldS A 37 1 [(0, [a0, a1, a2, a3])] 25 [a0, a1, a2, a3] := fun w => by kernel_rfl
theorem fol : A.follows .mixedOrders = true := by kernel_rfl
end Go.Proofs.YtmjieefhjmiagaaDoor.G
