/- The numbers of this seat: element types, key types, facts of the types. -/
import Derived.Test.YtmjieefhjmiagaaGreatDoorGStr
import Derived.Test.YtmjieefhjmiagaaGreatDoorProg
set_option linter.all false
namespace Go.Proofs.YtmjieefhjmiagaaGreatDoor.G
open Go Go.RowKit
noncomputable abbrev A := Tryz.prog
noncomputable def EInt : ET A Int := ET.one1 3 8 (fun n => .int .i64 n) _ Tryz.underlying3 rfl (.int .i64 0) rfl (by kernel_rfl) (by decide) (fun _ => rfl)
noncomputable def ERune : ET A Int := ET.one1 21 4 (fun n => .int .i32 n) _ Tryz.underlying21 rfl (.int .i32 0) rfl (by kernel_rfl) (by decide) (fun _ => rfl)
noncomputable def EByte : ET A Int := ET.one1 5 1 (fun n => .int .u8 n) _ Tryz.underlying5 rfl (.int .u8 0) rfl (by kernel_rfl) (by decide) (fun _ => rfl)
noncomputable def EBool : ET A Bool := ET.one1 4 1 (fun b => .bool b) _ Tryz.underlying4 rfl (.bool false) rfl (by kernel_rfl) (by decide) (fun _ => rfl)
noncomputable def EStr : ET A ByteArray := ET.one1 9 16 (fun s => .string s) _ Tryz.underlying9 rfl (.string ⟨#[]⟩) rfl (by kernel_rfl) (by decide) (fun _ => rfl)
noncomputable def EArc : ET A Arc := ET.agg 51 4 24 Arc.cells _ Tryz.underlying51 rfl (.agg #[.int .i64 0, .int .i64 0, .int .i32 0, .int .i32 0]) rfl (by kernel_rfl) (by decide) (by decide) (fun _ => rfl) (fun x v hv => by simp [Arc.cells] at hv; rcases hv with rfl | rfl | rfl | rfl <;> rfl)
noncomputable def QArc : KT A Arc := KT.ints 51 [.i64, .i64, .i32, .i32] (fun x => [x.src, x.dst, x.inp, x.out]) Arc.cells _ Tryz.underlying51 (by kernel_rfl) (by kernel_rfl) rfl (fun _ => rfl) (fun _ => rfl) (fun a b h => by cases a; cases b; simpa using h) (fun x => sb_ints _ rfl)
noncomputable def EPair : ET A Pair := ET.agg 117 2 16 Pair.cells _ Tryz.underlying117 rfl (.agg #[.int .i64 0, .int .i64 0]) rfl (by kernel_rfl) (by decide) (by decide) (fun _ => rfl) (fun x v hv => by simp [Pair.cells] at hv; rcases hv with rfl | rfl <;> rfl)
noncomputable def QPair : KT A Pair := KT.ints 117 [.i64, .i64] (fun x => [x.p, x.q]) Pair.cells _ Tryz.underlying117 (by kernel_rfl) (by kernel_rfl) rfl (fun _ => rfl) (fun _ => rfl) (fun a b h => by cases a; cases b; simpa using h) (fun x => sb_ints _ rfl)
noncomputable def EEdge : ET A Edge := ET.agg 125 6 40 Edge.cells _ Tryz.underlying125 rfl (.agg #[.int .i64 0, .int .i64 0, .int .i64 0, .int .i64 0, .int .i32 0, .int .i32 0]) rfl (by kernel_rfl) (by decide) (by decide) (fun _ => rfl) (fun x v hv => by simp [Edge.cells] at hv; rcases hv with rfl | rfl | rfl | rfl | rfl | rfl <;> rfl)
noncomputable def EConfig : ET A Config := ET.agg 63 4 32 Config.cells _ Tryz.underlying63 rfl (.agg #[.int .i64 0, .int .i64 0, .int .i64 0, .int .i64 0]) rfl (by kernel_rfl) (by decide) (by decide) (fun _ => rfl) (fun x v hv => by simp [Config.cells] at hv; rcases hv with rfl | rfl | rfl | rfl <;> rfl)
noncomputable def QConfig : KT A Config := KT.ints 63 [.i64, .i64, .i64, .i64] (fun x => [x.p, x.i, x.q, x.j]) Config.cells _ Tryz.underlying63 (by kernel_rfl) (by kernel_rfl) rfl (fun _ => rfl) (fun _ => rfl) (fun a b h => by cases a; cases b; simpa using h) (fun x => sb_ints _ rfl)
noncomputable def ELnk : ET A Lnk := ET.agg 135 5 40 Lnk.cells _ Tryz.underlying135 rfl (.agg #[.int .i64 0, .int .i64 0, .int .i64 0, .int .i64 0, .int .i64 0]) rfl (by kernel_rfl) (by decide) (by decide) (fun _ => rfl) (fun x v hv => by simp [Lnk.cells] at hv; rcases hv with rfl | rfl | rfl | rfl | rfl <;> rfl)
noncomputable def EPos : ET A Pos := ET.agg 159 2 16 Pos.cells _ Tryz.underlying159 rfl (.agg #[.int .i64 0, .int .i64 0]) rfl (by kernel_rfl) (by decide) (by decide) (fun _ => rfl) (fun x v hv => by simp [Pos.cells] at hv; rcases hv with rfl | rfl <;> rfl)
noncomputable def QPos : KT A Pos := KT.ints 159 [.i64, .i64] (fun x => [x.state, x.read]) Pos.cells _ Tryz.underlying159 (by kernel_rfl) (by kernel_rfl) rfl (fun _ => rfl) (fun _ => rfl) (fun a b h => by cases a; cases b; simpa using h) (fun x => sb_ints _ rfl)
noncomputable def EPlace : ET A Place := ET.agg 78 3 24 Place.cells _ Tryz.underlying78 rfl (.agg #[.int .i64 0, .int .i64 0, .int .i64 0]) rfl (by kernel_rfl) (by decide) (by decide) (fun _ => rfl) (fun x v hv => by simp [Place.cells] at hv; rcases hv with rfl | rfl | rfl <;> rfl)
noncomputable def QPlace : KT A Place := KT.ints 78 [.i64, .i64, .i64] (fun x => [x.state, x.inn, x.out]) Place.cells _ Tryz.underlying78 (by kernel_rfl) (by kernel_rfl) rfl (fun _ => rfl) (fun _ => rfl) (fun a b h => by cases a; cases b; simpa using h) (fun x => sb_ints _ rfl)
noncomputable def ETCfg : ET A TCfg := ET.agg 92 2 16 TCfg.cells _ Tryz.underlying92 rfl (.agg #[.int .i64 0, .int .i64 0]) rfl (by kernel_rfl) (by decide) (by decide) (fun _ => rfl) (fun x v hv => by simp [TCfg.cells] at hv; rcases hv with rfl | rfl <;> rfl)
noncomputable def QTCfg : KT A TCfg := KT.ints 92 [.i64, .i64] (fun x => [x.state, x.pos]) TCfg.cells _ Tryz.underlying92 (by kernel_rfl) (by kernel_rfl) rfl (fun _ => rfl) (fun _ => rfl) (fun a b h => by cases a; cases b; simpa using h) (fun x => sb_ints _ rfl)
noncomputable def EMove : ET A Move := ET.agg 102 5 40 Move.cells _ Tryz.underlying102 rfl (.agg #[.int .i64 0, .int .i64 0, .int .i64 0, .int .i64 0, .int .i32 0]) rfl (by kernel_rfl) (by decide) (by decide) (fun _ => rfl) (fun x v hv => by simp [Move.cells] at hv; rcases hv with rfl | rfl | rfl | rfl | rfl <;> rfl)
noncomputable def ESPair : ET A SPair := ET.agg 149 2 32 SPair.cells _ Tryz.underlying149 rfl (.agg #[.string ⟨#[]⟩, .string ⟨#[]⟩]) rfl (by kernel_rfl) (by decide) (by decide) (fun _ => rfl) (fun x v hv => by simp [SPair.cells] at hv; rcases hv with rfl | rfl <;> rfl)
noncomputable def QArcE : EqT A Arc := EqT.ints 51 [.i64, .i64, .i32, .i32] (fun x => [x.src, x.dst, x.inp, x.out]) Arc.cells _ Tryz.underlying51 (by kernel_rfl) (by kernel_rfl) rfl (fun _ => rfl) (fun _ => rfl) (fun a b h => by cases a; cases b; simpa using h) (by kernel_rfl)
noncomputable def QPairE : EqT A Pair := EqT.ints 117 [.i64, .i64] (fun x => [x.p, x.q]) Pair.cells _ Tryz.underlying117 (by kernel_rfl) (by kernel_rfl) rfl (fun _ => rfl) (fun _ => rfl) (fun a b h => by cases a; cases b; simpa using h) (by kernel_rfl)
noncomputable def QConfigE : EqT A Config := EqT.ints 63 [.i64, .i64, .i64, .i64] (fun x => [x.p, x.i, x.q, x.j]) Config.cells _ Tryz.underlying63 (by kernel_rfl) (by kernel_rfl) rfl (fun _ => rfl) (fun _ => rfl) (fun a b h => by cases a; cases b; simpa using h) (by kernel_rfl)
noncomputable def QPosE : EqT A Pos := EqT.ints 159 [.i64, .i64] (fun x => [x.state, x.read]) Pos.cells _ Tryz.underlying159 (by kernel_rfl) (by kernel_rfl) rfl (fun _ => rfl) (fun _ => rfl) (fun a b h => by cases a; cases b; simpa using h) (by kernel_rfl)
noncomputable def QPlaceE : EqT A Place := EqT.ints 78 [.i64, .i64, .i64] (fun x => [x.state, x.inn, x.out]) Place.cells _ Tryz.underlying78 (by kernel_rfl) (by kernel_rfl) rfl (fun _ => rfl) (fun _ => rfl) (fun a b h => by cases a; cases b; simpa using h) (by kernel_rfl)
noncomputable def QTCfgE : EqT A TCfg := EqT.ints 92 [.i64, .i64] (fun x => [x.state, x.pos]) TCfg.cells _ Tryz.underlying92 (by kernel_rfl) (by kernel_rfl) rfl (fun _ => rfl) (fun _ => rfl) (fun a b h => by cases a; cases b; simpa using h) (by kernel_rfl)
noncomputable def ETra : ET A RTra := ET.agg 25 4 64 RTra.cells _ Tryz.underlying25 rfl (.agg #[.int .i64 0, .int .i64 0, .slice none 0 0, .slice none 0 0]) rfl (by kernel_rfl) (by decide) (by decide) (fun _ => rfl) (fun x v hv => by simp [RTra.cells] at hv; rcases hv with rfl | rfl | rfl | rfl <;> rfl)
noncomputable def QRune : KT A Int := KT.int 21 .i32 Tryz.underlying21
noncomputable def QInt : KT A Int := KT.int 3 .i64 Tryz.underlying3
noncomputable def VInt : ET A SV := ESl 22 3 Tryz.underlying22 (by kernel_rfl)
noncomputable def VRune : ET A SV := ESl 29 21 Tryz.underlying29 (by kernel_rfl)
noncomputable def VByte : ET A SV := ESl 186 5 Tryz.underlying186 (by kernel_rfl)
noncomputable def VBool : ET A SV := ESl 142 4 Tryz.underlying142 (by kernel_rfl)
noncomputable def VStr : ET A SV := ESl 31 9 Tryz.underlying31 (by kernel_rfl)
noncomputable def VArc : ET A SV := ESl 23 51 Tryz.underlying23 (by kernel_rfl)
noncomputable def VPair : ET A SV := ESl 118 117 Tryz.underlying118 (by kernel_rfl)
noncomputable def VEdge : ET A SV := ESl 111 125 Tryz.underlying111 (by kernel_rfl)
noncomputable def VConfig : ET A SV := ESl 64 63 Tryz.underlying64 (by kernel_rfl)
noncomputable def VLnk : ET A SV := ESl 133 135 Tryz.underlying133 (by kernel_rfl)
noncomputable def VPos : ET A SV := ESl 161 159 Tryz.underlying161 (by kernel_rfl)
noncomputable def VPlace : ET A SV := ESl 80 78 Tryz.underlying80 (by kernel_rfl)
noncomputable def VTCfg : ET A SV := ESl 90 92 Tryz.underlying90 (by kernel_rfl)
noncomputable def VMove : ET A SV := ESl 93 102 Tryz.underlying93 (by kernel_rfl)
noncomputable def VSPair : ET A SV := ESl 148 149 Tryz.underlying148 (by kernel_rfl)
theorem fo_51_0 : fieldOff A 51 0 = some 0 := by kernel_rfl
theorem fo_51_1 : fieldOff A 51 1 = some 1 := by kernel_rfl
theorem fo_51_2 : fieldOff A 51 2 = some 2 := by kernel_rfl
theorem fo_51_3 : fieldOff A 51 3 = some 3 := by kernel_rfl
theorem bs_22_4 (a0 a1 a2 a3 : Value) : bldS A 22 4 [(0, [a0]), (1, [a1]), (2, [a2]), (3, [a3])] 3 [a0, a1, a2, a3] := fun w => by kernel_rfl
theorem fo_117_0 : fieldOff A 117 0 = some 0 := by kernel_rfl
theorem fo_117_1 : fieldOff A 117 1 = some 1 := by kernel_rfl
theorem bs_22_2 (a0 a1 : Value) : bldS A 22 2 [(0, [a0]), (1, [a1])] 3 [a0, a1] := fun w => by kernel_rfl
theorem z51 : zeroOf A 51 = some [.int .i64 0, .int .i64 0, .int .i32 0, .int .i32 0] := by kernel_rfl
theorem fo_25_0 : fieldOff A 25 0 = some 0 := by kernel_rfl
theorem fo_25_3 : fieldOff A 25 3 = some 3 := by kernel_rfl
theorem fo_25_2 : fieldOff A 25 2 = some 2 := by kernel_rfl
theorem sz51 : (A.info? 51).map (·.size) = some 4 := by kernel_rfl
theorem fo_25_1 : fieldOff A 25 1 = some 1 := by kernel_rfl
theorem z23 : zeroOf A 23 = some [.slice none 0 0] := by kernel_rfl
theorem bs_23_1 (a0 a1 a2 a3 : Value) : bldS A 23 1 [(0, [a0, a1, a2, a3])] 51 [a0, a1, a2, a3] := fun w => by kernel_rfl
theorem sz117 : (A.info? 117).map (·.size) = some 2 := by kernel_rfl
theorem bd_117_0_1 (a0 a1 : Value) : bld A 117 [(0, [a0]), (1, [a1])] [a0, a1] := fun w => by kernel_rfl
theorem bd_125_0_1_2_3 (a0 a1 a2 a3 a4 a5 : Value) : bld A 125 [(0, [a0, a1]), (1, [a2, a3]), (2, [a4]), (3, [a5])] [a0, a1, a2, a3, a4, a5] := fun w => by kernel_rfl
theorem bs_111_1 (a0 a1 a2 a3 a4 a5 : Value) : bldS A 111 1 [(0, [a0, a1, a2, a3, a4, a5])] 125 [a0, a1, a2, a3, a4, a5] := fun w => by kernel_rfl
theorem sz25 : (A.info? 25).map (·.size) = some 4 := by kernel_rfl
theorem z117 : zeroOf A 117 = some [.int .i64 0, .int .i64 0] := by kernel_rfl
theorem bs_118_1 (a0 a1 : Value) : bldS A 118 1 [(0, [a0, a1])] 117 [a0, a1] := fun w => by kernel_rfl
theorem z125 : zeroOf A 125 = some [.int .i64 0, .int .i64 0, .int .i64 0, .int .i64 0, .int .i32 0, .int .i32 0] := by kernel_rfl
theorem sz125 : (A.info? 125).map (·.size) = some 6 := by kernel_rfl
theorem fo_125_1 : fieldOff A 125 1 = some 2 := by kernel_rfl
theorem zv4 : zeroV A 4 = some (.bool false) := by kernel_rfl
theorem fo_125_0 : fieldOff A 125 0 = some 0 := by kernel_rfl
theorem zv118 : zeroV A 118 = some (.slice none 0 0) := by kernel_rfl
theorem z25 : zeroOf A 25 = some [.int .i64 0, .int .i64 0, .slice none 0 0, .slice none 0 0] := by kernel_rfl
theorem bd_25 : bld A 25 [] [.int .i64 0, .int .i64 0, .slice none 0 0, .slice none 0 0] := fun w => by kernel_rfl
theorem bd_25_0 (a0 : Value) : bld A 25 [(0, [a0])] [a0, .int .i64 0, .slice none 0 0, .slice none 0 0] := fun w => by kernel_rfl
theorem bs_22_1 (a0 : Value) : bldS A 22 1 [(0, [a0])] 3 [a0] := fun w => by kernel_rfl
theorem sz22 : (A.info? 22).map (·.size) = some 1 := by kernel_rfl
theorem zv3 : zeroV A 3 = some (.int .i64 0) := by kernel_rfl
theorem sz3 : (A.info? 3).map (·.size) = some 1 := by kernel_rfl
theorem fo_125_2 : fieldOff A 125 2 = some 4 := by kernel_rfl
theorem fo_125_3 : fieldOff A 125 3 = some 5 := by kernel_rfl
theorem bd_51_0_1_2_3 (a0 a1 a2 a3 : Value) : bld A 51 [(0, [a0]), (1, [a1]), (2, [a2]), (3, [a3])] [a0, a1, a2, a3] := fun w => by kernel_rfl
theorem sz23 : (A.info? 23).map (·.size) = some 1 := by kernel_rfl
theorem bd_25_0_1 (a0 a1 : Value) : bld A 25 [(0, [a0]), (1, [a1])] [a0, a1, .slice none 0 0, .slice none 0 0] := fun w => by kernel_rfl
theorem bd_51_0_1_2 (a0 a1 a2 : Value) : bld A 51 [(0, [a0]), (1, [a1]), (2, [a2])] [a0, a1, a2, .int .i32 0] := fun w => by kernel_rfl
theorem bd_51_0_1_3 (a0 a1 a2 : Value) : bld A 51 [(0, [a0]), (1, [a1]), (3, [a2])] [a0, a1, .int .i32 0, a2] := fun w => by kernel_rfl
theorem z4 : zeroOf A 4 = some [.bool false] := by kernel_rfl
theorem z3 : zeroOf A 3 = some [.int .i64 0] := by kernel_rfl
theorem fo_63_1 : fieldOff A 63 1 = some 1 := by kernel_rfl
theorem fo_131_2 : fieldOff A 131 2 = some 8 := by kernel_rfl
theorem fo_63_3 : fieldOff A 63 3 = some 3 := by kernel_rfl
theorem fo_131_3 : fieldOff A 131 3 = some 9 := by kernel_rfl
theorem fo_131_0 : fieldOff A 131 0 = some 0 := by kernel_rfl
theorem fo_63_0 : fieldOff A 63 0 = some 0 := by kernel_rfl
theorem fo_131_1 : fieldOff A 131 1 = some 4 := by kernel_rfl
theorem fo_63_2 : fieldOff A 63 2 = some 2 := by kernel_rfl
theorem fo_131_4 : fieldOff A 131 4 = some 10 := by kernel_rfl
theorem bd_63_0_1_2_3 (a0 a1 a2 a3 : Value) : bld A 63 [(0, [a0]), (1, [a1]), (2, [a2]), (3, [a3])] [a0, a1, a2, a3] := fun w => by kernel_rfl
theorem bs_64_1 (a0 a1 a2 a3 : Value) : bldS A 64 1 [(0, [a0, a1, a2, a3])] 63 [a0, a1, a2, a3] := fun w => by kernel_rfl
theorem fo_131_5 : fieldOff A 131 5 = some 11 := by kernel_rfl
theorem zv64 : zeroV A 64 = some (.slice none 0 0) := by kernel_rfl
theorem bs_31_2 (a0 a1 : Value) : bldS A 31 2 [(0, [a0]), (1, [a1])] 9 [a0, a1] := fun w => by kernel_rfl
theorem bd_131_0_1_2_3_4_5 (a0 a1 a2 a3 a4 a5 a6 a7 a8 a9 a10 a11 : Value) : bld A 131 [(0, [a0, a1, a2, a3]), (1, [a4, a5, a6, a7]), (2, [a8]), (3, [a9]), (4, [a10]), (5, [a11])] [a0, a1, a2, a3, a4, a5, a6, a7, a8, a9, a10, a11] := fun w => by kernel_rfl
theorem bd_63_0_2 (a0 a1 : Value) : bld A 63 [(0, [a0]), (2, [a1])] [a0, .int .i64 0, a1, .int .i64 0] := fun w => by kernel_rfl
theorem z63 : zeroOf A 63 = some [.int .i64 0, .int .i64 0, .int .i64 0, .int .i64 0] := by kernel_rfl
theorem sz63 : (A.info? 63).map (·.size) = some 4 := by kernel_rfl
theorem bd_25_0_2_3 (a0 a1 a2 : Value) : bld A 25 [(0, [a0]), (2, [a1]), (3, [a2])] [a0, .int .i64 0, a1, a2] := fun w => by kernel_rfl
theorem bs_54_1 (a0 a1 a2 a3 : Value) : bldS A 54 1 [(0, [a0, a1, a2, a3])] 25 [a0, a1, a2, a3] := fun w => by kernel_rfl
theorem bd_78_0 (a0 : Value) : bld A 78 [(0, [a0])] [a0, .int .i64 0, .int .i64 0] := fun w => by kernel_rfl
theorem bs_80_1 (a0 a1 a2 : Value) : bldS A 80 1 [(0, [a0, a1, a2])] 78 [a0, a1, a2] := fun w => by kernel_rfl
theorem z78 : zeroOf A 78 = some [.int .i64 0, .int .i64 0, .int .i64 0] := by kernel_rfl
theorem sz78 : (A.info? 78).map (·.size) = some 3 := by kernel_rfl
theorem fo_78_1 : fieldOff A 78 1 = some 1 := by kernel_rfl
theorem fo_78_2 : fieldOff A 78 2 = some 2 := by kernel_rfl
theorem fo_78_0 : fieldOff A 78 0 = some 0 := by kernel_rfl
theorem bd_78_0_1_2 (a0 a1 a2 : Value) : bld A 78 [(0, [a0]), (1, [a1]), (2, [a2])] [a0, a1, a2] := fun w => by kernel_rfl
theorem bs_22_0 : bldS A 22 0 [] 3 [] := fun w => by kernel_rfl
theorem z22 : zeroOf A 22 = some [.slice none 0 0] := by kernel_rfl
theorem bd_92_0 (a0 : Value) : bld A 92 [(0, [a0])] [a0, .int .i64 0] := fun w => by kernel_rfl
theorem z92 : zeroOf A 92 = some [.int .i64 0, .int .i64 0] := by kernel_rfl
theorem sz92 : (A.info? 92).map (·.size) = some 2 := by kernel_rfl
theorem bs_90_1 (a0 a1 : Value) : bldS A 90 1 [(0, [a0, a1])] 92 [a0, a1] := fun w => by kernel_rfl
theorem fo_92_0 : fieldOff A 92 0 = some 0 := by kernel_rfl
theorem fo_92_1 : fieldOff A 92 1 = some 1 := by kernel_rfl
theorem bd_92_0_1 (a0 a1 : Value) : bld A 92 [(0, [a0]), (1, [a1])] [a0, a1] := fun w => by kernel_rfl
theorem bd_102_0_1_2 (a0 a1 a2 a3 a4 : Value) : bld A 102 [(0, [a0, a1]), (1, [a2, a3]), (2, [a4])] [a0, a1, a2, a3, a4] := fun w => by kernel_rfl
theorem bs_93_1 (a0 a1 a2 a3 a4 : Value) : bldS A 93 1 [(0, [a0, a1, a2, a3, a4])] 102 [a0, a1, a2, a3, a4] := fun w => by kernel_rfl
theorem bs_90_0 : bldS A 90 0 [] 92 [] := fun w => by kernel_rfl
theorem z102 : zeroOf A 102 = some [.int .i64 0, .int .i64 0, .int .i64 0, .int .i64 0, .int .i32 0] := by kernel_rfl
theorem sz102 : (A.info? 102).map (·.size) = some 5 := by kernel_rfl
theorem fo_102_1 : fieldOff A 102 1 = some 2 := by kernel_rfl
theorem zv93 : zeroV A 93 = some (.slice none 0 0) := by kernel_rfl
theorem fo_102_2 : fieldOff A 102 2 = some 4 := by kernel_rfl
theorem fo_102_0 : fieldOff A 102 0 = some 0 := by kernel_rfl
theorem fo_100_1 : fieldOff A 100 1 = some 1 := by kernel_rfl
theorem fo_100_2 : fieldOff A 100 2 = some 2 := by kernel_rfl
theorem fo_100_0 : fieldOff A 100 0 = some 0 := by kernel_rfl
theorem bs_29_0 : bldS A 29 0 [] 21 [] := fun w => by kernel_rfl
theorem fo_106_1 : fieldOff A 106 1 = some 1 := by kernel_rfl
theorem fo_106_0 : fieldOff A 106 0 = some 0 := by kernel_rfl
theorem bs_29_1 (a0 : Value) : bldS A 29 1 [(0, [a0])] 21 [a0] := fun w => by kernel_rfl
theorem zv90 : zeroV A 90 = some (.slice none 0 0) := by kernel_rfl
theorem bd_106_0_1 (a0 a1 : Value) : bld A 106 [(0, [a0]), (1, [a1])] [a0, a1] := fun w => by kernel_rfl
theorem bs_107_1 (a0 a1 : Value) : bldS A 107 1 [(0, [a0, a1])] 106 [a0, a1] := fun w => by kernel_rfl
theorem bd_100_0_1_2 (a0 a1 a2 : Value) : bld A 100 [(0, [a0]), (1, [a1]), (2, [a2])] [a0, a1, a2] := fun w => by kernel_rfl
theorem z106 : zeroOf A 106 = some [.slice none 0 0, .map none] := by kernel_rfl
theorem sz106 : (A.info? 106).map (·.size) = some 2 := by kernel_rfl
theorem bs_31_1 (a0 : Value) : bldS A 31 1 [(0, [a0])] 9 [a0] := fun w => by kernel_rfl
theorem z142 : zeroOf A 142 = some [.slice none 0 0] := by kernel_rfl
theorem sz142 : (A.info? 142).map (·.size) = some 1 := by kernel_rfl
theorem z149 : zeroOf A 149 = some [.string ⟨#[]⟩, .string ⟨#[]⟩] := by kernel_rfl
theorem sz149 : (A.info? 149).map (·.size) = some 2 := by kernel_rfl
theorem sz9 : (A.info? 9).map (·.size) = some 1 := by kernel_rfl
theorem bd_51_0 (a0 : Value) : bld A 51 [(0, [a0])] [a0, .int .i64 0, .int .i32 0, .int .i32 0] := fun w => by kernel_rfl
theorem sz21 : (A.info? 21).map (·.size) = some 1 := by kernel_rfl
theorem bd_149_0_1 (a0 a1 : Value) : bld A 149 [(0, [a0]), (1, [a1])] [a0, a1] := fun w => by kernel_rfl
theorem bs_148_1 (a0 a1 : Value) : bldS A 148 1 [(0, [a0, a1])] 149 [a0, a1] := fun w => by kernel_rfl
theorem bs_142_1 (a0 : Value) : bldS A 142 1 [(0, [a0])] 4 [a0] := fun w => by kernel_rfl
theorem bs_31_0 : bldS A 31 0 [] 9 [] := fun w => by kernel_rfl
theorem bd_135_0_1 (a0 a1 a2 a3 a4 : Value) : bld A 135 [(0, [a0, a1, a2, a3]), (1, [a4])] [a0, a1, a2, a3, a4] := fun w => by kernel_rfl
theorem bs_133_1 (a0 a1 a2 a3 a4 : Value) : bldS A 133 1 [(0, [a0, a1, a2, a3, a4])] 135 [a0, a1, a2, a3, a4] := fun w => by kernel_rfl
theorem zv133 : zeroV A 133 = some (.slice none 0 0) := by kernel_rfl
theorem sz64 : (A.info? 64).map (·.size) = some 1 := by kernel_rfl
theorem z60 : zeroOf A 60 = some [.map none] := by kernel_rfl
theorem sz60 : (A.info? 60).map (·.size) = some 1 := by kernel_rfl
theorem z64 : zeroOf A 64 = some [.slice none 0 0] := by kernel_rfl
theorem z132 : zeroOf A 132 = some [.map none] := by kernel_rfl
theorem sz132 : (A.info? 132).map (·.size) = some 1 := by kernel_rfl
theorem z135 : zeroOf A 135 = some [.int .i64 0, .int .i64 0, .int .i64 0, .int .i64 0, .int .i64 0] := by kernel_rfl
theorem sz135 : (A.info? 135).map (·.size) = some 5 := by kernel_rfl
theorem fo_135_1 : fieldOff A 135 1 = some 4 := by kernel_rfl
theorem fo_135_0 : fieldOff A 135 0 = some 0 := by kernel_rfl
theorem fo_66_1 : fieldOff A 66 1 = some 1 := by kernel_rfl
theorem fo_66_0 : fieldOff A 66 0 = some 0 := by kernel_rfl
theorem bd_66_0_1 (a0 a1 : Value) : bld A 66 [(0, [a0]), (1, [a1])] [a0, a1] := fun w => by kernel_rfl
theorem bs_67_1 (a0 a1 : Value) : bldS A 67 1 [(0, [a0, a1])] 66 [a0, a1] := fun w => by kernel_rfl
theorem z66 : zeroOf A 66 = some [.string ⟨#[]⟩, .map none] := by kernel_rfl
theorem sz66 : (A.info? 66).map (·.size) = some 2 := by kernel_rfl
theorem bs_54_2 (a0 a1 a2 a3 a4 a5 a6 a7 : Value) : bldS A 54 2 [(0, [a0, a1, a2, a3]), (1, [a4, a5, a6, a7])] 25 [a0, a1, a2, a3, a4, a5, a6, a7] := fun w => by kernel_rfl
theorem bs_31_3 (a0 a1 a2 : Value) : bldS A 31 3 [(0, [a0]), (1, [a1]), (2, [a2])] 9 [a0, a1, a2] := fun w => by kernel_rfl
theorem fo_159_0 : fieldOff A 159 0 = some 0 := by kernel_rfl
theorem fo_159_1 : fieldOff A 159 1 = some 1 := by kernel_rfl
theorem z159 : zeroOf A 159 = some [.int .i64 0, .int .i64 0] := by kernel_rfl
theorem bd_159_0_1 (a0 a1 : Value) : bld A 159 [(0, [a0]), (1, [a1])] [a0, a1] := fun w => by kernel_rfl
theorem sz159 : (A.info? 159).map (·.size) = some 2 := by kernel_rfl
theorem bs_161_1 (a0 a1 : Value) : bldS A 161 1 [(0, [a0, a1])] 159 [a0, a1] := fun w => by kernel_rfl
theorem zv161 : zeroV A 161 = some (.slice none 0 0) := by kernel_rfl
theorem zv9 : zeroV A 9 = some (.string ⟨#[]⟩) := by kernel_rfl
theorem z9 : zeroOf A 9 = some [.string ⟨#[]⟩] := by kernel_rfl
theorem fol : A.follows .mixedOrders = true := by kernel_rfl
end Go.Proofs.YtmjieefhjmiagaaGreatDoor.G
