/- The numbers of this seat: element types, key types, facts of the types. -/
import Derived.Test.YtfepjcmjkaolgaaGreatDoorGStr
import Derived.Test.YtfepjcmjkaolgaaGreatDoorProg
set_option linter.all false
namespace Go.Proofs.YtfepjcmjkaolgaaGreatDoor.G
open Go Go.RowKit
noncomputable abbrev A := Tryz.prog
noncomputable def EInt : ET A Int := ET.one1 3 8 (fun n => .int .i64 n) _ Tryz.underlying3 rfl (.int .i64 0) rfl (by kernel_rfl) (by decide) (fun _ => rfl)
noncomputable def ERune : ET A Int := ET.one1 21 4 (fun n => .int .i32 n) _ Tryz.underlying21 rfl (.int .i32 0) rfl (by kernel_rfl) (by decide) (fun _ => rfl)
noncomputable def EBool : ET A Bool := ET.one1 4 1 (fun b => .bool b) _ Tryz.underlying4 rfl (.bool false) rfl (by kernel_rfl) (by decide) (fun _ => rfl)
noncomputable def EStr : ET A ByteArray := ET.one1 9 16 (fun s => .string s) _ Tryz.underlying9 rfl (.string ⟨#[]⟩) rfl (by kernel_rfl) (by decide) (fun _ => rfl)
noncomputable def EArc : ET A Arc := ET.agg 40 4 24 Arc.cells _ Tryz.underlying40 rfl (.agg #[.int .i64 0, .int .i64 0, .int .i32 0, .int .i32 0]) rfl (by kernel_rfl) (by decide) (by decide) (fun _ => rfl) (fun x v hv => by simp [Arc.cells] at hv; rcases hv with rfl | rfl | rfl | rfl <;> rfl)
noncomputable def QArc : KT A Arc := KT.ints 40 [.i64, .i64, .i32, .i32] (fun x => [x.src, x.dst, x.inp, x.out]) Arc.cells _ Tryz.underlying40 (by kernel_rfl) (by kernel_rfl) rfl (fun _ => rfl) (fun _ => rfl) (fun a b h => by cases a; cases b; simpa using h) (fun x => sb_ints _ rfl)
noncomputable def EPlace : ET A Place := ET.agg 82 3 24 Place.cells _ Tryz.underlying82 rfl (.agg #[.int .i64 0, .int .i64 0, .int .i64 0]) rfl (by kernel_rfl) (by decide) (by decide) (fun _ => rfl) (fun x v hv => by simp [Place.cells] at hv; rcases hv with rfl | rfl | rfl <;> rfl)
noncomputable def QPlace : KT A Place := KT.ints 82 [.i64, .i64, .i64] (fun x => [x.state, x.inn, x.out]) Place.cells _ Tryz.underlying82 (by kernel_rfl) (by kernel_rfl) rfl (fun _ => rfl) (fun _ => rfl) (fun a b h => by cases a; cases b; simpa using h) (fun x => sb_ints _ rfl)
noncomputable def ETCfg : ET A TCfg := ET.agg 50 2 16 TCfg.cells _ Tryz.underlying50 rfl (.agg #[.int .i64 0, .int .i64 0]) rfl (by kernel_rfl) (by decide) (by decide) (fun _ => rfl) (fun x v hv => by simp [TCfg.cells] at hv; rcases hv with rfl | rfl <;> rfl)
noncomputable def QTCfg : KT A TCfg := KT.ints 50 [.i64, .i64] (fun x => [x.state, x.pos]) TCfg.cells _ Tryz.underlying50 (by kernel_rfl) (by kernel_rfl) rfl (fun _ => rfl) (fun _ => rfl) (fun a b h => by cases a; cases b; simpa using h) (fun x => sb_ints _ rfl)
noncomputable def QLbl : KT A Lbl := KT.ints 88 [.i64, .i32] (fun x => [x.src, x.inp]) Lbl.cells _ Tryz.underlying88 (by kernel_rfl) (by kernel_rfl) rfl (fun _ => rfl) (fun _ => rfl) (fun a b h => by cases a; cases b; simpa using h) (fun x => sb_ints _ rfl)
noncomputable def EMove : ET A Move := ET.agg 60 5 40 Move.cells _ Tryz.underlying60 rfl (.agg #[.int .i64 0, .int .i64 0, .int .i64 0, .int .i64 0, .int .i32 0]) rfl (by kernel_rfl) (by decide) (by decide) (fun _ => rfl) (fun x v hv => by simp [Move.cells] at hv; rcases hv with rfl | rfl | rfl | rfl | rfl <;> rfl)
noncomputable def QArcE : EqT A Arc := EqT.ints 40 [.i64, .i64, .i32, .i32] (fun x => [x.src, x.dst, x.inp, x.out]) Arc.cells _ Tryz.underlying40 (by kernel_rfl) (by kernel_rfl) rfl (fun _ => rfl) (fun _ => rfl) (fun a b h => by cases a; cases b; simpa using h) (by kernel_rfl)
noncomputable def ETra : ET A RTra := ET.agg 25 4 64 RTra.cells _ Tryz.underlying25 rfl (.agg #[.int .i64 0, .int .i64 0, .slice none 0 0, .slice none 0 0]) rfl (by kernel_rfl) (by decide) (by decide) (fun _ => rfl) (fun x v hv => by simp [RTra.cells] at hv; rcases hv with rfl | rfl | rfl | rfl <;> rfl)
noncomputable def QRune : KT A Int := KT.int 21 .i32 Tryz.underlying21
noncomputable def VInt : ET A SV := ESl 22 3 Tryz.underlying22 (by kernel_rfl)
noncomputable def VArc : ET A SV := ESl 23 40 Tryz.underlying23 (by kernel_rfl)
theorem fo_25_0 : fieldOff A 25 0 = some 0 := by kernel_rfl
theorem fo_25_3 : fieldOff A 25 3 = some 3 := by kernel_rfl
theorem fo_25_2 : fieldOff A 25 2 = some 2 := by kernel_rfl
theorem z40 : zeroOf A 40 = some [.int .i64 0, .int .i64 0, .int .i32 0, .int .i32 0] := by kernel_rfl
theorem sz40 : (A.info? 40).map (·.size) = some 4 := by kernel_rfl
theorem fo_40_0 : fieldOff A 40 0 = some 0 := by kernel_rfl
theorem fo_40_1 : fieldOff A 40 1 = some 1 := by kernel_rfl
theorem fo_40_2 : fieldOff A 40 2 = some 2 := by kernel_rfl
theorem fo_40_3 : fieldOff A 40 3 = some 3 := by kernel_rfl
theorem fo_25_1 : fieldOff A 25 1 = some 1 := by kernel_rfl
theorem z23 : zeroOf A 23 = some [.slice none 0 0] := by kernel_rfl
theorem bs_23_1 (a0 a1 a2 a3 : Value) : bldS A 23 1 [(0, [a0, a1, a2, a3])] 40 [a0, a1, a2, a3] := fun w => by kernel_rfl
theorem sz25 : (A.info? 25).map (·.size) = some 4 := by kernel_rfl
theorem bd_82_0 (a0 : Value) : bld A 82 [(0, [a0])] [a0, .int .i64 0, .int .i64 0] := fun w => by kernel_rfl
theorem bs_84_1 (a0 a1 a2 : Value) : bldS A 84 1 [(0, [a0, a1, a2])] 82 [a0, a1, a2] := fun w => by kernel_rfl
theorem z82 : zeroOf A 82 = some [.int .i64 0, .int .i64 0, .int .i64 0] := by kernel_rfl
theorem sz82 : (A.info? 82).map (·.size) = some 3 := by kernel_rfl
theorem fo_82_1 : fieldOff A 82 1 = some 1 := by kernel_rfl
theorem fo_82_2 : fieldOff A 82 2 = some 2 := by kernel_rfl
theorem fo_82_0 : fieldOff A 82 0 = some 0 := by kernel_rfl
theorem bd_82_0_1_2 (a0 a1 a2 : Value) : bld A 82 [(0, [a0]), (1, [a1]), (2, [a2])] [a0, a1, a2] := fun w => by kernel_rfl
theorem sz3 : (A.info? 3).map (·.size) = some 1 := by kernel_rfl
theorem zv4 : zeroV A 4 = some (.bool false) := by kernel_rfl
theorem bs_22_0 : bldS A 22 0 [] 3 [] := fun w => by kernel_rfl
theorem z22 : zeroOf A 22 = some [.slice none 0 0] := by kernel_rfl
theorem bs_22_1 (a0 : Value) : bldS A 22 1 [(0, [a0])] 3 [a0] := fun w => by kernel_rfl
theorem z4 : zeroOf A 4 = some [.bool false] := by kernel_rfl
theorem bs_22_4 (a0 a1 a2 a3 : Value) : bldS A 22 4 [(0, [a0]), (1, [a1]), (2, [a2]), (3, [a3])] 3 [a0, a1, a2, a3] := fun w => by kernel_rfl
theorem z25 : zeroOf A 25 = some [.int .i64 0, .int .i64 0, .slice none 0 0, .slice none 0 0] := by kernel_rfl
theorem bd_25 : bld A 25 [] [.int .i64 0, .int .i64 0, .slice none 0 0, .slice none 0 0] := fun w => by kernel_rfl
theorem bd_25_0 (a0 : Value) : bld A 25 [(0, [a0])] [a0, .int .i64 0, .slice none 0 0, .slice none 0 0] := fun w => by kernel_rfl
theorem z3 : zeroOf A 3 = some [.int .i64 0] := by kernel_rfl
theorem sz22 : (A.info? 22).map (·.size) = some 1 := by kernel_rfl
theorem bd_40_0_1_2_3 (a0 a1 a2 a3 : Value) : bld A 40 [(0, [a0]), (1, [a1]), (2, [a2]), (3, [a3])] [a0, a1, a2, a3] := fun w => by kernel_rfl
theorem sz23 : (A.info? 23).map (·.size) = some 1 := by kernel_rfl
theorem bd_50_0 (a0 : Value) : bld A 50 [(0, [a0])] [a0, .int .i64 0] := fun w => by kernel_rfl
theorem z50 : zeroOf A 50 = some [.int .i64 0, .int .i64 0] := by kernel_rfl
theorem sz50 : (A.info? 50).map (·.size) = some 2 := by kernel_rfl
theorem bs_48_1 (a0 a1 : Value) : bldS A 48 1 [(0, [a0, a1])] 50 [a0, a1] := fun w => by kernel_rfl
theorem fo_50_0 : fieldOff A 50 0 = some 0 := by kernel_rfl
theorem fo_50_1 : fieldOff A 50 1 = some 1 := by kernel_rfl
theorem bd_50_0_1 (a0 a1 : Value) : bld A 50 [(0, [a0]), (1, [a1])] [a0, a1] := fun w => by kernel_rfl
theorem bd_60_0_1_2 (a0 a1 a2 a3 a4 : Value) : bld A 60 [(0, [a0, a1]), (1, [a2, a3]), (2, [a4])] [a0, a1, a2, a3, a4] := fun w => by kernel_rfl
theorem bs_51_1 (a0 a1 a2 a3 a4 : Value) : bldS A 51 1 [(0, [a0, a1, a2, a3, a4])] 60 [a0, a1, a2, a3, a4] := fun w => by kernel_rfl
theorem bs_48_0 : bldS A 48 0 [] 50 [] := fun w => by kernel_rfl
theorem z60 : zeroOf A 60 = some [.int .i64 0, .int .i64 0, .int .i64 0, .int .i64 0, .int .i32 0] := by kernel_rfl
theorem sz60 : (A.info? 60).map (·.size) = some 5 := by kernel_rfl
theorem fo_60_1 : fieldOff A 60 1 = some 2 := by kernel_rfl
theorem zv51 : zeroV A 51 = some (.slice none 0 0) := by kernel_rfl
theorem zv3 : zeroV A 3 = some (.int .i64 0) := by kernel_rfl
theorem fo_60_2 : fieldOff A 60 2 = some 4 := by kernel_rfl
theorem fo_60_0 : fieldOff A 60 0 = some 0 := by kernel_rfl
theorem fo_58_1 : fieldOff A 58 1 = some 1 := by kernel_rfl
theorem fo_58_2 : fieldOff A 58 2 = some 2 := by kernel_rfl
theorem fo_58_0 : fieldOff A 58 0 = some 0 := by kernel_rfl
theorem bs_37_0 : bldS A 37 0 [] 21 [] := fun w => by kernel_rfl
theorem fo_64_1 : fieldOff A 64 1 = some 1 := by kernel_rfl
theorem fo_64_0 : fieldOff A 64 0 = some 0 := by kernel_rfl
theorem bs_37_1 (a0 : Value) : bldS A 37 1 [(0, [a0])] 21 [a0] := fun w => by kernel_rfl
theorem zv48 : zeroV A 48 = some (.slice none 0 0) := by kernel_rfl
theorem bd_64_0_1 (a0 a1 : Value) : bld A 64 [(0, [a0]), (1, [a1])] [a0, a1] := fun w => by kernel_rfl
theorem bs_65_1 (a0 a1 : Value) : bldS A 65 1 [(0, [a0, a1])] 64 [a0, a1] := fun w => by kernel_rfl
theorem bd_58_0_1_2 (a0 a1 a2 : Value) : bld A 58 [(0, [a0]), (1, [a1]), (2, [a2])] [a0, a1, a2] := fun w => by kernel_rfl
theorem z64 : zeroOf A 64 = some [.slice none 0 0, .map none] := by kernel_rfl
theorem sz64 : (A.info? 64).map (·.size) = some 2 := by kernel_rfl
theorem bs_29_1 (a0 : Value) : bldS A 29 1 [(0, [a0])] 9 [a0] := fun w => by kernel_rfl
theorem bd_88_0_1 (a0 a1 : Value) : bld A 88 [(0, [a0]), (1, [a1])] [a0, a1] := fun w => by kernel_rfl
theorem z88 : zeroOf A 88 = some [.int .i64 0, .int .i32 0] := by kernel_rfl
theorem sz88 : (A.info? 88).map (·.size) = some 2 := by kernel_rfl
theorem bs_23_2 (a0 a1 a2 a3 a4 a5 a6 a7 : Value) : bldS A 23 2 [(0, [a0, a1, a2, a3]), (1, [a4, a5, a6, a7])] 40 [a0, a1, a2, a3, a4, a5, a6, a7] := fun w => by kernel_rfl
theorem bd_25_0_2_3 (a0 a1 a2 : Value) : bld A 25 [(0, [a0]), (2, [a1]), (3, [a2])] [a0, .int .i64 0, a1, a2] := fun w => by kernel_rfl
theorem bs_75_0 : bldS A 75 0 [] 4 [] := fun w => by kernel_rfl
theorem bs_29_0 : bldS A 29 0 [] 9 [] := fun w => by kernel_rfl
theorem fol : A.follows .mixedOrders = true := by kernel_rfl
end Go.Proofs.YtfepjcmjkaolgaaGreatDoor.G
