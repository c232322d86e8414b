/- pentaglot/pentaglotlaw05.CompositionMiddle returns true for every input: the card that the seat gives, proved. Conditions: the card's own (its row lists the two tables of unicode/utf8 as the program's text lays them). -/
import Derived.Test.YtmjieefhjmiagaaGreatDoorWLm
import Derived.Test.YtmjieefhjmiagaaGreatDoorGOpn
import Derived.Test.YtmjieefhjmiagaaGreatDoorCards
set_option linter.all false
namespace Go.Proofs.YtmjieefhjmiagaaGreatDoor
open Go Go.ChangeShapes Go.WideShapes Go.ChangeAt Go.RowKit G
set_option maxRecDepth 100000 in
theorem compositionMiddle_lifted (os : Os) (started : os.Started) (H : Type) (enc : TypeId × Value → H) :
    ReturnsInHanded {} Tryz.checked os 3 .any (fun w args => (Rows.compositionMiddleSpec.pre enc Tryz.prog Tryz.f3 Rows.compositionMiddleRow.domain false w args ∧ laidMetH Tryz.prog Rows.compositionMiddleRow.laid w) ∧ sizedMet enc Tryz.prog Tryz.f3 (OpenSpec.ofChange Rows.compositionMiddleSpec) false w args)
      (Rows.compositionMiddleSpec.post enc Tryz.prog Tryz.f3 false true false false) := by
  refine returnsInHanded_of_change_and (C := Tryz.checked) (X := fun w _ => laidMetH Tryz.prog Rows.compositionMiddleRow.laid w) (fun _ _ _ hh h => h.of_heap hh) own started (by kernel_rfl) Tryz.func3
    (ChangeSpec.witness_shaped (enc := enc) (C := Tryz.checked) (os := os) (X := fun w _ => laidMetH Tryz.prog Rows.compositionMiddleRow.laid w) false (World.laidAll Tryz.prog os Rows.compositionMiddleRow.laid) #[.agg #[.int .i64 0, .int .i64 0, .slice none 0 0, .slice none 0 0], .agg #[.int .i64 0, .int .i64 0, .slice none 0 0, .slice none 0 0], .string ⟨#[]⟩, .string ⟨#[]⟩, .int .i64 0] 8 (World.laidAll_os _ _ _)
      (World.shaped_of_ZipB (by kernel_rfl) (by kernel_rfl)) (by kernel_rfl) (by kernel_rfl) (by kernel_rfl)
      (by rw [MakeChecks.laidMetH_plain _ _ _ (by kernel_rfl)]; exact laidMet_laidAll _ (by kernel_rfl) (by kernel_rfl))) ?_
  intro W base args ds gs before hval0 hW hc _ hL _
  have hval : ∀ (j : Nat) t v, Tryz.f3.params[j]? = some t → args[j]? = some v → Value.okWide Tryz.prog W .any base t v := hval0
  obtain rfl := whole_vars (s := Rows.compositionMiddleSpec) rfl hW
  have hW' := hW
  obtain ⟨p, q, hA0, hV, rfl, _, _⟩ := hW
  have hA : DataW.TrodAll enc Tryz.prog W 0 (fun _ => true) true Tryz.f3.params.toList args.toList ds p := hA0
  rw [Tryz.params3] at hA hval
  clear hA0
  obtain ⟨l⟩ := args
  change DataW.TrodAll enc Tryz.prog W 0 (fun _ => true) true [25, 25, 9, 9, 3] l ds p at hA
  obtain ⟨v0, l, d0, ds, p0, p, rfl, rfl, rfl, h0, hA⟩ := trodAll_cons hA
  obtain ⟨v1, l, d1, ds, p1, p, rfl, rfl, rfl, h1, hA⟩ := trodAll_cons hA
  obtain ⟨v2, l, d2, ds, p2, p, rfl, rfl, rfl, h2, hA⟩ := trodAll_cons hA
  obtain ⟨v3, l, d3, ds, p3, p, rfl, rfl, rfl, h3, hA⟩ := trodAll_cons hA
  obtain ⟨v4, l, d4, ds, p4, p, rfl, rfl, rfl, h4, hA⟩ := trodAll_cons hA
  obtain ⟨rfl, rfl, rfl⟩ := trodAll_nil hA
  obtain ⟨a0, R0⟩ := open_tra (hval 0 25 v0 rfl rfl) h0
  obtain ⟨a1, R1⟩ := open_tra (hval 1 25 v1 rfl rfl) h1
  obtain ⟨a2, rfl⟩ := open_str (hval 2 9 v2 rfl rfl) h2
  obtain ⟨a3, rfl⟩ := open_str (hval 3 9 v3 rfl rfl) h3
  obtain ⟨a4, rfl⟩ := open_int (hval 4 3 v4 rfl rfl) h4
  refine (lawMiddle_c a0 a1 a2 a3 a4 (I := hp W) (fun _ _ e => e) (tabs_of hL) R0 R1).mono fun e W' h => ?_
  obtain ⟨rfl, bel⟩ := ret_true h
  exact ⟨_, rfl, law_post laidOut (by kernel_rfl) rfl Tryz.underlying4 rfl rfl hW' bel⟩
theorem compositionMiddle_row : Rows.CompositionMiddleSaid :=
  OpenClaim.holds_of_wide 3 Tryz.f3 rfl rfl rfl rfl rfl rfl rfl ⟨rfl, rfl, rfl, rfl, rfl⟩ rfl rfl rfl rfl rfl (by kernel_rfl) Tryz.func3 (by kernel_rfl)
    (of_decide_eq_true (by kernel_rfl)) (by unfold Func.isWrapper; first | (rw [if_pos (by decide +kernel)]; kernel_rfl) | (rw [if_neg (by decide +kernel)]; exact ⟨rfl, rfl⟩))
    (fun os started H enc _ => compositionMiddle_lifted os started H enc)
theorem compositionMiddle_holds : Rows.CompositionMiddleCardSaid :=
  Claim7.holds_tied_plain_at .later [] [.data, .pinned] true (true, "16dc36bfdf79750cae8abf94bc380b3c54ee53e91ec856a0fed0661b7c39b46b") false compositionMiddle_row (fun _ h => by cases h) (by kernel_rfl) (fun _ h => by cases h) compositionMiddle_row_tie rfl ⟨rfl, rfl⟩ (by kernel_rfl) rfl
    (fun f fn hf hfn => by
      obtain rfl : f = 3 := Option.some.inj ((show Tryz.prog.funcNamed "pentaglot/pentaglotlaw05.CompositionMiddle" = some 3 by kernel_rfl).symm.trans hf) |>.symm
      obtain rfl : fn = Tryz.f3 := (Option.some.inj (Tryz.func3.symm.trans hfn)).symm
      exact ⟨by kernel_rfl, fun j t ht => by
        rw [Tryz.params3] at ht
        have hm : t ∈ [25, 25, 9, 9, 3] := by simpa using Array.mem_of_getElem? ht
        have hall : ([25, 25, 9, 9, 3].all fun u => !Tryz.prog.wantsStandIn u) = true := by kernel_rfl
        exact (show Tryz.prog.wantsStandIn t = false by simpa using List.all_eq_true.1 hall t hm)⟩)
    (by kernel_rfl)
#print axioms compositionMiddle_holds
end Go.Proofs.YtmjieefhjmiagaaGreatDoor
