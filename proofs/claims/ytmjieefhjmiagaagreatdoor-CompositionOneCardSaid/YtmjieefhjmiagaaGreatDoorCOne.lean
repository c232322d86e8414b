/- pentaglot/pentaglotlaw05.CompositionOne returns true for every input: the card that the seat gives, proved. Conditions: the card's own (its row lists the two tables of unicode/utf8 as the program's text lays them). -/
import Derived.Test.YtmjieefhjmiagaaGreatDoorWLo
import Derived.Test.YtmjieefhjmiagaaGreatDoorGOpn
import Derived.Test.YtmjieefhjmiagaaGreatDoorCards
set_option linter.all false
namespace Go.Proofs.YtmjieefhjmiagaaGreatDoor
open Go Go.ChangeShapes Go.WideShapes Go.ChangeAt Go.RowKit G
set_option maxRecDepth 100000 in
theorem compositionOne_lifted (os : Os) (started : os.Started) (H : Type) (enc : TypeId × Value → H) :
    ReturnsInHanded {} Tryz.checked os 7 .any (fun w args => (Rows.compositionOneSpec.pre enc Tryz.prog Tryz.f7 Rows.compositionOneRow.domain false w args ∧ laidMetH Tryz.prog Rows.compositionOneRow.laid w) ∧ sizedMet enc Tryz.prog Tryz.f7 (OpenSpec.ofChange Rows.compositionOneSpec) false w args)
      (Rows.compositionOneSpec.post enc Tryz.prog Tryz.f7 false true false false) := by
  refine returnsInHanded_of_change_and (C := Tryz.checked) (X := fun w _ => laidMetH Tryz.prog Rows.compositionOneRow.laid w) (fun _ _ _ hh h => h.of_heap hh) own started (by kernel_rfl) Tryz.func7
    (ChangeSpec.witness_shaped (enc := enc) (C := Tryz.checked) (os := os) (X := fun w _ => laidMetH Tryz.prog Rows.compositionOneRow.laid w) false (World.laidAll Tryz.prog os Rows.compositionOneRow.laid) #[.agg #[.int .i64 0, .int .i64 0, .slice none 0 0, .slice none 0 0], .string ⟨#[]⟩, .int .i64 0] 8 (World.laidAll_os _ _ _)
      (World.shaped_of_ZipB (by kernel_rfl) (by kernel_rfl)) (by kernel_rfl) (by kernel_rfl) (by kernel_rfl)
      (by rw [MakeChecks.laidMetH_plain _ _ _ (by kernel_rfl)]; exact laidMet_laidAll _ (by kernel_rfl) (by kernel_rfl))) ?_
  intro W base args ds gs before hval0 hW hc _ hL _
  have hval : ∀ (j : Nat) t v, Tryz.f7.params[j]? = some t → args[j]? = some v → Value.okWide Tryz.prog W .any base t v := hval0
  obtain rfl := whole_vars (s := Rows.compositionOneSpec) rfl hW
  have hW' := hW
  obtain ⟨p, q, hA0, hV, rfl, _, _⟩ := hW
  have hA : DataW.TrodAll enc Tryz.prog W 0 (fun _ => true) true Tryz.f7.params.toList args.toList ds p := hA0
  rw [Tryz.params7] at hA hval
  clear hA0
  obtain ⟨l⟩ := args
  change DataW.TrodAll enc Tryz.prog W 0 (fun _ => true) true [25, 9, 3] l ds p at hA
  obtain ⟨v0, l, d0, ds, p0, p, rfl, rfl, rfl, h0, hA⟩ := trodAll_cons hA
  obtain ⟨v1, l, d1, ds, p1, p, rfl, rfl, rfl, h1, hA⟩ := trodAll_cons hA
  obtain ⟨v2, l, d2, ds, p2, p, rfl, rfl, rfl, h2, hA⟩ := trodAll_cons hA
  obtain ⟨rfl, rfl, rfl⟩ := trodAll_nil hA
  obtain ⟨a0, R0⟩ := open_tra (hval 0 25 v0 rfl rfl) h0
  obtain ⟨a1, rfl⟩ := open_str (hval 1 9 v1 rfl rfl) h1
  obtain ⟨a2, rfl⟩ := open_int (hval 2 3 v2 rfl rfl) h2
  refine (lawOne_c a0 a1 a2 (I := hp W) (fun _ _ e => e) (tabs_of hL) R0).mono fun e W' h => ?_
  obtain ⟨rfl, bel⟩ := ret_true h
  exact ⟨_, rfl, law_post laidOut (by kernel_rfl) rfl Tryz.underlying4 rfl rfl hW' bel⟩
theorem compositionOne_row : Rows.CompositionOneSaid :=
  OpenClaim.holds_of_wide 7 Tryz.f7 rfl rfl rfl rfl rfl rfl rfl ⟨rfl, rfl, rfl, rfl, rfl⟩ rfl rfl rfl rfl rfl (by kernel_rfl) Tryz.func7 (by kernel_rfl)
    (of_decide_eq_true (by kernel_rfl)) (by unfold Func.isWrapper; first | (rw [if_pos (by decide +kernel)]; kernel_rfl) | (rw [if_neg (by decide +kernel)]; exact ⟨rfl, rfl⟩))
    (fun os started H enc _ => compositionOne_lifted os started H enc)
theorem compositionOne_holds : Rows.CompositionOneCardSaid :=
  Claim7.holds_tied_plain_at .later [] [.data, .pinned] true (true, "16dc36bfdf79750cae8abf94bc380b3c54ee53e91ec856a0fed0661b7c39b46b") false compositionOne_row (fun _ h => by cases h) (by kernel_rfl) (fun _ h => by cases h) compositionOne_row_tie rfl ⟨rfl, rfl⟩ (by kernel_rfl) rfl
    (fun f fn hf hfn => by
      obtain rfl : f = 7 := Option.some.inj ((show Tryz.prog.funcNamed "pentaglot/pentaglotlaw05.CompositionOne" = some 7 by kernel_rfl).symm.trans hf) |>.symm
      obtain rfl : fn = Tryz.f7 := (Option.some.inj (Tryz.func7.symm.trans hfn)).symm
      exact ⟨by kernel_rfl, fun j t ht => by
        rw [Tryz.params7] at ht
        have hm : t ∈ [25, 9, 3] := by simpa using Array.mem_of_getElem? ht
        have hall : ([25, 9, 3].all fun u => !Tryz.prog.wantsStandIn u) = true := by kernel_rfl
        exact (show Tryz.prog.wantsStandIn t = false by simpa using List.all_eq_true.1 hall t hm)⟩)
    (by kernel_rfl)
#print axioms compositionOne_holds
end Go.Proofs.YtmjieefhjmiagaaGreatDoor
