/- pentaglot/pentaglotlaw05.CompositionFunctional returns true for every input: the card that the seat gives, proved. Conditions: the card's own (its row lists the two tables of unicode/utf8 as the program's text lays them). -/
import Derived.Test.YtmjieefhjmiagaaDoorWL7
import Derived.Test.YtmjieefhjmiagaaDoorGOpn
import Derived.Test.YtmjieefhjmiagaaDoorCards
set_option linter.all false
namespace Go.Proofs.YtmjieefhjmiagaaDoor
open Go Go.ChangeShapes Go.WideShapes Go.ChangeAt Go.RowKit G
set_option maxRecDepth 100000 in
theorem compositionFunctional_lifted (os : Os) (started : os.Started) (H : Type) (enc : TypeId × Value → H) :
    ReturnsInHanded {} Tryd.checked os 8 .any (fun w args => (Rows.compositionFunctionalSpec.pre enc Tryd.prog Tryd.f8 Rows.compositionFunctionalRow.domain false w args ∧ laidMetH Tryd.prog Rows.compositionFunctionalRow.laid w) ∧ sizedMet enc Tryd.prog Tryd.f8 (OpenSpec.ofChange Rows.compositionFunctionalSpec) false w args)
      (Rows.compositionFunctionalSpec.post enc Tryd.prog Tryd.f8 false true false false) := by
  refine returnsInHanded_of_change_and (C := Tryd.checked) (X := fun w _ => laidMetH Tryd.prog Rows.compositionFunctionalRow.laid w) (fun _ _ _ hh h => h.of_heap hh) own started (by kernel_rfl) Tryd.func8
    (ChangeSpec.witness_shaped (enc := enc) (C := Tryd.checked) (os := os) (X := fun w _ => laidMetH Tryd.prog Rows.compositionFunctionalRow.laid w) false (World.laidAll Tryd.prog os Rows.compositionFunctionalRow.laid) #[.agg #[.int .i64 0, .int .i64 0, .slice none 0 0, .slice none 0 0], .slice none 0 0] 8 (World.laidAll_os _ _ _)
      (World.shaped_of_ZipB (by kernel_rfl) (by kernel_rfl)) (by kernel_rfl) (by kernel_rfl) (by kernel_rfl)
      (by rw [MakeChecks.laidMetH_plain _ _ _ (by kernel_rfl)]; exact laidMet_laidAll _ (by kernel_rfl) (by kernel_rfl))) ?_
  intro W base args ds gs before hval0 hW hc _ hL _
  have hval : ∀ (j : Nat) t v, Tryd.f8.params[j]? = some t → args[j]? = some v → Value.okWide Tryd.prog W .any base t v := hval0
  obtain rfl := whole_vars (s := Rows.compositionFunctionalSpec) rfl hW
  have hW' := hW
  obtain ⟨p, q, hA0, hV, rfl, _, _⟩ := hW
  have hA : DataW.TrodAll enc Tryd.prog W 0 (fun _ => true) true Tryd.f8.params.toList args.toList ds p := hA0
  rw [Tryd.params8] at hA hval
  clear hA0
  obtain ⟨l⟩ := args
  change DataW.TrodAll enc Tryd.prog W 0 (fun _ => true) true [25, 42] l ds p at hA
  obtain ⟨v0, l, d0, ds, p0, p, rfl, rfl, rfl, h0, hA⟩ := trodAll_cons hA
  obtain ⟨v1, l, d1, ds, p1, p, rfl, rfl, rfl, h1, hA⟩ := trodAll_cons hA
  obtain ⟨rfl, rfl, rfl⟩ := trodAll_nil hA
  obtain ⟨a0, R0⟩ := open_tra (hval 0 25 v0 rfl rfl) h0
  obtain ⟨u1, a1, rfl, R1⟩ := open_strs (hval 1 42 v1 rfl rfl) h1
  refine (lawFunctional_c a0 a1 (I := hp W) (fun _ _ e => e) (tabs_of hL) R0 R1).mono fun e W' h => ?_
  obtain ⟨rfl, bel⟩ := ret_true h
  exact ⟨_, rfl, law_post laidOut (by kernel_rfl) rfl Tryd.underlying4 rfl rfl hW' bel⟩
theorem compositionFunctional_row : Rows.CompositionFunctionalSaid :=
  OpenClaim.holds_of_wide 8 Tryd.f8 rfl rfl rfl rfl rfl rfl rfl ⟨rfl, rfl, rfl, rfl, rfl⟩ rfl rfl rfl rfl rfl (by kernel_rfl) Tryd.func8 (by kernel_rfl)
    (of_decide_eq_true (by kernel_rfl)) (by unfold Func.isWrapper; first | (rw [if_pos (by decide +kernel)]; kernel_rfl) | (rw [if_neg (by decide +kernel)]; exact ⟨rfl, rfl⟩))
    (fun os started H enc _ => compositionFunctional_lifted os started H enc)
theorem compositionFunctional_holds : Rows.CompositionFunctionalCardSaid :=
  Claim7.holds_tied_plain_at .later [] [.data, .pinned] true (true, "932bda2d749316f23d17011e6cf13aeb389b53526aea5f20b32e499c9858dea6") false compositionFunctional_row (fun _ h => by cases h) (by kernel_rfl) (fun _ h => by cases h) compositionFunctional_row_tie rfl ⟨rfl, rfl⟩ (by kernel_rfl) rfl
    (fun f fn hf hfn => by
      obtain rfl : f = 8 := Option.some.inj ((show Tryd.prog.funcNamed "pentaglot/pentaglotlaw05.CompositionFunctional" = some 8 by kernel_rfl).symm.trans hf) |>.symm
      obtain rfl : fn = Tryd.f8 := (Option.some.inj (Tryd.func8.symm.trans hfn)).symm
      exact ⟨by kernel_rfl, fun j t ht => by
        rw [Tryd.params8] at ht
        have hm : t ∈ [25, 42] := by simpa using Array.mem_of_getElem? ht
        have hall : ([25, 42].all fun u => !Tryd.prog.wantsStandIn u) = true := by kernel_rfl
        exact (show Tryd.prog.wantsStandIn t = false by simpa using List.all_eq_true.1 hall t hm)⟩)
    (by kernel_rfl)
#print axioms compositionFunctional_holds
end Go.Proofs.YtmjieefhjmiagaaDoor
