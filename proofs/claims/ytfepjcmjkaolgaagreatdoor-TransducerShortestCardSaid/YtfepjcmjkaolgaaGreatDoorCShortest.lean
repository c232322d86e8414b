/- pentaglot/pentaglotlaw03.TransducerShortest returns true for every input: the card that the seat gives, proved. Conditions: the card's own (its row lists the two tables of unicode/utf8 as the program's text lays them). -/
import Derived.Test.YtfepjcmjkaolgaaGreatDoorWL7
import Derived.Test.YtfepjcmjkaolgaaGreatDoorGOpn
import Derived.Test.YtfepjcmjkaolgaaGreatDoorCards
set_option linter.all false
namespace Go.Proofs.YtfepjcmjkaolgaaGreatDoor
open Go Go.ChangeShapes Go.WideShapes Go.ChangeAt Go.RowKit G
set_option maxRecDepth 100000 in
theorem transducerShortest_lifted (os : Os) (started : os.Started) (H : Type) (enc : TypeId × Value → H) :
    ReturnsInHanded {} Tryz.checked os 4 .any (fun w args => (Rows.transducerShortestSpec.pre enc Tryz.prog Tryz.f4 Rows.transducerShortestRow.domain false w args ∧ laidMetH Tryz.prog Rows.transducerShortestRow.laid w) ∧ sizedMet enc Tryz.prog Tryz.f4 (OpenSpec.ofChange Rows.transducerShortestSpec) false w args)
      (Rows.transducerShortestSpec.post enc Tryz.prog Tryz.f4 false true false false) := by
  refine returnsInHanded_of_change_and (C := Tryz.checked) (X := fun w _ => laidMetH Tryz.prog Rows.transducerShortestRow.laid w) (fun _ _ _ hh h => h.of_heap hh) own started (by kernel_rfl) Tryz.func4
    (ChangeSpec.witness_shaped (enc := enc) (C := Tryz.checked) (os := os) (X := fun w _ => laidMetH Tryz.prog Rows.transducerShortestRow.laid w) false (World.laidAll Tryz.prog os Rows.transducerShortestRow.laid) #[.agg #[.int .i64 0, .int .i64 0, .slice none 0 0, .slice none 0 0]] 8 (World.laidAll_os _ _ _)
      (World.shaped_of_ZipB (by kernel_rfl) (by kernel_rfl)) (by kernel_rfl) (by kernel_rfl) (by kernel_rfl)
      (by rw [MakeChecks.laidMetH_plain _ _ _ (by kernel_rfl)]; exact laidMet_laidAll _ (by kernel_rfl) (by kernel_rfl))) ?_
  intro W base args ds gs before hval0 hW hc _ hL _
  have hval : ∀ (j : Nat) t v, Tryz.f4.params[j]? = some t → args[j]? = some v → Value.okWide Tryz.prog W .any base t v := hval0
  obtain rfl := whole_vars (s := Rows.transducerShortestSpec) rfl hW
  have hW' := hW
  obtain ⟨p, q, hA0, hV, rfl, _, _⟩ := hW
  have hA : DataW.TrodAll enc Tryz.prog W 0 (fun _ => true) true Tryz.f4.params.toList args.toList ds p := hA0
  rw [Tryz.params4] at hA hval
  clear hA0
  obtain ⟨l⟩ := args
  change DataW.TrodAll enc Tryz.prog W 0 (fun _ => true) true [25] l ds p at hA
  obtain ⟨v0, l, d0, ds, p0, p, rfl, rfl, rfl, h0, hA⟩ := trodAll_cons hA
  obtain ⟨rfl, rfl, rfl⟩ := trodAll_nil hA
  obtain ⟨a0, R0⟩ := open_tra (hval 0 25 v0 rfl rfl) h0
  refine (lawShortest_c a0 (I := hp W) (fun _ _ e => e) (tabs_of hL) R0).mono fun e W' h => ?_
  obtain ⟨rfl, bel⟩ := ret_true h
  exact ⟨_, rfl, law_post laidOut (by kernel_rfl) rfl Tryz.underlying4 rfl rfl hW' bel⟩
theorem transducerShortest_row : Rows.TransducerShortestSaid :=
  OpenClaim.holds_of_wide 4 Tryz.f4 rfl rfl rfl rfl rfl rfl rfl ⟨rfl, rfl, rfl, rfl, rfl⟩ rfl rfl rfl rfl rfl (by kernel_rfl) Tryz.func4 (by kernel_rfl)
    (of_decide_eq_true (by kernel_rfl)) (by unfold Func.isWrapper; first | (rw [if_pos (by decide +kernel)]; kernel_rfl) | (rw [if_neg (by decide +kernel)]; exact ⟨rfl, rfl⟩))
    (fun os started H enc _ => transducerShortest_lifted os started H enc)
theorem transducerShortest_holds : Rows.TransducerShortestCardSaid :=
  Claim7.holds_tied_plain_at .later [] [.data, .pinned] true (true, "f1384d23b6fc7c77f7a4f3c355add41f01147e8a1db8ae5475613cc76d1e75a7") false transducerShortest_row (fun _ h => by cases h) (by kernel_rfl) (fun _ h => by cases h) transducerShortest_row_tie rfl ⟨rfl, rfl⟩ (by kernel_rfl) rfl
    (fun f fn hf hfn => by
      obtain rfl : f = 4 := Option.some.inj ((show Tryz.prog.funcNamed "pentaglot/pentaglotlaw03.TransducerShortest" = some 4 by kernel_rfl).symm.trans hf) |>.symm
      obtain rfl : fn = Tryz.f4 := (Option.some.inj (Tryz.func4.symm.trans hfn)).symm
      exact ⟨by kernel_rfl, fun j t ht => by
        rw [Tryz.params4] at ht
        have hm : t ∈ [25] := by simpa using Array.mem_of_getElem? ht
        have hall : ([25].all fun u => !Tryz.prog.wantsStandIn u) = true := by kernel_rfl
        exact (show Tryz.prog.wantsStandIn t = false by simpa using List.all_eq_true.1 hall t hm)⟩)
    (by kernel_rfl)
#print axioms transducerShortest_holds
end Go.Proofs.YtfepjcmjkaolgaaGreatDoor
