/- pentaglot/pentaglotlaw03.TransducerRelates returns true for every input: the card that the seat gives, proved. Conditions: the card's own (its row lists the two tables of unicode/utf8 as the program's text lays them). -/
import Derived.Test.YtfepjcmjkaolgaaDoorWL5
import Derived.Test.YtfepjcmjkaolgaaDoorGOpn
import Derived.Test.YtfepjcmjkaolgaaDoorCards
set_option linter.all false
namespace Go.Proofs.YtfepjcmjkaolgaaDoor
open Go Go.ChangeShapes Go.WideShapes Go.ChangeAt Go.RowKit G
set_option maxRecDepth 100000 in
theorem transducerRelates_lifted (os : Os) (started : os.Started) (H : Type) (enc : TypeId × Value → H) :
    ReturnsInHanded {} Tryd.checked os 3 .any (fun w args => (Rows.transducerRelatesSpec.pre enc Tryd.prog Tryd.f3 Rows.transducerRelatesRow.domain false w args ∧ laidMetH Tryd.prog Rows.transducerRelatesRow.laid w) ∧ sizedMet enc Tryd.prog Tryd.f3 (OpenSpec.ofChange Rows.transducerRelatesSpec) false w args)
      (Rows.transducerRelatesSpec.post enc Tryd.prog Tryd.f3 false true false false) := by
  refine returnsInHanded_of_change_and (C := Tryd.checked) (X := fun w _ => laidMetH Tryd.prog Rows.transducerRelatesRow.laid w) (fun _ _ _ hh h => h.of_heap hh) own started (by kernel_rfl) Tryd.func3
    (ChangeSpec.witness_shaped (enc := enc) (C := Tryd.checked) (os := os) (X := fun w _ => laidMetH Tryd.prog Rows.transducerRelatesRow.laid w) false (World.laidAll Tryd.prog os Rows.transducerRelatesRow.laid) #[.agg #[.int .i64 0, .int .i64 0, .slice none 0 0, .slice none 0 0], .string ⟨#[]⟩, .string ⟨#[]⟩] 8 (World.laidAll_os _ _ _)
      (World.shaped_of_ZipB (by kernel_rfl) (by kernel_rfl)) (by kernel_rfl) (by kernel_rfl) (by kernel_rfl)
      (by rw [MakeChecks.laidMetH_plain _ _ _ (by kernel_rfl)]; exact laidMet_laidAll _ (by kernel_rfl) (by kernel_rfl))) ?_
  intro W base args ds gs before hval0 hW hc _ hL _
  have hval : ∀ (j : Nat) t v, Tryd.f3.params[j]? = some t → args[j]? = some v → Value.okWide Tryd.prog W .any base t v := hval0
  obtain rfl := whole_vars (s := Rows.transducerRelatesSpec) rfl hW
  have hW' := hW
  obtain ⟨p, q, hA0, hV, rfl, _, _⟩ := hW
  have hA : DataW.TrodAll enc Tryd.prog W 0 (fun _ => true) true Tryd.f3.params.toList args.toList ds p := hA0
  rw [Tryd.params3] at hA hval
  clear hA0
  obtain ⟨l⟩ := args
  change DataW.TrodAll enc Tryd.prog W 0 (fun _ => true) true [25, 9, 9] l ds p at hA
  obtain ⟨v0, l, d0, ds, p0, p, rfl, rfl, rfl, h0, hA⟩ := trodAll_cons hA
  obtain ⟨v1, l, d1, ds, p1, p, rfl, rfl, rfl, h1, hA⟩ := trodAll_cons hA
  obtain ⟨v2, l, d2, ds, p2, p, rfl, rfl, rfl, h2, hA⟩ := trodAll_cons hA
  obtain ⟨rfl, rfl, rfl⟩ := trodAll_nil hA
  obtain ⟨a0, R0⟩ := open_tra (hval 0 25 v0 rfl rfl) h0
  obtain ⟨a1, rfl⟩ := open_str (hval 1 9 v1 rfl rfl) h1
  obtain ⟨a2, rfl⟩ := open_str (hval 2 9 v2 rfl rfl) h2
  refine (lawRelates3_c a0 a1 a2 (I := hp W) (fun _ _ e => e) (tabs_of hL) R0).mono fun e W' h => ?_
  obtain ⟨rfl, bel⟩ := ret_true h
  exact ⟨_, rfl, law_post laidOut (by kernel_rfl) rfl Tryd.underlying4 rfl rfl hW' bel⟩
theorem transducerRelates_row : Rows.TransducerRelatesSaid :=
  OpenClaim.holds_of_wide 3 Tryd.f3 rfl rfl rfl rfl rfl rfl rfl ⟨rfl, rfl, rfl, rfl, rfl⟩ rfl rfl rfl rfl rfl (by kernel_rfl) Tryd.func3 (by kernel_rfl)
    (of_decide_eq_true (by kernel_rfl)) (by unfold Func.isWrapper; first | (rw [if_pos (by decide +kernel)]; kernel_rfl) | (rw [if_neg (by decide +kernel)]; exact ⟨rfl, rfl⟩))
    (fun os started H enc _ => transducerRelates_lifted os started H enc)
theorem transducerRelates_holds : Rows.TransducerRelatesCardSaid :=
  Claim7.holds_tied_plain_at .later [] [.data, .pinned] true (true, "035beac27bb513dbc2d968bc340404574a74f61a54cf153216acd79aa4444186") false transducerRelates_row (fun _ h => by cases h) (by kernel_rfl) (fun _ h => by cases h) transducerRelates_row_tie rfl ⟨rfl, rfl⟩ (by kernel_rfl) rfl
    (fun f fn hf hfn => by
      obtain rfl : f = 3 := Option.some.inj ((show Tryd.prog.funcNamed "pentaglot/pentaglotlaw03.TransducerRelates" = some 3 by kernel_rfl).symm.trans hf) |>.symm
      obtain rfl : fn = Tryd.f3 := (Option.some.inj (Tryd.func3.symm.trans hfn)).symm
      exact ⟨by kernel_rfl, fun j t ht => by
        rw [Tryd.params3] at ht
        have hm : t ∈ [25, 9, 9] := by simpa using Array.mem_of_getElem? ht
        have hall : ([25, 9, 9].all fun u => !Tryd.prog.wantsStandIn u) = true := by kernel_rfl
        exact (show Tryd.prog.wantsStandIn t = false by simpa using List.all_eq_true.1 hall t hm)⟩)
    (by kernel_rfl)
#print axioms transducerRelates_holds
end Go.Proofs.YtfepjcmjkaolgaaDoor
