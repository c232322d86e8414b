/- pentaglot/pentaglotlaw03.TransducerOutputsOrder returns true for every input: the row that the seat gives, proved. No condition. -/
import Derived.Test.YtfepjcmjkaolgaaWL5
import Derived.Test.YtfepjcmjkaolgaaGOpn
set_option linter.all false
namespace Go.Proofs.Ytfepjcmjkaolgaa
open Go Go.ChangeShapes Go.WideShapes Go.ChangeAt Go.RowKit G
set_option maxRecDepth 100000 in
theorem transducerOutputsOrder_lifted (os : Os) (started : os.Started) (H : Type) (enc : TypeId × Value → H) :
    ReturnsInHanded {} Try.checked os 4 .any (Rows.transducerOutputsOrderSpec.pre6 enc Try.prog Try.f4 Rows.transducerOutputsOrderRow.domain false) (Rows.transducerOutputsOrderSpec.post enc Try.prog Try.f4 false true false false) := by
  refine returnsInHanded_of_change (C := Try.checked) own started (by kernel_rfl) Try.func4
    (ChangeSpec.witness6 (enc := enc) (C := Try.checked) false ⟨#[], #[.agg #[.int .i64 0, .int .i64 0, .slice none 0 0, .slice none 0 0], .string ⟨#[]⟩, .int .u8 0, .int .u8 0], []⟩ 8 (by kernel_rfl) (by kernel_rfl) (by kernel_rfl) (by kernel_rfl)) ?_
  intro W base args ds gs before hval0 hW hcnd _
  have hval : ∀ (j : Nat) t v, Try.f4.params[j]? = some t → args[j]? = some v → Value.okWide Try.prog W .any base t v := hval0
  obtain rfl := whole_vars (s := Rows.transducerOutputsOrderSpec) rfl hW
  have hW' := hW
  obtain ⟨p, q, hA0, hV, rfl, _, _⟩ := hW
  have hA : DataW.TrodAll enc Try.prog W 0 (fun _ => true) true Try.f4.params.toList args.toList ds p := hA0
  rw [Try.params4] at hA hval
  clear hA0
  obtain ⟨l⟩ := args
  change DataW.TrodAll enc Try.prog W 0 (fun _ => true) true [25, 9, 5, 5] l ds p at hA
  obtain ⟨v0, l, d0, ds, p0, p, rfl, rfl, rfl, h0, hA⟩ := trodAll_cons hA
  obtain ⟨v1, l, d1, ds, p1, p, rfl, rfl, rfl, h1, hA⟩ := trodAll_cons hA
  obtain ⟨v2, l, d2, ds, p2, p, rfl, rfl, rfl, h2, hA⟩ := trodAll_cons hA
  obtain ⟨v3, l, d3, ds, p3, p, rfl, rfl, rfl, h3, hA⟩ := trodAll_cons hA
  obtain ⟨rfl, rfl, rfl⟩ := trodAll_nil hA
  obtain ⟨a0, R0⟩ := open_tra (hval 0 25 v0 rfl rfl) h0
  obtain ⟨a1, rfl⟩ := open_str (hval 1 9 v1 rfl rfl) h1
  obtain ⟨a2, rfl, hu2⟩ := open_u8 (hval 2 5 v2 rfl rfl) h2
  obtain ⟨a3, rfl, hu3⟩ := open_u8 (hval 3 5 v3 rfl rfl) h3
  refine (lawOrder_c a0 a1 a2 a3 hu2 hu3 (I := hp W) (fun _ _ e => e) R0).mono fun e W' h => ?_
  obtain ⟨rfl, bel⟩ := ret_true h
  exact ⟨_, rfl, law_post laidOut (by kernel_rfl) rfl Try.underlying4 rfl rfl hW' bel⟩
theorem transducerOutputsOrder_row : Rows.TransducerOutputsOrderSaid :=
  OpenClaim.holds_of_wide 4 Try.f4 rfl rfl rfl rfl rfl rfl rfl ⟨rfl, rfl, rfl, rfl, rfl⟩ rfl rfl rfl rfl rfl (by kernel_rfl) Try.func4 (by kernel_rfl)
    (of_decide_eq_true (by kernel_rfl)) (by unfold Func.isWrapper; first | (rw [if_pos (by decide +kernel)]; kernel_rfl) | (rw [if_neg (by decide +kernel)]; exact ⟨rfl, rfl⟩))
    (fun os started H enc _ => transducerOutputsOrder_lifted os started H enc)
#print axioms transducerOutputsOrder_row
end Go.Proofs.Ytfepjcmjkaolgaa
