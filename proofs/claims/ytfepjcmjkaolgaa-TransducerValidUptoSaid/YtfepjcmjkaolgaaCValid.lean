/- pentaglot/pentaglotlaw03.TransducerValid returns true for every input: the row that the seat gives, proved. No condition. -/
import Derived.Test.YtfepjcmjkaolgaaWL3
import Derived.Test.YtfepjcmjkaolgaaGOpn
set_option linter.all false
namespace Go.Proofs.Ytfepjcmjkaolgaa
open Go Go.ChangeShapes Go.WideShapes Go.ChangeAt Go.RowKit G
set_option maxRecDepth 100000 in
theorem transducerValid_lifted (os : Os) (started : os.Started) (H : Type) (enc : TypeId × Value → H) (F : Stop.Interp) :
    ReturnsInHanded {} Try.checked os 3 .any ((Rows.OpenSpec.upto Rows.transducerValidSpec).pre6 enc Try.prog Try.f3 Rows.transducerValidUptoRow.domain false) (((Rows.OpenSpec.upto Rows.transducerValidSpec).at F).post enc Try.prog Try.f3 false true false false) := by
  refine returnsInHanded_of_cond (C := Try.checked) (s := Rows.OpenSpec.upto Rows.transducerValidSpec) (k := Rows.uptoSmall) rfl own started (by kernel_rfl) Try.func3
    (OpenSpec.witness (enc := enc) (C := Try.checked) (s := Rows.OpenSpec.upto Rows.transducerValidSpec) (k := Rows.uptoSmall) rfl false ⟨#[], #[.agg #[.int .i64 0, .int .i64 0, .slice none 0 0, .slice none 0 0], .string ⟨#[]⟩, .string ⟨#[]⟩, .int .i64 0, .int .i32 0], []⟩ 8 (by kernel_rfl) (by kernel_rfl) (by kernel_rfl)
      (x := ([.agg [.lit (.int .i64 0), .lit (.int .i64 0), .nil, .nil], .lit (.string []), .lit (.string []), .lit (.int .i64 0), .lit (.int .i32 0)], [], [])) (by kernel_rfl) rfl (by kernel_rfl)) ?_
  intro W base args ds gs before hval0 hW _ hk _
  have hval : ∀ (j : Nat) t v, Try.f3.params[j]? = some t → args[j]? = some v → Value.okWide Try.prog W .any base t v := hval0
  obtain rfl := whole_vars (s := Rows.transducerValidSpec) rfl hW
  have hW' := hW
  obtain ⟨p, q, hA0, hV, rfl, _, _⟩ := hW
  have hA : DataW.TrodAll enc Try.prog W 0 (fun _ => true) true Try.f3.params.toList args.toList ds p := hA0
  rw [Try.params3] at hA hval
  clear hA0
  obtain ⟨l⟩ := args
  change DataW.TrodAll enc Try.prog W 0 (fun _ => true) true [25, 9, 9, 3, 21] l ds p at hA
  obtain ⟨v0, l, d0, ds, p0, p, rfl, rfl, rfl, h0, hA⟩ := trodAll_cons hA
  obtain ⟨v1, l, d1, ds, p1, p, rfl, rfl, rfl, h1, hA⟩ := trodAll_cons hA
  obtain ⟨v2, l, d2, ds, p2, p, rfl, rfl, rfl, h2, hA⟩ := trodAll_cons hA
  obtain ⟨v3, l, d3, ds, p3, p, rfl, rfl, rfl, h3, hA⟩ := trodAll_cons hA
  obtain ⟨v4, l, d4, ds, p4, p, rfl, rfl, rfl, h4, hA⟩ := trodAll_cons hA
  obtain ⟨rfl, rfl, rfl⟩ := trodAll_nil hA
  obtain ⟨a0, R0⟩ := open_tra (hval 0 25 v0 rfl rfl) h0
  obtain ⟨a1, rfl, hd1⟩ := open_strd (hval 1 9 v1 rfl rfl) h1
  have hz1 := bulk_str hk hd1 (by simp)
  obtain ⟨a2, rfl, hd2⟩ := open_strd (hval 2 9 v2 rfl rfl) h2
  have hz2 := bulk_str hk hd2 (by simp)
  obtain ⟨a3, rfl⟩ := open_int (hval 3 3 v3 rfl rfl) h3
  obtain ⟨a4, rfl⟩ := open_rune (hval 4 21 v4 rfl rfl) h4
  refine (lawValid_c a0 a1 a2 a3 a4 hz1 hz2 (I := hp W) (fun _ _ e => e) R0).mono fun e W' h => ?_
  obtain ⟨rfl, bel⟩ := ret_true h
  exact ⟨_, rfl, law_post laidOut (by kernel_rfl) rfl Try.underlying4 rfl rfl hW' bel⟩
theorem transducerValid_row : Rows.TransducerValidUptoSaid :=
  OpenClaim.holds_of_cond 3 Try.f3 rfl rfl rfl rfl rfl rfl rfl ⟨rfl, rfl, rfl, rfl, rfl⟩ rfl rfl rfl rfl rfl (by kernel_rfl) Try.func3 (by kernel_rfl)
    (of_decide_eq_true (by kernel_rfl)) (by unfold Func.isWrapper; first | (rw [if_pos (by decide +kernel)]; kernel_rfl) | (rw [if_neg (by decide +kernel)]; exact ⟨rfl, rfl⟩))
    (fun os started H enc _ F => transducerValid_lifted os started H enc F)
#print axioms transducerValid_row
end Go.Proofs.Ytfepjcmjkaolgaa
