/- slices.SortFunc with the comparison of transducer.Trim. -/
import Derived.Test.YtfepjcmjkaolgaaWTa
import Derived.Test.YtfepjcmjkaolgaaGRef
import Derived.Test.YtfepjcmjkaolgaaGOpn
set_option linter.all false
namespace Go.Proofs.Ytfepjcmjkaolgaa.G
open Go Go.RowKit Go.Sort Go.Shelf
theorem sortT_c {w0 w : World} {I0 I : Heap} {L : List Res} (i : Nat) {u : SV} {xs : List Arc} (M : Mem w0 I0 I L w) (hL : L[i]? = some (row EArc (sv u) xs)) (hsz : xs.length < 4611686018427387904) :
    Calls A 49 #[sv u, .func (.func 50) #[] #[]] w fun e w' => ∃ v, e = .returned v ∧ Mem w0 I0 I (L.set i (row EArc (sv u) (srtA xs))) w' :=
  sort_calls (E := EArc) Try.sortA (fun _ => by kernel_rfl) (fun _ => by kernel_rfl) ordA swoA totA (enters_of Try.func50 (by kernel_rfl) rfl) (fun x y _ _ hI => by rw [Array.append_empty]; exact orderT_c x y hI) i M hL hsz
end Go.Proofs.Ytfepjcmjkaolgaa.G
