/- slices.SortFunc at this seat's two struct types. -/
import Derived.Test.YtmjieefhjmiagaaDoorWA
import Derived.Test.YtmjieefhjmiagaaDoorGSort
import Derived.Test.YtmjieefhjmiagaaDoorGLay
set_option linter.all false
namespace Go.Proofs.YtmjieefhjmiagaaDoor.G
open Go Go.RowKit Go.Sort Go.Shelf
section
variable {w0 w : World} {I0 I : Heap} {L : List Res}
theorem sortA_c (i : Nat) {u : SV} {xs : List Arc} (M : Mem w0 I0 I L w) (hL : L[i]? = some (row EArc (sv u) xs)) (hsz : xs.length < 4611686018427387904) :
    Calls A 32 #[sv u, .func (.func 33) #[] #[]] w fun e w' => ∃ v, e = .returned v ∧ Mem w0 I0 I (L.set i (row EArc (sv u) (srtA xs))) w' :=
  sort_calls (E := EArc) Tryd.sortA (fun _ => by kernel_rfl) (fun _ => by kernel_rfl) ordA swoA totA (enters_of Tryd.func33 (by kernel_rfl) rfl) (fun x y _ _ hI => by rw [Array.append_empty]; exact order_c x y hI) i M hL hsz
theorem sortP_c (i : Nat) {u : SV} {xs : List Pair} (M : Mem w0 I0 I L w) (hL : L[i]? = some (row EPair (sv u) xs)) (hsz : xs.length < 4611686018427387904) :
    Calls A 27 #[sv u, .func (.func 28) #[] #[]] w fun e w' => ∃ v, e = .returned v ∧ Mem w0 I0 I (L.set i (row EPair (sv u) (srtP xs))) w' :=
  sort_calls (E := EPair) Tryd.sortP (fun _ => by kernel_rfl) (fun _ => by kernel_rfl) ordP swoP totP (enters_of Tryd.func28 (by kernel_rfl) rfl) (fun x y _ _ hI => by rw [Array.append_empty]; exact orderP_c x y hI) i M hL hsz
end
end Go.Proofs.YtmjieefhjmiagaaDoor.G
