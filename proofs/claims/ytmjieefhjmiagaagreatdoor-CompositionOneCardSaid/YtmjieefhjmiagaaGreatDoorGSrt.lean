/- slices.SortFunc at this seat's two struct types. -/
import Derived.Test.YtmjieefhjmiagaaGreatDoorWA
import Derived.Test.YtmjieefhjmiagaaGreatDoorGSort
import Derived.Test.YtmjieefhjmiagaaGreatDoorGLay
set_option linter.all false
namespace Go.Proofs.YtmjieefhjmiagaaGreatDoor.G
open Go Go.RowKit Go.Sort Go.Shelf
section
variable {w0 w : World} {I0 I : Heap} {L : List Res}
theorem sortA_c (i : Nat) {u : SV} {xs : List Arc} (M : Mem w0 I0 I L w) (hL : L[i]? = some (row EArc (sv u) xs)) (hsz : xs.length < 4611686018427387904) :
    Calls A 58 #[sv u, .func (.func 59) #[] #[]] w fun e w' => ∃ v, e = .returned v ∧ Mem w0 I0 I (L.set i (row EArc (sv u) (srtA xs))) w' :=
  sort_calls (E := EArc) Tryz.sortA (fun _ => by kernel_rfl) (fun _ => by kernel_rfl) ordA swoA totA (enters_of Tryz.func59 (by kernel_rfl) rfl) (fun x y _ _ hI => by rw [Array.append_empty]; exact order_c x y hI) i M hL hsz
theorem sortP_c (i : Nat) {u : SV} {xs : List Pair} (M : Mem w0 I0 I L w) (hL : L[i]? = some (row EPair (sv u) xs)) (hsz : xs.length < 4611686018427387904) :
    Calls A 54 #[sv u, .func (.func 55) #[] #[]] w fun e w' => ∃ v, e = .returned v ∧ Mem w0 I0 I (L.set i (row EPair (sv u) (srtP xs))) w' :=
  sort_calls (E := EPair) Tryz.sortP (fun _ => by kernel_rfl) (fun _ => by kernel_rfl) ordP swoP totP (enters_of Tryz.func55 (by kernel_rfl) rfl) (fun x y _ _ hI => by rw [Array.append_empty]; exact orderP_c x y hI) i M hL hsz
end
end Go.Proofs.YtmjieefhjmiagaaGreatDoor.G
