/- Relates of the reference against the program's. Plain Lean. -/
import Derived.Test.YtmjieefhjmiagaaGreatDoorGRls
import Derived.Test.YtmjieefhjmiagaaGreatDoorGChk
set_option linter.all false
namespace Go.Proofs.YtmjieefhjmiagaaGreatDoor.G
open Go Go.RowKit
theorem okR_T (s : ByteArray) : okR s = okT s := by rw [okR_S, okT_S]
theorem relS_bad3 {t : Tra} {x z : ByteArray} (h : ((!(okR x) || !(okR z)) || !(validT t)) = true) : relS t x z = false := by
  rw [okR_T, okR_T] at h
  unfold relS
  cases h1 : okT x <;> cases h2 : okT z <;> cases h3 : validT t <;> simp_all
theorem relS_ok3 {t : Tra} {x z : ByteArray} (hx : okR x = true) (hz : okR z = true) (hv : validT t = true) : relS t x z = relB t (runesL x) (runesL z) := by
  rw [okR_T] at hx hz
  rw [relS, hx, hz, hv]; rfl
end Go.Proofs.YtmjieefhjmiagaaGreatDoor.G
