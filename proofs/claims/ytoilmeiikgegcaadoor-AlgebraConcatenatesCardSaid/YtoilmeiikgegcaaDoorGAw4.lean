/- The example of the chapter on algebra. Plain Lean. -/
import Derived.Test.YtoilmeiikgegcaaDoorGCrt
import Derived.Test.YtoilmeiikgegcaaDoorGArr
set_option linter.all false
namespace Go.Proofs.YtoilmeiikgegcaaDoor.G
open Go Go.RowKit
def aw4ps : List SPair := [⟨⟨#[97, 98]⟩, ⟨#[99]⟩⟩, ⟨⟨#[97]⟩, ⟨#[]⟩⟩]
def aw4p : Tra := ⟨4, 0, [2, 3], [⟨0, 1, 97, 99⟩, ⟨0, 3, 97, 0⟩, ⟨1, 2, 98, 0⟩]⟩
def aw4w : Tra := ⟨2, 0, [1], [⟨0, 1, 120, 120⟩]⟩
def aw4u : Tra := ⟨7, 0, [3, 4, 6], [⟨0, 1, 0, 0⟩, ⟨0, 5, 0, 0⟩, ⟨1, 2, 97, 99⟩, ⟨1, 4, 97, 0⟩, ⟨2, 3, 98, 0⟩, ⟨5, 6, 120, 120⟩]⟩
def aw4s : Tra := ⟨5, 0, [0], [⟨0, 1, 0, 0⟩, ⟨1, 2, 97, 99⟩, ⟨1, 4, 97, 0⟩, ⟨2, 3, 98, 0⟩, ⟨3, 0, 0, 0⟩, ⟨4, 0, 0, 0⟩]⟩
theorem aw4_trie : tries aw4ps = ([⟨0, 1, 97, 99⟩, ⟨1, 2, 98, 0⟩, ⟨0, 3, 97, 0⟩], [2, 3]) := by decide +kernel
theorem aw4_pairs : PairsS aw4ps = (aw4p, 0) := by
  rw [pairs_ok (by decide +kernel), trieT, aw4_trie]
  exact fin_cert (trim_cert (U := [0, 1, 2, 3]) (D := [2, 3, 1, 0]) (by decide +kernel) (by decide +kernel) (by decide +kernel) (by decide +kernel) (by decide +kernel) (by decide +kernel) (by decide +kernel) (by decide +kernel) (by decide +kernel)) (by decide) (by decide)
theorem aw4_triew : tries [⟨⟨#[120]⟩, ⟨#[120]⟩⟩] = ([⟨0, 1, 120, 120⟩], [1]) := by decide +kernel
theorem aw4_words : PairsS [⟨⟨#[120]⟩, ⟨#[120]⟩⟩] = (aw4w, 0) := by
  rw [pairs_ok (by decide +kernel), trieT, aw4_triew]
  exact fin_cert (trim_cert (U := [0, 1]) (D := [1, 0]) (by decide +kernel) (by decide +kernel) (by decide +kernel) (by decide +kernel) (by decide +kernel) (by decide +kernel) (by decide +kernel) (by decide +kernel) (by decide +kernel)) (by decide) (by decide)
theorem aw4_union : UniS aw4p aw4w = (aw4u, 0) := by
  rw [uni_ok (m := 4) (n := 2) (by decide) (by decide) rfl rfl]
  exact fin_cert (trim_cert (U := [0, 1, 5, 2, 4, 3, 6]) (D := [3, 4, 6, 2, 1, 5, 0]) (by decide +kernel) (by decide +kernel) (by decide +kernel) (by decide +kernel) (by decide +kernel) (by decide +kernel) (by decide +kernel) (by decide +kernel) (by decide +kernel)) (by decide) (by decide)
theorem aw4_star : StaS aw4p = (aw4s, 0) := by
  rw [sta_ok (m := 4) (by decide) rfl]
  exact fin_cert (trim_cert (U := [0, 1, 2, 4, 3]) (D := [0, 3, 4, 2, 1]) (by decide +kernel) (by decide +kernel) (by decide +kernel) (by decide +kernel) (by decide +kernel) (by decide +kernel) (by decide +kernel) (by decide +kernel) (by decide +kernel)) (by decide) (by decide)
theorem aw4_bad : PairsS [⟨⟨#[255]⟩, ⟨#[]⟩⟩] = (zeroTra, 1) := by
  rw [PairsS, if_neg (by decide +kernel)]
theorem aw4_inv : InvS zeroTra = (zeroTra, 1) := inv_bad (by decide)
theorem aw4_r1 : relS aw4s ⟨#[97, 98, 97]⟩ ⟨#[99]⟩ = true := by
  have e : ((validT aw4s && okT ⟨#[97, 98, 97]⟩) && okT ⟨#[99]⟩) = true := by decide +kernel
  have e1 : runesL ⟨#[97, 98, 97]⟩ = [97, 98, 97] := by decide +kernel
  have e2 : runesL ⟨#[99]⟩ = [99] := by decide +kernel
  rw [relS, e, e1, e2, rel_cert (K := [⟨0, 0, 0⟩, ⟨1, 0, 0⟩, ⟨2, 1, 1⟩, ⟨4, 1, 0⟩, ⟨0, 1, 0⟩, ⟨1, 1, 0⟩, ⟨3, 2, 1⟩, ⟨0, 2, 1⟩, ⟨1, 2, 1⟩, ⟨4, 3, 1⟩, ⟨0, 3, 1⟩, ⟨1, 3, 1⟩]) (by decide +kernel)]
  decide +kernel
theorem aw4_r2 : relS aw4s ⟨#[98]⟩ ⟨#[]⟩ = false := by
  have e1 : runesL ⟨#[98]⟩ = [98] := by decide +kernel
  have e2 : runesL ⟨#[]⟩ = [] := by decide +kernel
  rw [relS, e1, e2, rel_cert (K := [⟨0, 0, 0⟩, ⟨1, 0, 0⟩]) (by decide +kernel)]
  decide +kernel
theorem aw4_r3 : relS aw4u ⟨#[120]⟩ ⟨#[120]⟩ = true := by
  have e : ((validT aw4u && okT ⟨#[120]⟩) && okT ⟨#[120]⟩) = true := by decide +kernel
  have e1 : runesL ⟨#[120]⟩ = [120] := by decide +kernel
  rw [relS, e, e1, rel_cert (K := [⟨0, 0, 0⟩, ⟨1, 0, 0⟩, ⟨5, 0, 0⟩, ⟨6, 1, 1⟩]) (by decide +kernel)]
  decide +kernel
end Go.Proofs.YtoilmeiikgegcaaDoor.G
