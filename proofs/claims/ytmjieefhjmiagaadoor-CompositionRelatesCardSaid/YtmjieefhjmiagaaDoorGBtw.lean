/- The search for a middle string: its block in memory; what newBetween and Through answer. -/
import Derived.Test.YtmjieefhjmiagaaDoorGUtf
import Derived.Test.YtmjieefhjmiagaaDoorGCfg
import Derived.Test.YtmjieefhjmiagaaDoorGPl
set_option linter.all false
namespace Go.Proofs.YtmjieefhjmiagaaDoor.G
open Go Go.RowKit
theorem spk_keys (a b : Tra) (xs zs : List Int) (c : Config) : (gk (grp (fun e : Int × Config => e.1) (fun e : Int × Config => e.2) (spkL a b xs zs c))).length ≤ a.arcs.length := by
  have h1 := (grp_nodup (fun e : Int × Config => e.1) (fun e : Int × Config => e.2) (spkL a b xs zs c)).length_le_of_subset (l₂ := (a.outs c.p).map (·.out)) (fun k hk => by
    obtain ⟨e, he, rfl⟩ := (mem_gk_grp _ _ _ _).1 hk
    obtain ⟨x, hx, he⟩ := List.mem_flatMap.1 he
    refine List.mem_map.2 ⟨x, hx, ?_⟩
    unfold spkA at he
    split at he
    · simp at he
    · obtain ⟨y, hy, he⟩ := List.mem_flatMap.1 he
      unfold spkB at he
      split at he
      · rw [List.mem_singleton.1 he]
      · simp at he)
  rw [List.length_map] at h1
  exact Nat.le_trans h1 (a.outs_len _)
def BtwAt (I : Heap) (sb m n : Nat) (a b : Tra) (xs zs : List Int) : Prop := ∃ fu1 au1 fu2 au2 ux uz uf ut : SV,
  I sb = some (.cells ([.int .i64 a.states, .int .i64 a.start, sv fu1, sv au1, .int .i64 b.states, .int .i64 b.start, sv fu2, sv au2, sv ux, sv uz, sv uf, sv ut] : List Value).toArray 112 (0, 0)) ∧ rdSl EInt I (sv fu1) a.finals ∧ rdSl EInt I (sv fu2) b.finals ∧ rdSl ERune I (sv ux) xs ∧ rdSl ERune I (sv uz) zs ∧ rdMat EArc VArc I (sv uf) (lv m a.arcs) ∧ rdMat EArc VArc I (sv ut) (lv n b.arcs)
/-- The error of a search's arguments. -/
def btwE (a b : Tra) (x z : ByteArray) : Int := if (!(validT a) || !(validT b)) = true then 1 else chkS [x, z]
def NewB (a b : Tra) (x z : ByteArray) (r : Value) (I : Heap) : Prop := ∃ pv, r = .tuple #[pv, .int .i64 (btwE a b x z)] ∧ (btwE a b x z = 0 → ∃ m n sb : Nat, a.Ok m ∧ b.Ok n ∧ pv = .pointer (some ⟨sb, 0, none⟩) ∧ BtwAt I sb m n a b (runesL x) (runesL z))
theorem chk_short {x z : ByteArray} (h : chkS [x, z] = 0) : (runesL x).length ≤ 40 ∧ (runesL z).length ≤ 40 := by
  unfold chkS at h
  split at h
  · split at h
    · rename_i h2
      simp [longS] at h2
      omega
    · cases h
  · cases h
theorem btw_ok {a b : Tra} {x z : ByteArray} (h : btwE a b x z = 0) : (validT a = true ∧ validT b = true) ∧ chkS [x, z] = 0 := by
  unfold btwE at h
  split at h
  · cases h
  · rename_i h1; exact ⟨by simpa using h1, h⟩
open Classical in
noncomputable def thrS (a b : Tra) (x z : ByteArray) : Bool × Int := if btwE a b x z = 0 then (decide (∃ c, Reach (cfgN a b (runesL x) (runesL z)) (· = ⟨a.start, 0, b.start, 0⟩) c ∧ doneB a b (runesL x) (runesL z) c = true), 0) else (false, btwE a b x z)
theorem thr_yes {a b : Tra} {x z : ByteArray} (h : btwE a b x z = 0) {c : Config} (hr : Reach (cfgN a b (runesL x) (runesL z)) (· = ⟨a.start, 0, b.start, 0⟩) c) (hd : doneB a b (runesL x) (runesL z) c = true) : thrS a b x z = (true, 0) := by
  unfold thrS
  rw [if_pos h]
  rw [@decide_eq_true _ (Classical.propDecidable _) ⟨c, hr, hd⟩]
theorem thr_no {a b : Tra} {x z : ByteArray} (h : btwE a b x z = 0) {vs : List Config} (hc : Closure (cfgN a b (runesL x) (runesL z)) (· = ⟨a.start, 0, b.start, 0⟩) vs) (hd : ∀ c ∈ vs, doneB a b (runesL x) (runesL z) c = false) : thrS a b x z = (false, 0) := by
  unfold thrS
  rw [if_pos h]
  rw [@decide_eq_false _ (Classical.propDecidable _) ?_]
  rintro ⟨c, hr, hd'⟩
  rw [hd c ((hc.mem c).2 hr)] at hd'
  cases hd'
theorem thr_err {a b : Tra} {x z : ByteArray} (h : ¬ btwE a b x z = 0) : thrS a b x z = (false, btwE a b x z) := by unfold thrS; rw [if_neg h]
end Go.Proofs.YtmjieefhjmiagaaDoor.G
