/- silent, spoken at whatever configuration of the search. -/
import Derived.Test.YtmjieefhjmiagaaGreatDoorGMid
import Derived.Test.YtmjieefhjmiagaaGreatDoorWX
import Derived.Test.YtmjieefhjmiagaaGreatDoorWU
set_option linter.all false
namespace Go.Proofs.YtmjieefhjmiagaaGreatDoor.G
open Go Go.RowKit
def FewB (a b : Tra) (xs zs : List Int) (m n : Nat) : Prop := a.Ok m ∧ b.Ok n ∧ a.arcs.length ≤ 12 ∧ b.arcs.length ≤ 12 ∧ m ≤ 5 ∧ n ≤ 5 ∧ xs.length ≤ 40 ∧ zs.length ≤ 40
section
variable {a b : Tra} {xs zs : List Int} {m n : Nat} {c : Config}
theorem FewB.rect (h : FewB a b xs zs m n) : (rect4 m xs.length n zs.length).length ≤ 42025 := by
  obtain ⟨_, _, _, _, h1, h2, h3, h4⟩ := h
  exact rect_few h1 h2 h3 h4
theorem FewB.sil (h : FewB a b xs zs m n) (c : Config) : (silL a b xs zs c).length ≤ 24 := by
  obtain ⟨_, _, h1, h2, _⟩ := h
  have := silL_len a b xs zs c; omega
theorem FewB.spk (h : FewB a b xs zs m n) (c : Config) : (spkL a b xs zs c).length ≤ 144 := by
  obtain ⟨_, _, h1, h2, _⟩ := h
  exact Nat.le_trans (spkL_len a b xs zs c) (Nat.mul_le_mul h1 h2)
theorem FewB.keys (h : FewB a b xs zs m n) (c : Config) : (gk (grp (fun e : Int × Config => e.1) (fun e : Int × Config => e.2) (spkL a b xs zs c))).length ≤ 12 := Nat.le_trans (spk_keys a b xs zs c) h.2.2.1
theorem FewB.rows (h : FewB a b xs zs m n) (c : Config) {α : Type} (dn : List (Int × α)) (hd : dn.length ≤ 12) : (dn.flatMap (fun p => (aget (grp (fun e : Int × Config => e.1) (fun e : Int × Config => e.2) (spkL a b xs zs c)) p.1).getD [])).length ≤ 1728 := by
  have h1 := grp_rows_len (fun e : Int × Config => e.1) (fun e : Int × Config => e.2) (spkL a b xs zs c) dn
  have h2 := Nat.mul_le_mul hd (h.spk c)
  omega
theorem FewB.start (h : FewB a b xs zs m n) : (⟨a.start, 0, b.start, 0⟩ : Config) ∈ rect4 m xs.length n zs.length := cfg_rect h.1 h.2.1 _ (.base rfl)
end
section
variable {a b : Tra} {fu1 au1 fu2 au2 ux uz uf ut : SV} {xs zs : List Int} {m n sb : Nat} {w0 w : World} {I0 I : Heap} {Lt : List Res}
def BtwH (I : Heap) (sb m n : Nat) (a b : Tra) (xs zs : List Int) (fu1 au1 fu2 au2 ux uz uf ut : SV) : Prop := I sb = some (.cells ([.int .i64 a.states, .int .i64 a.start, sv fu1, sv au1, .int .i64 b.states, .int .i64 b.start, sv fu2, sv au2, sv ux, sv uz, sv uf, sv ut] : List Value).toArray 131 (0, 0)) ∧ rdSl EInt I (sv fu1) a.finals ∧ rdSl EInt I (sv fu2) b.finals ∧ rdSl ERune I (sv ux) xs ∧ rdSl ERune I (sv uz) zs ∧ rdMat EArc VArc I (sv uf) (lv m a.arcs) ∧ rdMat EArc VArc I (sv ut) (lv n b.arcs)
theorem BtwH.mono {I I' : Heap} (k : hle I I') (h : BtwH I sb m n a b xs zs fu1 au1 fu2 au2 ux uz uf ut) : BtwH I' sb m n a b xs zs fu1 au1 fu2 au2 ux uz uf ut := by
  obtain ⟨h1, h2, h3, h4, h5, h6, h7⟩ := h
  exact ⟨k _ _ h1, h2.mono k, h3.mono k, h4.mono k, h5.mono k, h6.mono k, h7.mono k⟩
theorem silentX_c {c : Config} (hF : FewB a b xs zs m n) (hc : c ∈ rect4 m xs.length n zs.length) (M : Mem w0 I0 I Lt w) (h : BtwH I sb m n a b xs zs fu1 au1 fu2 au2 ux uz uf ut) :
    Calls A 37 #[.pointer (some ⟨sb, 0, none⟩), EConfig.val c] w (fun e w' => ∃ u : SV, e = .returned (sv u) ∧ Mem w0 I0 I (row EConfig (sv u) (silL a b xs zs c) :: Lt) w') := by
  obtain ⟨p, i, q, j, rfl, h1, h2, h3, h4⟩ := mem_rect4.1 hc
  obtain ⟨Hs, Rf1, Rf2, Rx, Rz, Rm1, Rm2⟩ := h
  obtain ⟨_, _, k1, k2, _, _, k3, k4⟩ := hF
  exact silent_c (m := m) (n := n) h1 h3 ⟨by omega, by omega⟩ ⟨by omega, by omega⟩ M Hs Rf1 Rf2 Rx Rz Rm1 Rm2
theorem spokenX_c {c : Config} (hF : FewB a b xs zs m n) (hc : c ∈ rect4 m xs.length n zs.length) (hI : hle I (hp w)) (h : BtwH I sb m n a b xs zs fu1 au1 fu2 au2 ux uz uf ut) :
    Calls A 38 #[.pointer (some ⟨sb, 0, none⟩), EConfig.val c] w (Ret w I fun r I' => rdGm QRune EConfig I' r (grp (fun e : Int × Config => e.1) (fun e : Int × Config => e.2) (spkL a b xs zs c))) := by
  obtain ⟨p, i, q, j, rfl, h1, h2, h3, h4⟩ := mem_rect4.1 hc
  obtain ⟨Hs, Rf1, Rf2, Rx, Rz, Rm1, Rm2⟩ := h
  obtain ⟨_, _, k1, k2, _, _, k3, k4⟩ := hF
  exact spoken_c (m := m) (n := n) h1 h3 ⟨by omega, by omega⟩ ⟨by omega, by omega⟩ hI Hs Rf1 Rf2 Rx Rz Rm1 Rm2
theorem doneX_c {c : Config} (hI : hle I (hp w)) (h : BtwH I sb m n a b xs zs fu1 au1 fu2 au2 ux uz uf ut) : Calls A 28 #[.pointer (some ⟨sb, 0, none⟩), EConfig.val c] w (Ret w I fun r _ => r = .bool (doneB a b xs zs c)) := by
  obtain ⟨Hs, Rf1, Rf2, Rx, Rz, Rm1, Rm2⟩ := h
  exact done_c (m := m) (n := n) c hI Hs Rf1 Rf2 Rx Rz Rm1 Rm2
end
end Go.Proofs.YtmjieefhjmiagaaGreatDoor.G
