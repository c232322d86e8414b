/- Walks of the program's functions. -/
import Derived.Test.YtfepjcmjkaolgaaGTrm
import Derived.Test.YtfepjcmjkaolgaaGSts
import Derived.Test.YtfepjcmjkaolgaaWA
set_option linter.all false
namespace Go.Proofs.Ytfepjcmjkaolgaa.G
open Go Go.RowKit
def epsN (t : Tra) (s : Int) : List Int := ((t.outs s).filter fun z_ : Arc => decide (z_.inp = 0)).map (·.dst)
theorem eps_len (t : Tra) (s : Int) : (epsN t s).length ≤ t.arcs.length := by
  rw [epsN, List.length_map]
  exact Nat.le_trans (List.length_filter_le _ _) (List.length_filter_le _ _)
theorem eps_rng {t : Tra} {m : Nat} (hxs : ∀ x ∈ t.arcs, (0 ≤ x.src ∧ x.src < m) ∧ 0 ≤ x.dst ∧ x.dst < m) {fr : List Int} (hfr : ∀ f ∈ fr, 0 ≤ f ∧ f < m) {s : Int} (h : Reach (epsN t) (· ∈ fr) s) : 0 ≤ s ∧ s < m := by
  cases h with
  | base h => exact hfr _ h
  | tail _ hm =>
    obtain ⟨x, hx, rfl⟩ := List.mem_map.1 hm
    exact (hxs x (List.mem_filter.1 (List.mem_filter.1 hx).1).1).2
def costA (x : Arc) : Int := (if x.inp = 0 then 0 else 1) + (if x.out = 0 then 0 else 1)
def readA (x : Arc) : Int := if x.inp = 0 then 0 else 1
/-! Step -/
def frS (t : Tra) (ss : List Int) : List Int := ss.filter fun s_ : Int => decide (0 ≤ s_) && decide (s_ < t.states)
theorem frS_rng {t : Tra} {m : Nat} (hm : t.states = m) {ss : List Int} : ∀ f ∈ frS t ss, 0 ≤ f ∧ f < m := fun f hf => by
  have := (List.mem_filter.1 hf).2
  rw [Bool.and_eq_true, decide_eq_true_eq, decide_eq_true_eq, hm] at this
  exact this
def stB (r : Int) (b : Bool) (z : Arc) : Bool := b && decide (z.inp = r)
def nxR (t : Tra) (bs : List Bool) (r : Int) (k : Nat) : List Int := (List.range k).flatMap fun (s_ : Nat) => ((t.outs (s_ : Int)).filter (stB r (bs.getD s_ false))).map (·.dst)
theorem nxR_succ {t : Tra} {bs : List Bool} {r : Int} {k : Nat} : nxR t bs r (k + 1) = nxR t bs r k ++ ((t.outs (k : Int)).filter (stB r (bs.getD k false))).map (·.dst) := by
  rw [nxR, List.range_succ, List.flatMap_append]; simp [nxR]
def onL (bs : List Bool) (k : Nat) : List Int := ((List.range k).filter fun s_ => bs.getD s_ false).map fun (s_ : Nat) => (s_ : Int)
theorem onL_yes {bs : List Bool} {k : Nat} (h : bs.getD k false = true) : onL bs (k + 1) = onL bs k ++ [(k : Int)] := by
  rw [onL, List.range_succ, List.filter_append, List.map_append, List.filter_cons, h]; rfl
theorem onL_no {bs : List Bool} {k : Nat} (h : bs.getD k false = false) : onL bs (k + 1) = onL bs k := by
  rw [onL, List.range_succ, List.filter_append, List.map_append, List.filter_cons, h]; simp [onL]
theorem onL_len {bs : List Bool} {k : Nat} : (onL bs k).length ≤ k := by
  rw [onL, List.length_map]
  exact Nat.le_trans (List.length_filter_le _ _) (by simp)
theorem nxR_rng {t : Tra} {m : Nat} (hxs : ∀ x ∈ t.arcs, (0 ≤ x.src ∧ x.src < m) ∧ 0 ≤ x.dst ∧ x.dst < m) {bs : List Bool} {r : Int} {k : Nat} : ∀ f ∈ nxR t bs r k, 0 ≤ f ∧ f < m := fun f hf => by
  obtain ⟨s, _, h⟩ := List.mem_flatMap.1 hf
  obtain ⟨x, hx, rfl⟩ := List.mem_map.1 h
  exact (hxs x (List.mem_filter.1 (List.mem_filter.1 hx).1).1).2
theorem nxR_len (t : Tra) (bs : List Bool) (r : Int) (k : Nat) : (nxR t bs r k).length ≤ k * t.arcs.length := by
  induction k with
  | zero => simp [nxR]
  | succ k ih =>
    rw [nxR_succ, List.length_append, Nat.add_mul, Nat.one_mul]
    have : (((t.outs (k : Int)).filter (stB r (bs.getD k false))).map (·.dst)).length ≤ t.arcs.length := by rw [List.length_map]; exact Nat.le_trans (List.length_filter_le _ _) (t.outs_len _)
    omega
end Go.Proofs.Ytfepjcmjkaolgaa.G

set_option linter.all false
namespace Go.Proofs.Ytfepjcmjkaolgaa.G
open Go Go.RowKit
def lblA (x : Arc) : Lbl := ⟨x.src, x.inp⟩
/-- No arc reads nothing; no two arcs leave a state with the same rune. -/
def seqL : List Arc → Bool := fun l => decide ((∀ x ∈ l, x.inp ≠ 0) ∧ (l.map lblA).Nodup)
def seqS (t : Tra) : Bool := validT t && seqL t.arcs
theorem seqL_yes {l : List Arc} {x : Arc} (h : seqL l = true) (h0 : x.inp ≠ 0) (hn : lblA x ∉ l.map lblA) : seqL (l ++ [x]) = true := by
  simp only [seqL, decide_eq_true_eq] at h ⊢
  refine ⟨fun y hy => ?_, ?_⟩
  · rcases List.mem_append.1 hy with h1 | h1
    · exact h.1 y h1
    · rw [List.mem_singleton.1 h1]; exact h0
  · rw [List.map_append, List.nodup_append]
    refine ⟨h.2, by simp, fun a ha b hb e => ?_⟩
    rw [List.map_cons, List.map_nil, List.mem_singleton] at hb
    rw [e, hb] at ha
    exact hn ha
theorem seqL_no {l : List Arc} {k : Nat} {x : Arc} (hx : l[k]? = some x) (h : x.inp = 0 ∨ lblA x ∈ (l.take k).map lblA) : seqL l = false := by
  simp only [seqL, decide_eq_false_iff_not]
  rintro ⟨h1, h2⟩
  rcases h with h | h
  · exact h1 x (List.mem_of_getElem? hx) h
  · have e : l = l.take k ++ l.drop k := (List.take_append_drop k l).symm
    rw [e, List.map_append, List.nodup_append] at h2
    refine h2.2.2 (lblA x) h (lblA x) ?_ rfl
    exact List.mem_map.2 ⟨x, List.mem_of_getElem? (i := 0) (by rw [List.getElem?_drop]; simpa using hx), rfl⟩
theorem lbl_yes {x : Arc} {L : List Lbl} (h : (decide (x.inp = 0) || decide (lblA x ∈ L)) = true) : x.inp = 0 ∨ lblA x ∈ L := by simpa using h
theorem lbl_no {x : Arc} {L : List Lbl} (h : (decide (x.inp = 0) || decide (lblA x ∈ L)) = false) : x.inp ≠ 0 ∧ lblA x ∉ L := by simpa using h
end Go.Proofs.Ytfepjcmjkaolgaa.G

set_option linter.all false
namespace Go.Proofs.Ytfepjcmjkaolgaa.G
open Go Go.RowKit
/-! Step -/
end Go.Proofs.Ytfepjcmjkaolgaa.G

set_option linter.all false
namespace Go.Proofs.Ytfepjcmjkaolgaa.G
open Go Go.RowKit
end Go.Proofs.Ytfepjcmjkaolgaa.G

set_option linter.all false
namespace Go.Proofs.Ytfepjcmjkaolgaa.G
open Go Go.RowKit
section
variable {P : Program} {α : Type} {E : ET P α}
theorem rd_cap3 {h : Heap} {u : SV} {xs : List α} (r : rdSl E h (sv u) xs) : xs.length ≤ u.2.2 := by
  obtain ⟨A, c, hv, h1, _⟩ := r
  obtain ⟨a, m, c'⟩ := u
  simp only [sv, Value.slice.injEq] at hv
  obtain ⟨_, _, rfl⟩ := hv
  exact h1
theorem rdTake {h : Heap} {u : SV} {xs : List α} {k : Nat} (r : rdSl E h (sv u) xs) (hk : k ≤ xs.length) : rdSl E h (sv (takeV u k)) (xs.take k) := by
  obtain ⟨A, c, hv, h1, h2, h3⟩ := r
  obtain ⟨a, m, c'⟩ := u
  simp only [sv, Value.slice.injEq] at hv
  obtain ⟨rfl, rfl, rfl⟩ := hv
  have hl : (xs.take k).length = k := by rw [List.length_take]; omega
  refine ⟨a, c', by rw [hl]; rfl, by omega, h2, fun hne => ?_⟩
  obtain ⟨b, o, rfl, hp⟩ := h3 (fun e => hne (by rw [e]; simp))
  have e1 : E.all xs = [] ++ E.all (xs.take k) ++ E.all (xs.drop k) := by rw [List.nil_append, ← E.all_append, List.take_append_drop]
  rw [e1] at hp
  exact ⟨b, o, rfl, hp.part⟩
end
end Go.Proofs.Ytfepjcmjkaolgaa.G

set_option linter.all false
namespace Go.Proofs.Ytfepjcmjkaolgaa.G
open Go Go.RowKit
end Go.Proofs.Ytfepjcmjkaolgaa.G

set_option linter.all false
namespace Go.Proofs.Ytfepjcmjkaolgaa.G
open Go Go.RowKit
theorem sequentialT_c (t : Tra) {v1 : Value} {I : Heap} {w : World} (hI : hle I (hp w)) (R1 : t.rd I v1) : Calls A 16 #[v1] w (Ret w I fun r _ => r = .bool (seqS t)) := by
 obtain ⟨fu1, au1, rfl, Rf1, Ra1⟩ := R1
 have hll0 := Ra1.len_le
 have M := Mem.start hI
 refine enter Try.func16 rfl 34 Try.ntmps16 [_] rfl ?_
 refine wc_seq <| wc_region <| wl_e (e_box M rfl) rfl rfl ?_
 rintro _ w1 ⟨b1, rfl, M⟩
 refine wl_as M rfl rfl <| wl_nil ?_
 refine wc_seq ?_
 refine wc_seq <| wc_region <| wl_m M (q_ldbA 0 Try.underlying25 rfl sz25 rfl rfl rfl rfl) rfl rfl <| wl_e (e_callC M (valid_c t M.imm ⟨_, _, rfl, Rf1, Ra1⟩) Try.func11 rfl rfl) rfl rfl ?_
 rintro _ w2 ⟨J8, hJ8, rfl, M⟩
 replace M := M.less hJ8 (fun _ _ => rfl)
 refine wl_m M (q_not rfl) rfl rfl <| wl_nil ?_
 refine wc_cond rfl (fun ht9 => ?_) (fun ht9 => ?_)
 ·refine wc_seq <| wc_region <| wl_as M rfl rfl <| wl_nil <| wc_ret ?_
  exact out1 rfl rfl ⟨_, _, rfl, M.grow, by rw [seqS, show validT t = false by simpa using ht9]; rfl⟩
 have hv : validT t = true := by simpa using ht9
 refine wc_skip ?_
 refine wc_seq <| wc_region <| wl_e (e_mkm QLbl Value.bool M) rfl rfl ?_
 rintro _ w3 ⟨b10, rfl, M⟩
 refine wl_as M rfl rfl <| wl_nil ?_
 refine wc_seq ?_
 refine wc_seq <| wc_region <| wl_m M (q_fa fo_25_3 rfl) rfl rfl <| wl_m M (q_ldb 1 Try.underlying23 rfl rfl rfl rfl) rfl rfl <| wl_m M (q_lenR Ra1 Try.underlying23 rfl) rfl rfl <| wl_mv M rfl rfl <| wl_nil <| wc_block ?_
 refine wc_loop (α := Nat × (List (Lbl × Bool))) [2, 5, 6, 14, 15, 16, 17, 18, 19, 20, 21, 22, 23, 24, 25, 26, 27, 28, 29, 30, 31, 32, 33] (fun ((k0, m_10_0) : Nat × (List (Lbl × Bool))) => [(14, .int .i64 (k0 : Int))])
   (fun ((k0, m_10_0) : Nat × (List (Lbl × Bool))) w' => (k0 ≤ t.arcs.length) ∧ (m_10_0 = tr ((t.arcs.take k0).map lblA)) ∧ (seqL (t.arcs.take k0) = true) ∧ Mem w I I (mpr QLbl Value.bool b10 m_10_0 :: box b1 25 [.int .i64 t.states, .int .i64 t.start, sv fu1, sv au1] :: []) w')
   (fun ((k0, m_10_0) : Nat × (List (Lbl × Bool))) => t.arcs.length - k0) (0, []) ⟨rfl, trivial⟩ ?_ ?_
 ·refine ⟨Nat.zero_le _, rfl, rfl, ?_⟩
  exact M
 rintro ⟨k0, m_10_0⟩ jj0 w4 ⟨hk0, hm, hsq, M⟩
 refine wc_seq <| wc_region <| wl_m M (q_lss rfl rfl) rfl rfl <| wl_nil ?_
 refine wc_seq ?_
 refine wc_dec rfl (fun ht15 => ?_) (fun ht15 => ?_)
 ·obtain ⟨x0, hx0⟩ : ∃ x_, t.arcs[k0]? = some x_ := ⟨_, List.getElem?_eq_getElem (by omega)⟩
  have hll0 := (Ra1).len_le
  refine wc_skip ?_
  refine wc_seq <| wc_block ?_
  refine wc_seq <| wc_region ?_
  refine wl_ix (j := k0) M Ra1 Try.underlying23 rfl rfl hx0 rfl (fun b16 o16 p16 => ?_)
  refine wl_m M (q_ldp p16 rfl rfl) rfl rfl <| wl_e (e_alloc M z50) rfl rfl ?_
  rintro _ w5 ⟨b5, rfl, M⟩
  refine wl_e0 (e_stW 0 M rfl rfl rfl sz50 rfl rfl) rfl ?_
  intro _ w6 M
  simp only [sC0, sCS] at M
  refine wl_nil ?_
  refine wc_seq <| wc_region <| wl_m M (q_fa fo_50_0 rfl) rfl rfl <| wl_m M (q_ldb 0 Try.underlying3 rfl rfl rfl rfl) rfl rfl <| wl_m M (q_fa fo_50_2 rfl) rfl rfl <| wl_m M (q_ldb 0 Try.underlying21 rfl rfl rfl rfl) rfl rfl <| wl_m M (q_build (bd_88_0_1 _ _) ⟨⟨rfl, rfl⟩, ⟨rfl, rfl⟩, trivial⟩) rfl rfl <| wl_e (e_alloc M z88) rfl rfl ?_
  rintro _ w7 ⟨b6, rfl, M⟩
  refine wl_e0 (e_stW 0 M rfl rfl rfl sz88 rfl rfl) rfl ?_
  intro _ w8 M
  simp only [sC0, sCS] at M
  refine wl_nil ?_
  refine wc_seq ?_
  refine wc_seq ?_
  refine wc_join (α := Unit) [23, 24, 25, 26, 27, 28, 29, 30] (fun _ => [(30, .bool ((decide (x0.inp = 0)) || ((aget m_10_0 (Lbl.mk x0.src x0.inp)).getD false)))]) (fun _ w' => Mem w I I (box b6 88 [.int .i64 x0.src, .int .i32 x0.inp] :: box b5 50 [.int .i64 x0.src, .int .i64 x0.dst, .int .i32 x0.inp, .int .i32 x0.out] :: mpr QLbl Value.bool b10 m_10_0 :: box b1 25 [.int .i64 t.states, .int .i64 t.start, sv fu1, sv au1] :: []) w') ?_ ?_
  ·refine wc_region <| wl_m M (q_fa fo_50_2 rfl) rfl rfl <| wl_m M (q_ldb 1 Try.underlying21 rfl rfl rfl rfl) rfl rfl <| wl_m M (q_eql rfl rfl) rfl rfl <| wl_mv M rfl rfl ?_
   rcases Bool.eq_false_or_eq_true (decide (x0.inp = 0)) with hg26 | hg26
   ·refine wl_m M (q_off 3 rfl rfl rfl hg26) rfl rfl <| wl_m M (q_off 3 rfl rfl rfl hg26) rfl rfl <| wl_m M (q_off 3 rfl rfl rfl hg26) rfl rfl <| wl_m M (q_pickT rfl hg26 rfl) rfl rfl <| wl_nil ?_
    exact ⟨(), M, ⟨(show some (Value.bool true) = some (Value.bool ((decide (x0.inp = 0)) || ((aget m_10_0 (Lbl.mk x0.src x0.inp)).getD false))) from by first | (simp only [hg26, bL8]; done) | (simp_all; done) | (simp_all; omega)), trivial⟩, unw_take 8 rfl rfl⟩
   refine wl_m M (q_guard 3 rfl rfl rfl hg26 (q_move rfl)) rfl rfl <| wl_m M (q_guard 3 rfl rfl rfl hg26 (q_ldbA 0 Try.underlying88 rfl sz88 rfl rfl rfl rfl)) rfl rfl <| wl_m M (q_guard 3 rfl rfl rfl hg26 (q_lk (k := (Lbl.mk x0.src x0.inp)) (z := false) 2 rfl Try.underlying86 zv4 rfl rfl)) rfl rfl <| wl_m M (q_pickF rfl hg26 rfl) rfl rfl <| wl_nil ?_
   exact ⟨(), M, ⟨(show some (Value.bool ((aget m_10_0 (Lbl.mk x0.src x0.inp)).getD false)) = some (Value.bool ((decide (x0.inp = 0)) || ((aget m_10_0 (Lbl.mk x0.src x0.inp)).getD false))) from by first | (simp only [hg26, bL8]; done) | (simp_all; done) | (simp_all; omega)), trivial⟩, unw_take 8 rfl rfl⟩
  rintro _ jr8 w9 M
  refine wc_cond rfl (fun ht30 => ?_) (fun ht30 => ?_)
  ·rw [hm, aget_tr] at ht30
   refine wc_seq <| wc_region <| wl_as M rfl rfl <| wl_nil <| wc_ret ?_
   exact out1 rfl rfl ⟨_, _, rfl, M.grow, by rw [seqS, seqL_no hx0 (lbl_yes ht30), Bool.and_false]⟩
  rw [hm, aget_tr] at ht30
  obtain ⟨hn0, hnk⟩ := lbl_no ht30
  refine wc_skip <| wc_region <| wl_mv M rfl rfl <| wl_m M (q_ldbA 0 Try.underlying88 rfl sz88 rfl rfl rfl rfl) rfl rfl ?_
  refine wl_e0 (e_mpu (k := (Lbl.mk x0.src x0.inp)) (v := true) 2 M rfl Try.underlying86 rfl rfl rfl) rfl ?_
  intro _ w10 M
  simp only [sC0, sCS] at M
  refine wl_nil <| wc_region <| wl_m M (q_add rfl rfl (IntWalk.i64_in _ (by omega))) rfl rfl ?_
  refine wl_mv M rfl rfl <| wl_nil ?_
  replace M := M.drop 0
  replace M := M.drop 0
  refine ⟨(k0 + 1, aput m_10_0 (Lbl.mk x0.src x0.inp) true), ?_, ⟨(by omega), (by rw [hm]; show aput (tr _) (lblA x0) true = _; rw [aput_tr hnk, take_snoc hx0, List.map_append]; rfl), (by rw [take_snoc hx0]; exact seqL_yes hsq hn0 hnk), M⟩, ⟨rfl, trivial⟩, unw_look rfl (unw_hav rfl (unw_look rfl unw_base))⟩
  show t.arcs.length - (k0 + 1) < t.arcs.length - k0
  omega
 have hke0 : k0 = t.arcs.length := by omega
 rw [hke0, List.take_length] at hsq
 refine wc_exit rfl ?_
 refine wc_seq <| wc_region <| wl_as M rfl rfl <| wl_nil <| wc_ret ?_
 exact out1 rfl rfl ⟨_, _, rfl, M.grow, by rw [seqS, hv, hsq]; rfl⟩
end Go.Proofs.Ytfepjcmjkaolgaa.G
