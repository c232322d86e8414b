/- Walks of the program's functions. -/
import Derived.Test.YtmjieefhjmiagaaGreatDoorWFb
set_option linter.all false
namespace Go.Proofs.YtmjieefhjmiagaaGreatDoor.G
open Go Go.RowKit
set_option maxRecDepth 4000 in
set_option maxHeartbeats 4000000 in
theorem single_c {t : Tra} {m : Nat} (ht : t.Ok m) (hlb : ∀ x ∈ t.arcs, vRune x.inp = true ∧ vRune x.out = true) (hfn : t.finals.Nodup) (hfl : t.finals.length ≤ 512) {l : List Int} (hl : l.length ≤ 1000) {v1 : Value} {u : SV} {I : Heap} {w : World} (hI : hle I (hp w)) (R1 : t.rd I v1) (Rl : rdSl ERune I (sv u) l) :
    Calls A 45 #[v1, sv u] w (Ret w I fun r _ => r = .bool (sglB t l)) := by
 obtain ⟨fu1, au1, rfl, Rf1, Ra1⟩ := R1
 have hrc0 := pos_rect (l := l) ht
 have hal := ht.alen
 have M := Mem.start hI
 refine enter Tryz.func45 rfl 116 Tryz.ntmps45 [_, _] rfl ?_
 refine wc_seq ?_
 refine wc_region ?_
 refine wl_e (e_box M rfl) rfl rfl ?_
 rintro _ w1 ⟨b2, rfl, M⟩
 refine wl_as M rfl rfl ?_
 refine wl_nil ?_
 refine wc_seq ?_
 refine wc_region ?_
 refine wl_m M (q_ldbA 0 Tryz.underlying25 rfl sz25 rfl rfl rfl rfl) rfl rfl ?_
 refine wl_e (e_callC M (leaving_c t m ht.st ht.le (fun x hx => (ht.arcs x hx).1) ht.alen M.imm ⟨_, _, rfl, Rf1, Ra1⟩) Tryz.func63 rfl rfl) rfl rfl ?_
 rintro v20 w2 ⟨J20, hJ20, R20, M⟩
 obtain ⟨u20, rfl⟩ := rdMat_slice R20
 have hoJ20 := M.old
 refine wl_as M rfl rfl ?_
 refine wl_nil ?_
 refine wc_seq ?_
 refine wc_region ?_
 refine wl_m M (q_ldbA 0 Tryz.underlying25 rfl sz25 rfl rfl rfl rfl) rfl rfl ?_
 refine wl_mv M rfl rfl ?_
 refine wl_mv M rfl rfl ?_
 refine wl_e (e_callC M (ending_c ht hfn hfl hl M.imm ⟨_, _, rfl, (Rf1.mono hJ20), (Ra1.mono hJ20)⟩ R20 (Rl.mono hJ20)) Tryz.func82 rfl rfl) rfl rfl ?_
 rintro v24 w3 ⟨J24, hJ24, ⟨G, R24, hG, hGl⟩, M⟩
 have hoJ24 := M.old
 refine wl_as M rfl rfl ?_
 refine wl_nil ?_
 refine wc_seq ?_
 refine wc_region ?_
 refine wl_m M (q_fa fo_25_1 rfl) rfl rfl ?_
 refine wl_m M (q_ldb 0 Tryz.underlying3 rfl rfl rfl rfl) rfl rfl ?_
 refine wl_m M (q_build (bd_159_0_1 _ _) ⟨⟨rfl, rfl⟩, ⟨rfl, rfl⟩, trivial⟩) rfl rfl ?_
 refine wl_e (e_alloc M z159) rfl rfl ?_
 rintro _ w4 ⟨b7, rfl, M⟩
 refine wl_e0 (e_stW 0 M rfl rfl rfl sz159 rfl rfl) rfl ?_
 intro _ w5 M
 try simp only [sC0, sCS] at M
 refine wl_nil ?_
 refine wc_seq ?_
 refine wc_seq ?_
 refine wc_region ?_
 refine wl_mv M rfl rfl ?_
 refine wl_m M (q_ldbA 0 Tryz.underlying159 rfl sz159 rfl rfl rfl rfl) rfl rfl ?_
 refine wl_m M (q_lkI (k := (Pos.mk t.start 0)) (z := false) R24 Tryz.underlying156 zv4 rfl rfl) rfl rfl ?_
 refine wl_m M (q_not rfl) rfl rfl ?_
 refine wl_nil ?_
 refine wc_cond rfl (fun ht31 => ?_) (fun ht31 => ?_)
 ·have hng : pos0 t ∉ G := by rw [aget_tr] at ht31; exact nd_t ht31
  refine wc_seq ?_
  refine wc_region ?_
  refine wl_as M rfl rfl ?_
  refine wl_nil ?_
  refine wc_ret ?_
  exact out1 rfl rfl ⟨_, _, rfl, M.grow, by rw [sglB_true (good_none ht hG hng)]⟩
 have hgs : pos0 t ∈ G := by rw [aget_tr] at ht31; exact nd_f ht31
 refine wc_skip ?_
 refine wc_seq ?_
 refine wc_region ?_
 refine wl_e (e_mkm QPos Value.string M) rfl rfl ?_
 rintro _ w6 ⟨b32, rfl, M⟩
 refine wl_m M (q_ldbA 1 Tryz.underlying159 rfl sz159 rfl rfl rfl rfl) rfl rfl ?_
 refine wl_e0 (e_mpi (k := (Pos.mk t.start 0)) (v := ⟨#[]⟩) 0 M rfl Tryz.underlying160 rfl rfl rfl) rfl ?_
 intro _ w7 M
 try simp only [sC0, sCS] at M
 refine wl_mv M rfl rfl ?_
 refine wl_as M rfl rfl ?_
 refine wl_nil ?_
 refine wc_seq ?_
 refine wc_region ?_
 refine wl_m M (q_ldbA 1 Tryz.underlying159 rfl sz159 rfl rfl rfl rfl) rfl rfl ?_
 refine wl_e (e_bsR (E := EPos) (xs := [(Pos.mk t.start 0)]) M (bs_161_1 _ _) ⟨⟨rfl, rfl⟩, trivial⟩ rfl rfl (by decide)) rfl rfl ?_
 rintro _ w8 ⟨u36, rfl, M⟩
 refine wl_as M rfl rfl ?_
 refine wl_nil ?_
 refine wc_seq ?_
 refine wc_region ?_
 refine wl_as M rfl rfl ?_
 refine wl_nil ?_
 refine wc_seq ?_
 refine wc_block ?_
 refine wc_loop (α := Heap × (List Pos) × WM × (Option (Nat × List Int)) × SV × (List Pos) × (List (Pos × ByteArray))) [4, 9, 10, 11, 12, 14, 15, 16, 17, 18, 37, 38, 39, 40, 41, 42, 43, 44, 45, 46, 47, 48, 49, 50, 51, 52, 53, 54, 55, 56, 57, 58, 59, 60, 61, 62, 63, 64, 65, 66, 67, 68, 69, 70, 71, 72, 73, 74, 75, 76, 77, 78, 79, 80, 81, 82, 83, 84, 85, 86, 87, 88, 89, 90, 91, 92, 93, 94, 95, 96, 97, 98, 99, 100, 101, 102, 103, 104, 105, 106, 107, 108, 109, 110, 111, 112, 113, 114, 115] (fun ((Ic, vs, tw, ro, u_36_0, l_36_0, m_32_0) : Heap × (List Pos) × WM × (Option (Nat × List Int)) × SV × (List Pos) × (List (Pos × ByteArray))) => [(10, optP ro), (9, sv u_36_0)])
   (fun ((Ic, vs, tw, ro, u_36_0, l_36_0, m_32_0) : Heap × (List Pos) × WM × (Option (Nat × List Int)) × SV × (List Pos) × (List (Pos × ByteArray))) w' => (hle J24 Ic) ∧ (Wr t l G tw) ∧ (m_32_0 = encT tw) ∧ (tw.map (·.1) = vs ++ l_36_0) ∧ (WrC t l G tw vs) ∧ (∀ e ∈ tw, e.2.length ≤ tw.length) ∧ ((pos0 t, []) ∈ tw) ∧ (ResO Ic 9 t l vs tw ro) ∧ Mem w I Ic (row EPos (sv u_36_0) l_36_0 :: mpr QPos Value.string b32 m_32_0 :: box b7 159 [.int .i64 t.start, .int .i64 0] :: box b2 25 [.int .i64 t.states, .int .i64 t.start, sv fu1, sv au1] :: []) w')
   (fun ((Ic, vs, tw, ro, u_36_0, l_36_0, m_32_0) : Heap × (List Pos) × WM × (Option (Nat × List Int)) × SV × (List Pos) × (List (Pos × ByteArray))) => G.length - vs.length) (J24, [], [(pos0 t, [])], none, u36, [(Pos.mk t.start 0)], aput [] (Pos.mk t.start 0) ⟨#[]⟩) ⟨rfl, rfl, trivial⟩ ?_ ?_
 ·refine ⟨hle.refl _, (wr_init ht hgs), rfl, rfl, (fun p_ hp_ => absurd hp_ List.not_mem_nil), (fun e_ he_ => by rw [List.mem_singleton.1 he_]; exact Nat.zero_le _), (List.mem_singleton.2 rfl), (fun p_ hp_ => absurd hp_ List.not_mem_nil), ?_⟩
  exact M
 rintro ⟨Ic, vs, tw, ro, u_36_0, l_36_0, m_32_0⟩ jj0 w9 ⟨hIc, hW, hm, hk, hc, hb, h0, hRo, M⟩
 have hoIc := M.old
 refine wc_seq ?_
 refine wc_seq ?_
 refine wc_region ?_
 refine wl_mv M rfl rfl ?_
 refine wl_m M (q_lenr 0 M rfl Tryz.underlying161 rfl) rfl rfl ?_
 refine wl_m M (q_gtr rfl rfl) rfl rfl ?_
 refine wl_nil ?_
 refine wc_dec rfl (fun ht39 => ?_) (fun ht39 => ?_)
 ·have hrc : ∀ x ∈ l_36_0, x ∈ rectP m l.length := fun x hx => by
    have h1 : x ∈ tw.map (·.1) := by rw [hk]; exact List.mem_append.2 (.inr hx)
    obtain ⟨e, he, rfl⟩ := List.mem_map.1 h1
    exact hrc0 _ ((hG _).1 (hW.good _ _ he)).1
  obtain ⟨p, i, qs, hq⟩ : ∃ (p i : Nat) (qs : List Pos), l_36_0 = Pos.mk p i :: qs := by
    cases l_36_0 with
    | nil => simp at ht39
    | cons x qs =>
      obtain ⟨p, i, e, _⟩ := mem_rectP.1 (hrc x (by simp))
      exact ⟨p, i, qs, by rw [e]⟩
  obtain ⟨hp1, hi1⟩ : p < m ∧ i ≤ l.length := by
    obtain ⟨p', i', e, h1, h2⟩ := mem_rectP.1 (hrc (Pos.mk p i) (by rw [hq]; simp))
    simp only [Pos.mk.injEq] at e
    omega
  obtain ⟨wc, hwc⟩ : ∃ wc, ((Pos.mk (p : Int) (i : Int)), wc) ∈ tw := by
    have h1 : (Pos.mk (p : Int) (i : Int)) ∈ tw.map (·.1) := by rw [hk, hq]; simp
    obtain ⟨⟨e1, e2⟩, he, h2⟩ := List.mem_map.1 h1
    exact ⟨e2, by rw [← h2]; exact he⟩
  have hs9 : ((aget m_32_0 (Pos.mk (p : Int) (i : Int))).getD ⟨#[]⟩) = strL wc := by rw [hm]; exact enc_get hW.nd hwc
  have hwl := hb _ hwc
  simp only [] at hwl
  have htl := hW.len
  refine wc_skip ?_
  refine wc_block ?_
  refine wc_seq ?_
  refine wc_region ?_
  refine wl_mv M rfl rfl ?_
  refine wl_ixr (j := 0) 0 M rfl Tryz.underlying161 rfl rfl (by rw [hq]; rfl) rfl (fun b41 o41 p41 => ?_)
  refine wl_m M (q_ldp p41 rfl rfl) rfl rfl ?_
  refine wl_e (e_alloc M z159) rfl rfl ?_
  rintro _ w10 ⟨b11, rfl, M⟩
  refine wl_e0 (e_stW 0 M rfl rfl rfl sz159 rfl rfl) rfl ?_
  intro _ w11 M
  try simp only [sC0, sCS] at M
  refine wl_nil ?_
  refine wc_seq ?_
  refine wc_region ?_
  refine wl_mv M rfl rfl ?_
  refine wl_e (e_cut (k := 1) 1 M rfl Tryz.underlying161 rfl rfl (by omega)) rfl rfl ?_
  rintro _ w12 ⟨u44, rfl, M⟩
  try simp only [sC0, sCS] at M
  refine wl_as M rfl rfl ?_
  refine wl_nil ?_
  refine wc_seq ?_
  refine wc_region ?_
  refine wl_mv M rfl rfl ?_
  refine wl_m M (q_ldbA 0 Tryz.underlying159 rfl sz159 rfl rfl rfl rfl) rfl rfl ?_
  refine wl_m M (q_lk (k := (Pos.mk p i)) (z := ⟨#[]⟩) 2 rfl Tryz.underlying160 zv9 rfl rfl) rfl rfl ?_
  refine wl_e (e_alloc M z9) rfl rfl ?_
  rintro _ w13 ⟨b12, rfl, M⟩
  refine wl_e0 (e_stW 0 M rfl rfl rfl sz9 rfl rfl) rfl ?_
  intro _ w14 M
  try simp only [sC0, sCS] at M
  refine wl_nil ?_
  refine wc_seq ?_
  refine wc_seq ?_
  refine wc_join (α := Unit) [48, 49, 50, 51, 52, 53, 54, 55, 56, 57, 58, 59] (fun _ => [(59, .bool ((decide ((i : Int) = (l.length : Int))) && (decide ((p : Int) ∈ t.finals))))]) (fun _ w' => Mem w I Ic (box b12 9 [.string ((aget m_32_0 (Pos.mk p i)).getD ⟨#[]⟩)] :: box b11 159 [.int .i64 (p : Int), .int .i64 (i : Int)] :: row EPos (sv u44) (l_36_0.drop 1) :: mpr QPos Value.string b32 m_32_0 :: box b7 159 [.int .i64 t.start, .int .i64 0] :: box b2 25 [.int .i64 t.states, .int .i64 t.start, sv fu1, sv au1] :: []) w') ?_ ?_
  ·refine wc_region ?_
   refine wl_m M (q_fa fo_159_1 rfl) rfl rfl ?_
   refine wl_m M (q_ldb 1 Tryz.underlying3 rfl rfl rfl rfl) rfl rfl ?_
   refine wl_mv M rfl rfl ?_
   refine wl_m M (q_lenR (((Rl.mono hJ20).mono hJ24).mono hIc) Tryz.underlying29 rfl) rfl rfl ?_
   refine wl_m M (q_eql rfl rfl) rfl rfl ?_
   refine wl_mv M rfl rfl ?_
   rcases Bool.eq_false_or_eq_true (decide ((i : Int) = (l.length : Int))) with hg53 | hg53
   ·refine wl_m M (q_guard 5 rfl rfl rfl hg53 (q_fa fo_25_2 rfl)) rfl rfl ?_
    refine wl_m M (q_guard 5 rfl rfl rfl hg53 (q_ldb 5 Tryz.underlying22 rfl rfl rfl rfl)) rfl rfl ?_
    refine wl_m M (q_guard 5 rfl rfl rfl hg53 (q_fa fo_159_0 rfl)) rfl rfl ?_
    refine wl_m M (q_guard 5 rfl rfl rfl hg53 (q_ldb 1 Tryz.underlying3 rfl rfl rfl rfl)) rfl rfl ?_
    refine wl_e (e_guard 5 rfl rfl rfl hg53 (e_callC M (contains_c M.imm (((Rf1.mono hJ20).mono hJ24).mono hIc)) Tryz.func36 rfl rfl)) rfl rfl ?_
    rintro _ w15 ⟨J58, hJ58, rfl, M⟩
    replace M := M.less hJ58 hoIc
    refine wl_m M (q_pickT rfl hg53 rfl) rfl rfl ?_
    refine wl_nil ?_
    exact ⟨(), M, ⟨(show some (Value.bool (decide ((p : Int) ∈ t.finals))) = some (Value.bool ((decide ((i : Int) = (l.length : Int))) && (decide ((p : Int) ∈ t.finals)))) from by first | (simp only [hg53, Bool.true_or, Bool.false_or, Bool.true_and, Bool.false_and, Bool.or_true, Bool.or_false, Bool.and_true, Bool.and_false]; done) | (simp_all; done) | (simp_all; omega)), trivial⟩, unw_take 12 rfl rfl⟩
   refine wl_m M (q_off 5 rfl rfl rfl hg53) rfl rfl ?_
   refine wl_m M (q_off 5 rfl rfl rfl hg53) rfl rfl ?_
   refine wl_m M (q_off 5 rfl rfl rfl hg53) rfl rfl ?_
   refine wl_m M (q_off 5 rfl rfl rfl hg53) rfl rfl ?_
   refine wl_m M (q_off 5 rfl rfl rfl hg53) rfl rfl ?_
   refine wl_m M (q_pickF rfl hg53 rfl) rfl rfl ?_
   refine wl_nil ?_
   exact ⟨(), M, ⟨(show some (Value.bool false) = some (Value.bool ((decide ((i : Int) = (l.length : Int))) && (decide ((p : Int) ∈ t.finals)))) from by first | (simp only [hg53, Bool.true_or, Bool.false_or, Bool.true_and, Bool.false_and, Bool.or_true, Bool.or_false, Bool.and_true, Bool.and_false]; done) | (simp_all; done) | (simp_all; omega)), trivial⟩, unw_take 12 rfl rfl⟩
  rintro _ jr13 w16 M
  refine wc_cond rfl (fun ht59 => ?_) (fun ht59 => ?_)
  ·have hed : endB t l (Pos.mk (p : Int) (i : Int)) = true := by rw [← ht59]; rfl
   refine wc_seq ?_
   refine wc_seq ?_
   rcases ro with _ | ⟨b10, r10⟩
   ·refine wc_draws (fun w' => Mem w I Ic (box b12 9 [.string ((aget m_32_0 (Pos.mk p i)).getD ⟨#[]⟩)] :: box b11 159 [.int .i64 (p : Int), .int .i64 (i : Int)] :: row EPos (sv u44) (l_36_0.drop 1) :: mpr QPos Value.string b32 m_32_0 :: box b7 159 [.int .i64 t.start, .int .i64 0] :: box b2 25 [.int .i64 t.states, .int .i64 t.start, sv fu1, sv au1] :: []) w' ∧ True) [] fol ?_
    replace M := M.drew
    have hS := (⟨M, trivial⟩ : _ ∧ _)
    refine wa_q 0 rfl (by kernel_rfl) (q_move rfl) hS rfl rfl ?_
    refine wa_q 1 rfl (by kernel_rfl) (q_neqP Tryz.underlying162 rfl rfl) hS rfl rfl ?_
    refine wa_q 2 rfl (by kernel_rfl) (q_move rfl) hS rfl rfl ?_
    refine wa_q 3 rfl (by kernel_rfl) (q_off 2 rfl rfl rfl rfl) hS rfl rfl ?_
    refine wa_q 4 rfl (by kernel_rfl) (q_off 2 rfl rfl rfl rfl) hS rfl rfl ?_
    refine wa_q 5 rfl (by kernel_rfl) (q_off 2 rfl rfl rfl rfl) hS rfl rfl ?_
    refine wa_q 6 rfl (by kernel_rfl) (q_off 2 rfl rfl rfl rfl) hS rfl rfl ?_
    refine wa_q 7 rfl (by kernel_rfl) (q_off 2 rfl rfl rfl rfl) hS rfl rfl ?_
    refine wa_q 8 rfl (by kernel_rfl) (q_pickF rfl rfl rfl) hS rfl rfl ?_
    refine wa_done (by kernel_rfl) ?_
    refine wc_false rfl ?_
    have hold9 : ∀ p ∈ vs, ∀ w, (p, w) ∈ tw → endB t l p = true → w = wc := fun p hp w hw he => by
      have h1 := hRo p hp
      rw [h1] at he; cases he
    refine wc_skip ?_
    refine wc_region ?_
    refine wl_as M rfl rfl ?_
    refine wl_nil ?_
    obtain ⟨I12, M, hI12, hb12⟩ := M.frzBox 0 rfl
    have hoI12 := M.old
    have hbx := hb12
    rw [hs9] at hbx
    refine wc_seq ?_
    refine wc_region ?_
    refine wl_mv M rfl rfl ?_
    refine wl_mv M rfl rfl ?_
    refine wl_m M (q_ldbA 0 Tryz.underlying159 rfl sz159 rfl rfl rfl rfl) rfl rfl ?_
    refine wl_e (e_callC M (movesP_c hp1 ht.alen (by omega) M.imm (((R20.mono hJ24).mono hIc).mono hI12) ((((Rl.mono hJ20).mono hJ24).mono hIc).mono hI12)) Tryz.func83 rfl rfl) rfl rfl ?_
    rintro v72 w17 ⟨J72, hJ72, R72, M⟩
    obtain ⟨u72, rfl⟩ := rdSl_slice R72
    have hoJ72 := M.old
    replace R72 : rdSl EArc J72 (sv u72) ((posE t l (Pos.mk (p : Int) (i : Int)))) := R72
    refine wl_m M (q_lenR R72 Tryz.underlying23 rfl) rfl rfl ?_
    refine wl_mv M rfl rfl ?_
    refine wl_nil ?_
    refine wc_block ?_
    refine wc_loop (α := Nat × WM × SV × (List Pos) × (List (Pos × ByteArray))) [4, 9, 14, 15, 16, 17, 18, 74, 75, 76, 77, 78, 79, 80, 81, 82, 83, 84, 85, 86, 87, 88, 89, 90, 91, 92, 93, 94, 95, 96, 97, 98, 99, 100, 101, 102, 103, 104, 105, 106, 107, 108, 109, 110, 111, 112, 113, 114, 115] (fun ((k2, tw2, u_36_2, l_36_2, m_32_2) : Nat × WM × SV × (List Pos) × (List (Pos × ByteArray))) => [(74, .int .i64 (k2 : Int)), (9, sv u_36_2)])
      (fun ((k2, tw2, u_36_2, l_36_2, m_32_2) : Nat × WM × SV × (List Pos) × (List (Pos × ByteArray))) w' => (k2 ≤ (posE t l (Pos.mk (p : Int) (i : Int))).length) ∧ (Wr t l G tw2) ∧ (m_32_2 = encT tw2) ∧ (tw2.map (·.1) = vs ++ (Pos.mk (p : Int) (i : Int)) :: l_36_2) ∧ (∀ y ∈ (posE t l (Pos.mk (p : Int) (i : Int))).take k2, aftP (Pos.mk (p : Int) (i : Int)) y ∈ G → (aftP (Pos.mk (p : Int) (i : Int)) y, wc ++ lab y.out) ∈ tw2) ∧ (∀ e ∈ tw, e ∈ tw2) ∧ (∀ e ∈ tw2, e.2.length ≤ tw2.length) ∧ Mem w I J72 (box b11 159 [.int .i64 (p : Int), .int .i64 (i : Int)] :: row EPos (sv u_36_2) l_36_2 :: mpr QPos Value.string b32 m_32_2 :: box b7 159 [.int .i64 t.start, .int .i64 0] :: box b2 25 [.int .i64 t.states, .int .i64 t.start, sv fu1, sv au1] :: []) w')
      (fun ((k2, tw2, u_36_2, l_36_2, m_32_2) : Nat × WM × SV × (List Pos) × (List (Pos × ByteArray))) => (posE t l (Pos.mk (p : Int) (i : Int))).length - k2) (0, tw, u44, l_36_0.drop 1, m_32_0) ⟨rfl, rfl, trivial⟩ ?_ ?_
    ·refine ⟨Nat.zero_le _, hW, hm, (by rw [hk, hq]; rfl), (by simp), (fun _ h_ => h_), hb, ?_⟩
     exact M
    rintro ⟨k2, tw2, u_36_2, l_36_2, m_32_2⟩ jj2 w18 ⟨hk2, hW2, hm2, hk2, hx2c, hsub, hb2, M⟩
    have hoJ72 := M.old
    have hwc2 := hsub _ hwc
    have hqn2 := congrArg List.length hk2
    simp only [List.length_map, List.length_append, List.length_cons] at hqn2
    refine wc_seq ?_
    refine wc_region ?_
    refine wl_m M (q_lss rfl rfl) rfl rfl ?_
    refine wl_nil ?_
    refine wc_seq ?_
    refine wc_dec rfl (fun ht75 => ?_) (fun ht75 => ?_)
    ·obtain ⟨x2, hx2⟩ : ∃ x_, (posE t l (Pos.mk (p : Int) (i : Int)))[k2]? = some x_ := ⟨_, List.getElem?_eq_getElem (by omega)⟩
     have hll2 := (R72).len_le
     have hl2e := hW2.len
     refine wc_skip ?_
     refine wc_seq ?_
     refine wc_block ?_
     refine wc_seq ?_
     refine wc_region ?_
     refine wl_ix (j := k2) M R72 Tryz.underlying23 rfl rfl hx2 rfl (fun b76 o76 p76 => ?_)
     refine wl_m M (q_ldp p76 rfl rfl) rfl rfl ?_
     refine wl_e (e_alloc M z51) rfl rfl ?_
     rintro _ w19 ⟨b14, rfl, M⟩
     refine wl_e0 (e_stW 0 M rfl rfl rfl sz51 rfl rfl) rfl ?_
     intro _ w20 M
     try simp only [sC0, sCS] at M
     refine wl_nil ?_
     refine wc_seq ?_
     refine wc_region ?_
     refine wl_m M (q_ldbA 1 Tryz.underlying159 rfl sz159 rfl rfl rfl rfl) rfl rfl ?_
     refine wl_m M (q_ldbA 0 Tryz.underlying51 rfl sz51 rfl rfl rfl rfl) rfl rfl ?_
     refine wl_e (e_callC M (afterP_c (Pos.mk (p : Int) (i : Int)) x2 (by simp only []; omega) M.imm) Tryz.func84 rfl rfl) rfl rfl ?_
     rintro _ w21 ⟨J80, hJ80, rfl, M⟩
     replace M := M.less hJ80 hoJ72
     refine wl_e (e_alloc M z159) rfl rfl ?_
     rintro _ w22 ⟨b15, rfl, M⟩
     refine wl_e0 (e_stW 0 M rfl rfl rfl sz159 rfl rfl) rfl ?_
     intro _ w23 M
     try simp only [sC0, sCS] at M
     refine wl_nil ?_
     refine wc_seq ?_
     refine wc_seq ?_
     refine wc_region ?_
     refine wl_mv M rfl rfl ?_
     refine wl_m M (q_ldbA 0 Tryz.underlying159 rfl sz159 rfl rfl rfl rfl) rfl rfl ?_
     refine wl_m M (q_lkI (k := (aftP (Pos.mk (p : Int) (i : Int)) x2)) (z := false) (((R24.mono hIc).mono hI12).mono hJ72) Tryz.underlying156 zv4 rfl rfl) rfl rfl ?_
     refine wl_m M (q_not rfl) rfl rfl ?_
     refine wl_nil ?_
     refine wc_cond rfl (fun ht84 => ?_) (fun ht84 => ?_)
     ·have hng : (aftP (Pos.mk (p : Int) (i : Int)) x2) ∉ G := by rw [aget_tr] at ht84; exact nd_t ht84
      refine wc_exit rfl ?_
      refine wc_region ?_
      refine wl_m M (q_add rfl rfl (IntWalk.i64_in _ (by omega))) rfl rfl ?_
      refine wl_mv M rfl rfl ?_
      refine wl_nil ?_
      replace M := M.drop 0
      replace M := M.drop 0
      refine ⟨(k2 + 1, tw2, u_36_2, l_36_2, m_32_2), ?_, ⟨(by omega), hW2, hm2, hk2, (fun y_ hy_ hG_ => by rw [take_snoc hx2] at hy_; rcases List.mem_append.1 hy_ with h_ | h_; exact hx2c y_ h_ hG_; rw [List.mem_singleton.1 h_] at hG_; exact absurd hG_ hng), hsub, hb2, M⟩, ⟨rfl, rfl, trivial⟩, unw_look rfl unw_base⟩
      show (posE t l (Pos.mk (p : Int) (i : Int))).length - (k2 + 1) < (posE t l (Pos.mk (p : Int) (i : Int))).length - k2
      omega
     have hgd : (aftP (Pos.mk (p : Int) (i : Int)) x2) ∈ G := by rw [aget_tr] at ht84; exact nd_f ht84
     refine wc_skip ?_
     refine wc_seq ?_
     refine wc_region ?_
     refine wl_m M (q_ldbI (hJ72 _ _ hb12) Tryz.underlying9 rfl rfl rfl) rfl rfl ?_
     refine wl_as M rfl rfl ?_
     refine wl_nil ?_
     refine wc_seq ?_
     refine wc_seq ?_
     refine wc_region ?_
     refine wl_m M (q_fa fo_51_3 rfl) rfl rfl ?_
     refine wl_m M (q_ldb 1 Tryz.underlying21 rfl rfl rfl rfl) rfl rfl ?_
     refine wl_m M (q_neq rfl rfl) rfl rfl ?_
     refine wl_nil ?_
     refine wc_cond rfl (fun ht88 => ?_) (fun ht88 => ?_)
     ·have ho2 : ¬ x2.out = 0 := by simpa using ht88
      have ht9 : ((aget m_32_0 (Pos.mk (p : Int) (i : Int))).getD ⟨#[]⟩) ++ Utf8.encode x2.out = strL (wc ++ lab x2.out) := by rw [hs9, lab_ne ho2, strL_snoc]
      refine wc_region ?_
      refine wl_mv M rfl rfl ?_
      refine wl_m M (q_fa fo_51_3 rfl) rfl rfl ?_
      refine wl_m M (q_ldb 1 Tryz.underlying21 rfl rfl rfl rfl) rfl rfl ?_
      refine wl_m M (q_cvI (by rw [Tryz.underlying21]; rfl) Tryz.underlying9 rfl) rfl rfl ?_
      refine wl_m M (q_addS rfl rfl (by rw [hs9]; have h1 := strL_size wc; have h2 := enc_szP x2.out; omega)) rfl rfl ?_
      refine wl_as M rfl rfl ?_
      refine wl_nil ?_
      refine wc_seq ?_
      refine wc_region ?_
      refine wl_mv M rfl rfl ?_
      refine wl_m M (q_ldbA 0 Tryz.underlying159 rfl sz159 rfl rfl rfl rfl) rfl rfl ?_
      refine wl_m M (q_lk2 (k := (aftP (Pos.mk (p : Int) (i : Int)) x2)) (z := ⟨#[]⟩) 4 rfl Tryz.underlying160 zv9 rfl rfl) rfl rfl ?_
      refine wl_mv M rfl rfl ?_
      refine wl_m M (q_ext rfl rfl) rfl rfl ?_
      refine wl_m M (q_ext rfl rfl) rfl rfl ?_
      refine wl_as M rfl rfl ?_
      refine wl_as M rfl rfl ?_
      refine wl_nil ?_
      refine wc_seq ?_
      refine wc_seq ?_
      refine wc_join (α := Unit) [100, 101, 102, 103, 104, 105] (fun _ => [(105, .bool (((aget m_32_2 (aftP (Pos.mk (p : Int) (i : Int)) x2)).isSome) && (!decide (((aget m_32_2 (aftP (Pos.mk (p : Int) (i : Int)) x2)).getD ⟨#[]⟩) = (((aget m_32_0 (Pos.mk p i)).getD ⟨#[]⟩) ++ (Utf8.encode x2.out))))))]) (fun _ w' => Mem w I J72 (box b15 159 [.int .i64 ((aftP (Pos.mk (p : Int) (i : Int)) x2).state), .int .i64 ((aftP (Pos.mk (p : Int) (i : Int)) x2).read)] :: box b14 51 [.int .i64 x2.src, .int .i64 x2.dst, .int .i32 x2.inp, .int .i32 x2.out] :: box b11 159 [.int .i64 (p : Int), .int .i64 (i : Int)] :: row EPos (sv u_36_2) l_36_2 :: mpr QPos Value.string b32 m_32_2 :: box b7 159 [.int .i64 t.start, .int .i64 0] :: box b2 25 [.int .i64 t.states, .int .i64 t.start, sv fu1, sv au1] :: []) w') ?_ ?_
      ·refine wc_region ?_
       refine wl_mv M rfl rfl ?_
       refine wl_mv M rfl rfl ?_
       rcases Bool.eq_false_or_eq_true ((aget m_32_2 (aftP (Pos.mk (p : Int) (i : Int)) x2)).isSome) with hg101 | hg101
       ·refine wl_m M (q_guard 1 rfl rfl rfl hg101 (q_move rfl)) rfl rfl ?_
        refine wl_m M (q_guard 1 rfl rfl rfl hg101 (q_move rfl)) rfl rfl ?_
        refine wl_m M (q_guard 1 rfl rfl rfl hg101 (q_neqS rfl rfl)) rfl rfl ?_
        refine wl_m M (q_pickT rfl hg101 rfl) rfl rfl ?_
        refine wl_nil ?_
        exact ⟨(), M, ⟨(show some (Value.bool (!decide (((aget m_32_2 (aftP (Pos.mk (p : Int) (i : Int)) x2)).getD ⟨#[]⟩) = (((aget m_32_0 (Pos.mk p i)).getD ⟨#[]⟩) ++ (Utf8.encode x2.out))))) = some (Value.bool (((aget m_32_2 (aftP (Pos.mk (p : Int) (i : Int)) x2)).isSome) && (!decide (((aget m_32_2 (aftP (Pos.mk (p : Int) (i : Int)) x2)).getD ⟨#[]⟩) = (((aget m_32_0 (Pos.mk p i)).getD ⟨#[]⟩) ++ (Utf8.encode x2.out)))))) from by first | (simp only [hg101, Bool.true_or, Bool.false_or, Bool.true_and, Bool.false_and, Bool.or_true, Bool.or_false, Bool.and_true, Bool.and_false]; done) | (simp_all; done) | (simp_all; omega)), trivial⟩, unw_take 6 rfl rfl⟩
       refine wl_m M (q_off 1 rfl rfl rfl hg101) rfl rfl ?_
       refine wl_m M (q_off 1 rfl rfl rfl hg101) rfl rfl ?_
       refine wl_m M (q_off 1 rfl rfl rfl hg101) rfl rfl ?_
       refine wl_m M (q_pickF rfl hg101 rfl) rfl rfl ?_
       refine wl_nil ?_
       exact ⟨(), M, ⟨(show some (Value.bool false) = some (Value.bool (((aget m_32_2 (aftP (Pos.mk (p : Int) (i : Int)) x2)).isSome) && (!decide (((aget m_32_2 (aftP (Pos.mk (p : Int) (i : Int)) x2)).getD ⟨#[]⟩) = (((aget m_32_0 (Pos.mk p i)).getD ⟨#[]⟩) ++ (Utf8.encode x2.out)))))) from by first | (simp only [hg101, Bool.true_or, Bool.false_or, Bool.true_and, Bool.false_and, Bool.or_true, Bool.or_false, Bool.and_true, Bool.and_false]; done) | (simp_all; done) | (simp_all; omega)), trivial⟩, unw_take 6 rfl rfl⟩
      rintro _ jr26 w24 M
      refine wc_cond rfl (fun ht105 => ?_) (fun ht105 => ?_)
      ·rw [Bool.and_eq_true] at ht105
       obtain ⟨v5, hv5, e5⟩ := enc_some (by rw [← hm2]; exact ht105.1)
       refine wc_seq ?_
       refine wc_region ?_
       refine wl_as M rfl rfl ?_
       refine wl_nil ?_
       refine wc_ret ?_
       exact out1 rfl rfl ⟨_, _, rfl, M.grow, by rw [sglB_false (wr_two ht hG hW2 hwc2 (List.mem_of_getElem? hx2) hgd ((aget_mem hW2.nd).1 hv5) (fun e_ => by have h2 := ht105.2; rw [ht9, hm2, e5, e_] at h2; simp at h2))]⟩
      refine wc_skip ?_
      refine wc_seq ?_
      refine wc_region ?_
      refine wl_mv M rfl rfl ?_
      refine wl_m M (q_not rfl) rfl rfl ?_
      refine wl_nil ?_
      refine wc_cond rfl (fun ht107 => ?_) (fun ht107 => ?_)
      ·have hnew : (aftP (Pos.mk (p : Int) (i : Int)) x2) ∉ tw2.map (·.1) := enc_none (by rw [← hm2]; simpa using ht107)
       refine wc_seq ?_
       refine wc_region ?_
       refine wl_mv M rfl rfl ?_
       refine wl_m M (q_ldbA 0 Tryz.underlying159 rfl sz159 rfl rfl rfl rfl) rfl rfl ?_
       refine wl_mv M rfl rfl ?_
       refine wl_e0 (e_mpu (k := (aftP (Pos.mk (p : Int) (i : Int)) x2)) (v := ((aget m_32_0 (Pos.mk p i)).getD ⟨#[]⟩) ++ (Utf8.encode x2.out)) 4 M rfl Tryz.underlying160 rfl rfl rfl) rfl ?_
       intro _ w25 M
       try simp only [sC0, sCS] at M
       refine wl_nil ?_
       refine wc_region ?_
       refine wl_mv M rfl rfl ?_
       refine wl_m M (q_ldbA 0 Tryz.underlying159 rfl sz159 rfl rfl rfl rfl) rfl rfl ?_
       refine wl_e (e_bsI (E := EPos) (xs := [(aftP (Pos.mk (p : Int) (i : Int)) x2)]) M (bs_161_1 _ _) ⟨⟨rfl, rfl⟩, trivial⟩ rfl rfl (by decide)) rfl rfl ?_
       rintro _ w26 ⟨u113, J113, rfl, hJ113, R113, M⟩
       have hoJ113 := M.old
       refine wl_e (e_app 3 M rfl R113 Tryz.underlying161 rfl rfl (by have := hW2.len; show (_ + 1) * 16 ≤ _; omega)) rfl rfl ?_
       rintro _ w27 ⟨u114, rfl, M⟩
       replace M := M.less hJ113 hoJ72
       try simp only [sC0, sCS] at M
       refine wl_as M rfl rfl ?_
       refine wl_nil ?_
       refine wc_region ?_
       refine wl_m M (q_add rfl rfl (IntWalk.i64_in _ (by omega))) rfl rfl ?_
       refine wl_mv M rfl rfl ?_
       refine wl_nil ?_
       replace M := M.drop 0
       replace M := M.drop 0
       refine ⟨(k2 + 1, tw2 ++ [((aftP (Pos.mk (p : Int) (i : Int)) x2), (wc ++ lab x2.out))], u114, l_36_2 ++ [(aftP (Pos.mk (p : Int) (i : Int)) x2)], aput m_32_2 (aftP (Pos.mk (p : Int) (i : Int)) x2) (((aget m_32_0 (Pos.mk p i)).getD ⟨#[]⟩) ++ (Utf8.encode x2.out))), ?_, ⟨(by omega), (wr_add ht hW2 hwc2 (List.mem_of_getElem? hx2) hgd hnew), (by rw [hm2, ht9, enc_put hnew]), (by rw [List.map_append, hk2]; simp), (fun y_ hy_ hG_ => by rw [take_snoc hx2] at hy_; rcases List.mem_append.1 hy_ with h_ | h_; exact List.mem_append.2 (.inl (hx2c y_ h_ hG_)); rw [List.mem_singleton.1 h_]; simp), (fun e_ h_ => List.mem_append.2 (.inl (hsub e_ h_))), (fun e_ h_ => by rw [List.length_append, List.length_singleton]; rcases List.mem_append.1 h_ with h_ | h_; have := hb2 e_ h_; omega; rw [List.mem_singleton.1 h_]; show (wc ++ lab x2.out).length ≤ _; rw [List.length_append]; have h1 := hb2 _ hwc2; have h2 := lab_le x2.out; simp only [] at h1; omega), M⟩, ⟨rfl, rfl, trivial⟩, unw_look rfl (unw_hav rfl (unw_look rfl unw_base))⟩
       show (posE t l (Pos.mk (p : Int) (i : Int))).length - (k2 + 1) < (posE t l (Pos.mk (p : Int) (i : Int))).length - k2
       omega
      obtain ⟨v5, hv5, e5⟩ := enc_some (tw := tw2) (k := (aftP (Pos.mk (p : Int) (i : Int)) x2)) (by rw [← hm2]; simpa using ht107)
      have hold : ((aftP (Pos.mk (p : Int) (i : Int)) x2), (wc ++ lab x2.out)) ∈ tw2 := by
        have h1 := (aget_mem hW2.nd).1 hv5
        have h2 : v5 = (wc ++ lab x2.out) := by
          refine strL_inj (hW2.vr hlb h1) (vr_app (hW2.vr hlb hwc2) (lab_vr (hlb x2 (mem_posE.1 (List.mem_of_getElem? hx2)).1).2)) ?_
          have h3 : (aget m_32_2 (aftP (Pos.mk (p : Int) (i : Int)) x2)).isSome = true := by simpa using ht107
          rw [h3, ht9, hm2, e5] at ht105
          simpa using ht105
        rw [← h2]; exact h1
      refine wc_skip ?_
      refine wc_region ?_
      refine wl_m M (q_add rfl rfl (IntWalk.i64_in _ (by omega))) rfl rfl ?_
      refine wl_mv M rfl rfl ?_
      refine wl_nil ?_
      replace M := M.drop 0
      replace M := M.drop 0
      refine ⟨(k2 + 1, tw2, u_36_2, l_36_2, m_32_2), ?_, ⟨(by omega), hW2, hm2, hk2, (fun y_ hy_ hG_ => by rw [take_snoc hx2] at hy_; rcases List.mem_append.1 hy_ with h_ | h_; exact hx2c y_ h_ hG_; rw [List.mem_singleton.1 h_]; exact hold), hsub, hb2, M⟩, ⟨rfl, rfl, trivial⟩, unw_look rfl (unw_hav rfl (unw_look rfl unw_base))⟩
      show (posE t l (Pos.mk (p : Int) (i : Int))).length - (k2 + 1) < (posE t l (Pos.mk (p : Int) (i : Int))).length - k2
      omega
     have ho2 : x2.out = 0 := by simpa using ht88
     have ht9 : ((aget m_32_0 (Pos.mk (p : Int) (i : Int))).getD ⟨#[]⟩) = strL (wc ++ lab x2.out) := by rw [hs9, ho2, lab_zero, List.append_nil]
     refine wc_skip ?_
     refine wc_seq ?_
     refine wc_region ?_
     refine wl_mv M rfl rfl ?_
     refine wl_m M (q_ldbA 0 Tryz.underlying159 rfl sz159 rfl rfl rfl rfl) rfl rfl ?_
     refine wl_m M (q_lk2 (k := (aftP (Pos.mk (p : Int) (i : Int)) x2)) (z := ⟨#[]⟩) 4 rfl Tryz.underlying160 zv9 rfl rfl) rfl rfl ?_
     refine wl_mv M rfl rfl ?_
     refine wl_m M (q_ext rfl rfl) rfl rfl ?_
     refine wl_m M (q_ext rfl rfl) rfl rfl ?_
     refine wl_as M rfl rfl ?_
     refine wl_as M rfl rfl ?_
     refine wl_nil ?_
     refine wc_seq ?_
     refine wc_seq ?_
     refine wc_join (α := Unit) [100, 101, 102, 103, 104, 105] (fun _ => [(105, .bool (((aget m_32_2 (aftP (Pos.mk (p : Int) (i : Int)) x2)).isSome) && (!decide (((aget m_32_2 (aftP (Pos.mk (p : Int) (i : Int)) x2)).getD ⟨#[]⟩) = ((aget m_32_0 (Pos.mk p i)).getD ⟨#[]⟩)))))]) (fun _ w' => Mem w I J72 (box b15 159 [.int .i64 ((aftP (Pos.mk (p : Int) (i : Int)) x2).state), .int .i64 ((aftP (Pos.mk (p : Int) (i : Int)) x2).read)] :: box b14 51 [.int .i64 x2.src, .int .i64 x2.dst, .int .i32 x2.inp, .int .i32 x2.out] :: box b11 159 [.int .i64 (p : Int), .int .i64 (i : Int)] :: row EPos (sv u_36_2) l_36_2 :: mpr QPos Value.string b32 m_32_2 :: box b7 159 [.int .i64 t.start, .int .i64 0] :: box b2 25 [.int .i64 t.states, .int .i64 t.start, sv fu1, sv au1] :: []) w') ?_ ?_
     ·refine wc_region ?_
      refine wl_mv M rfl rfl ?_
      refine wl_mv M rfl rfl ?_
      rcases Bool.eq_false_or_eq_true ((aget m_32_2 (aftP (Pos.mk (p : Int) (i : Int)) x2)).isSome) with hg101 | hg101
      ·refine wl_m M (q_guard 1 rfl rfl rfl hg101 (q_move rfl)) rfl rfl ?_
       refine wl_m M (q_guard 1 rfl rfl rfl hg101 (q_move rfl)) rfl rfl ?_
       refine wl_m M (q_guard 1 rfl rfl rfl hg101 (q_neqS rfl rfl)) rfl rfl ?_
       refine wl_m M (q_pickT rfl hg101 rfl) rfl rfl ?_
       refine wl_nil ?_
       exact ⟨(), M, ⟨(show some (Value.bool (!decide (((aget m_32_2 (aftP (Pos.mk (p : Int) (i : Int)) x2)).getD ⟨#[]⟩) = ((aget m_32_0 (Pos.mk p i)).getD ⟨#[]⟩)))) = some (Value.bool (((aget m_32_2 (aftP (Pos.mk (p : Int) (i : Int)) x2)).isSome) && (!decide (((aget m_32_2 (aftP (Pos.mk (p : Int) (i : Int)) x2)).getD ⟨#[]⟩) = ((aget m_32_0 (Pos.mk p i)).getD ⟨#[]⟩))))) from by first | (simp only [hg101, Bool.true_or, Bool.false_or, Bool.true_and, Bool.false_and, Bool.or_true, Bool.or_false, Bool.and_true, Bool.and_false]; done) | (simp_all; done) | (simp_all; omega)), trivial⟩, unw_take 6 rfl rfl⟩
      refine wl_m M (q_off 1 rfl rfl rfl hg101) rfl rfl ?_
      refine wl_m M (q_off 1 rfl rfl rfl hg101) rfl rfl ?_
      refine wl_m M (q_off 1 rfl rfl rfl hg101) rfl rfl ?_
      refine wl_m M (q_pickF rfl hg101 rfl) rfl rfl ?_
      refine wl_nil ?_
      exact ⟨(), M, ⟨(show some (Value.bool false) = some (Value.bool (((aget m_32_2 (aftP (Pos.mk (p : Int) (i : Int)) x2)).isSome) && (!decide (((aget m_32_2 (aftP (Pos.mk (p : Int) (i : Int)) x2)).getD ⟨#[]⟩) = ((aget m_32_0 (Pos.mk p i)).getD ⟨#[]⟩))))) from by first | (simp only [hg101, Bool.true_or, Bool.false_or, Bool.true_and, Bool.false_and, Bool.or_true, Bool.or_false, Bool.and_true, Bool.and_false]; done) | (simp_all; done) | (simp_all; omega)), trivial⟩, unw_take 6 rfl rfl⟩
     rintro _ jr26 w28 M
     refine wc_cond rfl (fun ht105 => ?_) (fun ht105 => ?_)
     ·rw [Bool.and_eq_true] at ht105
      obtain ⟨v5, hv5, e5⟩ := enc_some (by rw [← hm2]; exact ht105.1)
      refine wc_seq ?_
      refine wc_region ?_
      refine wl_as M rfl rfl ?_
      refine wl_nil ?_
      refine wc_ret ?_
      exact out1 rfl rfl ⟨_, _, rfl, M.grow, by rw [sglB_false (wr_two ht hG hW2 hwc2 (List.mem_of_getElem? hx2) hgd ((aget_mem hW2.nd).1 hv5) (fun e_ => by have h2 := ht105.2; rw [ht9, hm2, e5, e_] at h2; simp at h2))]⟩
     refine wc_skip ?_
     refine wc_seq ?_
     refine wc_region ?_
     refine wl_mv M rfl rfl ?_
     refine wl_m M (q_not rfl) rfl rfl ?_
     refine wl_nil ?_
     refine wc_cond rfl (fun ht107 => ?_) (fun ht107 => ?_)
     ·have hnew : (aftP (Pos.mk (p : Int) (i : Int)) x2) ∉ tw2.map (·.1) := enc_none (by rw [← hm2]; simpa using ht107)
      refine wc_seq ?_
      refine wc_region ?_
      refine wl_mv M rfl rfl ?_
      refine wl_m M (q_ldbA 0 Tryz.underlying159 rfl sz159 rfl rfl rfl rfl) rfl rfl ?_
      refine wl_mv M rfl rfl ?_
      refine wl_e0 (e_mpu (k := (aftP (Pos.mk (p : Int) (i : Int)) x2)) (v := (aget m_32_0 (Pos.mk p i)).getD ⟨#[]⟩) 4 M rfl Tryz.underlying160 rfl rfl rfl) rfl ?_
      intro _ w29 M
      try simp only [sC0, sCS] at M
      refine wl_nil ?_
      refine wc_region ?_
      refine wl_mv M rfl rfl ?_
      refine wl_m M (q_ldbA 0 Tryz.underlying159 rfl sz159 rfl rfl rfl rfl) rfl rfl ?_
      refine wl_e (e_bsI (E := EPos) (xs := [(aftP (Pos.mk (p : Int) (i : Int)) x2)]) M (bs_161_1 _ _) ⟨⟨rfl, rfl⟩, trivial⟩ rfl rfl (by decide)) rfl rfl ?_
      rintro _ w30 ⟨u113, J113, rfl, hJ113, R113, M⟩
      have hoJ113 := M.old
      refine wl_e (e_app 3 M rfl R113 Tryz.underlying161 rfl rfl (by have := hW2.len; show (_ + 1) * 16 ≤ _; omega)) rfl rfl ?_
      rintro _ w31 ⟨u114, rfl, M⟩
      replace M := M.less hJ113 hoJ72
      try simp only [sC0, sCS] at M
      refine wl_as M rfl rfl ?_
      refine wl_nil ?_
      refine wc_region ?_
      refine wl_m M (q_add rfl rfl (IntWalk.i64_in _ (by omega))) rfl rfl ?_
      refine wl_mv M rfl rfl ?_
      refine wl_nil ?_
      replace M := M.drop 0
      replace M := M.drop 0
      refine ⟨(k2 + 1, tw2 ++ [((aftP (Pos.mk (p : Int) (i : Int)) x2), (wc ++ lab x2.out))], u114, l_36_2 ++ [(aftP (Pos.mk (p : Int) (i : Int)) x2)], aput m_32_2 (aftP (Pos.mk (p : Int) (i : Int)) x2) ((aget m_32_0 (Pos.mk p i)).getD ⟨#[]⟩)), ?_, ⟨(by omega), (wr_add ht hW2 hwc2 (List.mem_of_getElem? hx2) hgd hnew), (by rw [hm2, ht9, enc_put hnew]), (by rw [List.map_append, hk2]; simp), (fun y_ hy_ hG_ => by rw [take_snoc hx2] at hy_; rcases List.mem_append.1 hy_ with h_ | h_; exact List.mem_append.2 (.inl (hx2c y_ h_ hG_)); rw [List.mem_singleton.1 h_]; simp), (fun e_ h_ => List.mem_append.2 (.inl (hsub e_ h_))), (fun e_ h_ => by rw [List.length_append, List.length_singleton]; rcases List.mem_append.1 h_ with h_ | h_; have := hb2 e_ h_; omega; rw [List.mem_singleton.1 h_]; show (wc ++ lab x2.out).length ≤ _; rw [List.length_append]; have h1 := hb2 _ hwc2; have h2 := lab_le x2.out; simp only [] at h1; omega), M⟩, ⟨rfl, rfl, trivial⟩, unw_look rfl (unw_hav rfl (unw_look rfl unw_base))⟩
      show (posE t l (Pos.mk (p : Int) (i : Int))).length - (k2 + 1) < (posE t l (Pos.mk (p : Int) (i : Int))).length - k2
      omega
     obtain ⟨v5, hv5, e5⟩ := enc_some (tw := tw2) (k := (aftP (Pos.mk (p : Int) (i : Int)) x2)) (by rw [← hm2]; simpa using ht107)
     have hold : ((aftP (Pos.mk (p : Int) (i : Int)) x2), (wc ++ lab x2.out)) ∈ tw2 := by
       have h1 := (aget_mem hW2.nd).1 hv5
       have h2 : v5 = (wc ++ lab x2.out) := by
         refine strL_inj (hW2.vr hlb h1) (vr_app (hW2.vr hlb hwc2) (lab_vr (hlb x2 (mem_posE.1 (List.mem_of_getElem? hx2)).1).2)) ?_
         have h3 : (aget m_32_2 (aftP (Pos.mk (p : Int) (i : Int)) x2)).isSome = true := by simpa using ht107
         rw [h3, ht9, hm2, e5] at ht105
         simpa using ht105
       rw [← h2]; exact h1
     refine wc_skip ?_
     refine wc_region ?_
     refine wl_m M (q_add rfl rfl (IntWalk.i64_in _ (by omega))) rfl rfl ?_
     refine wl_mv M rfl rfl ?_
     refine wl_nil ?_
     replace M := M.drop 0
     replace M := M.drop 0
     refine ⟨(k2 + 1, tw2, u_36_2, l_36_2, m_32_2), ?_, ⟨(by omega), hW2, hm2, hk2, (fun y_ hy_ hG_ => by rw [take_snoc hx2] at hy_; rcases List.mem_append.1 hy_ with h_ | h_; exact hx2c y_ h_ hG_; rw [List.mem_singleton.1 h_]; exact hold), hsub, hb2, M⟩, ⟨rfl, rfl, trivial⟩, unw_look rfl (unw_hav rfl (unw_look rfl unw_base))⟩
     show (posE t l (Pos.mk (p : Int) (i : Int))).length - (k2 + 1) < (posE t l (Pos.mk (p : Int) (i : Int))).length - k2
     omega
    have hke2 : k2 = (posE t l (Pos.mk (p : Int) (i : Int))).length := by omega
    rw [hke2, List.take_length] at hx2c
    have hvs2 : ∀ p ∈ vs, p ∈ tw.map (·.1) := fun p hp => by rw [hk]; exact List.mem_append.2 (.inl hp)
    refine wc_exit rfl ?_
    replace M := M.drop 0
    refine ⟨(J72, vs ++ [(Pos.mk (p : Int) (i : Int))], tw2, some (b12, wc), u_36_2, l_36_2, m_32_2), ?_, ⟨(hle.trans (hle.trans hIc hI12) hJ72), hW2, hm2, (by rw [hk2]; simp), (wrC_next hc hW2 hsub hvs2 hwc2 hx2c), hb2, (hsub _ h0), (res_end hW2 hvs2 hsub hwc2 (hJ72 _ _ hbx) hed hold9), M⟩, ⟨rfl, rfl, trivial⟩, unw_look rfl (unw_hav rfl (unw_look rfl (unw_hav rfl (unw_look rfl unw_base))))⟩
    show G.length - (vs ++ [(Pos.mk (p : Int) (i : Int))]).length < G.length - vs.length
    have h1 := hW2.len
    have h2 := congrArg List.length hk2
    simp only [List.length_map, List.length_append, List.length_cons, List.length_nil] at h2 ⊢
    omega
   obtain ⟨hbI, hbE, hbA⟩ := hRo
   refine wc_draws (fun w' => Mem w I Ic (box b12 9 [.string ((aget m_32_0 (Pos.mk p i)).getD ⟨#[]⟩)] :: box b11 159 [.int .i64 (p : Int), .int .i64 (i : Int)] :: row EPos (sv u44) (l_36_0.drop 1) :: mpr QPos Value.string b32 m_32_0 :: box b7 159 [.int .i64 t.start, .int .i64 0] :: box b2 25 [.int .i64 t.states, .int .i64 t.start, sv fu1, sv au1] :: []) w' ∧ True) [] fol ?_
   replace M := M.drew
   have hS := (⟨M, trivial⟩ : _ ∧ _)
   refine wa_q 0 rfl (by kernel_rfl) (q_move rfl) hS rfl rfl ?_
   refine wa_q 1 rfl (by kernel_rfl) (q_neqP Tryz.underlying162 rfl rfl) hS rfl rfl ?_
   refine wa_q 2 rfl (by kernel_rfl) (q_move rfl) hS rfl rfl ?_
   refine wa_q 3 rfl (by kernel_rfl) (q_guard 2 rfl rfl rfl rfl (q_move rfl)) hS rfl rfl ?_
   refine wa_q 4 rfl (by kernel_rfl) (q_guard 2 rfl rfl rfl rfl (q_nilCheck rfl)) hS rfl rfl ?_
   refine wa_q 5 rfl (by kernel_rfl) ((q_guard 2 rfl rfl rfl rfl (q_ldbI hbI Tryz.underlying9 rfl rfl rfl)).mono fun _ h => h.1) hS rfl rfl ?_
   refine wa_q 6 rfl (by kernel_rfl) ((q_guard 2 rfl rfl rfl rfl (q_ldb 0 Tryz.underlying9 rfl rfl rfl rfl)).mono fun _ h => h.1) hS rfl rfl ?_
   refine wa_q 7 rfl (by kernel_rfl) (q_guard 2 rfl rfl rfl rfl (q_neqS rfl rfl)) hS rfl rfl ?_
   refine wa_q 8 rfl (by kernel_rfl) (q_pickT rfl rfl rfl) hS rfl rfl ?_
   refine wa_done (by kernel_rfl) ?_
   refine wc_cond rfl (fun ht68 => ?_) (fun ht68 => ?_)
   ·refine wc_seq ?_
    refine wc_region ?_
    refine wl_as M rfl rfl ?_
    refine wl_nil ?_
    refine wc_ret ?_
    exact out1 rfl rfl ⟨_, _, rfl, M.grow, by rw [sglB_false (res_two hW hbE hwc hed (by rw [hs9] at ht68; simpa using ht68))]⟩
   have hold9 : ∀ p ∈ vs, ∀ w, (p, w) ∈ tw → endB t l p = true → w = wc := fun p hp w hw he => by
     obtain ⟨p5, _, h5, _⟩ := hbE
     rw [hs9] at ht68
     rw [hbA p hp w hw he]
     exact strL_inj (hW.vr hlb h5) (hW.vr hlb hwc) (by simpa using ht68)
   refine wc_skip ?_
   refine wc_region ?_
   refine wl_as M rfl rfl ?_
   refine wl_nil ?_
   obtain ⟨I12, M, hI12, hb12⟩ := M.frzBox 0 rfl
   have hoI12 := M.old
   have hbx := hb12
   rw [hs9] at hbx
   refine wc_seq ?_
   refine wc_region ?_
   refine wl_mv M rfl rfl ?_
   refine wl_mv M rfl rfl ?_
   refine wl_m M (q_ldbA 0 Tryz.underlying159 rfl sz159 rfl rfl rfl rfl) rfl rfl ?_
   refine wl_e (e_callC M (movesP_c hp1 ht.alen (by omega) M.imm (((R20.mono hJ24).mono hIc).mono hI12) ((((Rl.mono hJ20).mono hJ24).mono hIc).mono hI12)) Tryz.func83 rfl rfl) rfl rfl ?_
   rintro v72 w32 ⟨J72, hJ72, R72, M⟩
   obtain ⟨u72, rfl⟩ := rdSl_slice R72
   have hoJ72 := M.old
   replace R72 : rdSl EArc J72 (sv u72) ((posE t l (Pos.mk (p : Int) (i : Int)))) := R72
   refine wl_m M (q_lenR R72 Tryz.underlying23 rfl) rfl rfl ?_
   refine wl_mv M rfl rfl ?_
   refine wl_nil ?_
   refine wc_block ?_
   refine wc_loop (α := Nat × WM × SV × (List Pos) × (List (Pos × ByteArray))) [4, 9, 14, 15, 16, 17, 18, 74, 75, 76, 77, 78, 79, 80, 81, 82, 83, 84, 85, 86, 87, 88, 89, 90, 91, 92, 93, 94, 95, 96, 97, 98, 99, 100, 101, 102, 103, 104, 105, 106, 107, 108, 109, 110, 111, 112, 113, 114, 115] (fun ((k2, tw2, u_36_2, l_36_2, m_32_2) : Nat × WM × SV × (List Pos) × (List (Pos × ByteArray))) => [(74, .int .i64 (k2 : Int)), (9, sv u_36_2)])
     (fun ((k2, tw2, u_36_2, l_36_2, m_32_2) : Nat × WM × SV × (List Pos) × (List (Pos × ByteArray))) w' => (k2 ≤ (posE t l (Pos.mk (p : Int) (i : Int))).length) ∧ (Wr t l G tw2) ∧ (m_32_2 = encT tw2) ∧ (tw2.map (·.1) = vs ++ (Pos.mk (p : Int) (i : Int)) :: l_36_2) ∧ (∀ y ∈ (posE t l (Pos.mk (p : Int) (i : Int))).take k2, aftP (Pos.mk (p : Int) (i : Int)) y ∈ G → (aftP (Pos.mk (p : Int) (i : Int)) y, wc ++ lab y.out) ∈ tw2) ∧ (∀ e ∈ tw, e ∈ tw2) ∧ (∀ e ∈ tw2, e.2.length ≤ tw2.length) ∧ Mem w I J72 (box b11 159 [.int .i64 (p : Int), .int .i64 (i : Int)] :: row EPos (sv u_36_2) l_36_2 :: mpr QPos Value.string b32 m_32_2 :: box b7 159 [.int .i64 t.start, .int .i64 0] :: box b2 25 [.int .i64 t.states, .int .i64 t.start, sv fu1, sv au1] :: []) w')
     (fun ((k2, tw2, u_36_2, l_36_2, m_32_2) : Nat × WM × SV × (List Pos) × (List (Pos × ByteArray))) => (posE t l (Pos.mk (p : Int) (i : Int))).length - k2) (0, tw, u44, l_36_0.drop 1, m_32_0) ⟨rfl, rfl, trivial⟩ ?_ ?_
   ·refine ⟨Nat.zero_le _, hW, hm, (by rw [hk, hq]; rfl), (by simp), (fun _ h_ => h_), hb, ?_⟩
    exact M
   rintro ⟨k2, tw2, u_36_2, l_36_2, m_32_2⟩ jj2 w33 ⟨hk2, hW2, hm2, hk2, hx2c, hsub, hb2, M⟩
   have hoJ72 := M.old
   have hwc2 := hsub _ hwc
   have hqn2 := congrArg List.length hk2
   simp only [List.length_map, List.length_append, List.length_cons] at hqn2
   refine wc_seq ?_
   refine wc_region ?_
   refine wl_m M (q_lss rfl rfl) rfl rfl ?_
   refine wl_nil ?_
   refine wc_seq ?_
   refine wc_dec rfl (fun ht75 => ?_) (fun ht75 => ?_)
   ·obtain ⟨x2, hx2⟩ : ∃ x_, (posE t l (Pos.mk (p : Int) (i : Int)))[k2]? = some x_ := ⟨_, List.getElem?_eq_getElem (by omega)⟩
    have hll2 := (R72).len_le
    have hl2e := hW2.len
    refine wc_skip ?_
    refine wc_seq ?_
    refine wc_block ?_
    refine wc_seq ?_
    refine wc_region ?_
    refine wl_ix (j := k2) M R72 Tryz.underlying23 rfl rfl hx2 rfl (fun b76 o76 p76 => ?_)
    refine wl_m M (q_ldp p76 rfl rfl) rfl rfl ?_
    refine wl_e (e_alloc M z51) rfl rfl ?_
    rintro _ w34 ⟨b14, rfl, M⟩
    refine wl_e0 (e_stW 0 M rfl rfl rfl sz51 rfl rfl) rfl ?_
    intro _ w35 M
    try simp only [sC0, sCS] at M
    refine wl_nil ?_
    refine wc_seq ?_
    refine wc_region ?_
    refine wl_m M (q_ldbA 1 Tryz.underlying159 rfl sz159 rfl rfl rfl rfl) rfl rfl ?_
    refine wl_m M (q_ldbA 0 Tryz.underlying51 rfl sz51 rfl rfl rfl rfl) rfl rfl ?_
    refine wl_e (e_callC M (afterP_c (Pos.mk (p : Int) (i : Int)) x2 (by simp only []; omega) M.imm) Tryz.func84 rfl rfl) rfl rfl ?_
    rintro _ w36 ⟨J80, hJ80, rfl, M⟩
    replace M := M.less hJ80 hoJ72
    refine wl_e (e_alloc M z159) rfl rfl ?_
    rintro _ w37 ⟨b15, rfl, M⟩
    refine wl_e0 (e_stW 0 M rfl rfl rfl sz159 rfl rfl) rfl ?_
    intro _ w38 M
    try simp only [sC0, sCS] at M
    refine wl_nil ?_
    refine wc_seq ?_
    refine wc_seq ?_
    refine wc_region ?_
    refine wl_mv M rfl rfl ?_
    refine wl_m M (q_ldbA 0 Tryz.underlying159 rfl sz159 rfl rfl rfl rfl) rfl rfl ?_
    refine wl_m M (q_lkI (k := (aftP (Pos.mk (p : Int) (i : Int)) x2)) (z := false) (((R24.mono hIc).mono hI12).mono hJ72) Tryz.underlying156 zv4 rfl rfl) rfl rfl ?_
    refine wl_m M (q_not rfl) rfl rfl ?_
    refine wl_nil ?_
    refine wc_cond rfl (fun ht84 => ?_) (fun ht84 => ?_)
    ·have hng : (aftP (Pos.mk (p : Int) (i : Int)) x2) ∉ G := by rw [aget_tr] at ht84; exact nd_t ht84
     refine wc_exit rfl ?_
     refine wc_region ?_
     refine wl_m M (q_add rfl rfl (IntWalk.i64_in _ (by omega))) rfl rfl ?_
     refine wl_mv M rfl rfl ?_
     refine wl_nil ?_
     replace M := M.drop 0
     replace M := M.drop 0
     refine ⟨(k2 + 1, tw2, u_36_2, l_36_2, m_32_2), ?_, ⟨(by omega), hW2, hm2, hk2, (fun y_ hy_ hG_ => by rw [take_snoc hx2] at hy_; rcases List.mem_append.1 hy_ with h_ | h_; exact hx2c y_ h_ hG_; rw [List.mem_singleton.1 h_] at hG_; exact absurd hG_ hng), hsub, hb2, M⟩, ⟨rfl, rfl, trivial⟩, unw_look rfl unw_base⟩
     show (posE t l (Pos.mk (p : Int) (i : Int))).length - (k2 + 1) < (posE t l (Pos.mk (p : Int) (i : Int))).length - k2
     omega
    have hgd : (aftP (Pos.mk (p : Int) (i : Int)) x2) ∈ G := by rw [aget_tr] at ht84; exact nd_f ht84
    refine wc_skip ?_
    refine wc_seq ?_
    refine wc_region ?_
    refine wl_m M (q_ldbI (hJ72 _ _ hb12) Tryz.underlying9 rfl rfl rfl) rfl rfl ?_
    refine wl_as M rfl rfl ?_
    refine wl_nil ?_
    refine wc_seq ?_
    refine wc_seq ?_
    refine wc_region ?_
    refine wl_m M (q_fa fo_51_3 rfl) rfl rfl ?_
    refine wl_m M (q_ldb 1 Tryz.underlying21 rfl rfl rfl rfl) rfl rfl ?_
    refine wl_m M (q_neq rfl rfl) rfl rfl ?_
    refine wl_nil ?_
    refine wc_cond rfl (fun ht88 => ?_) (fun ht88 => ?_)
    ·have ho2 : ¬ x2.out = 0 := by simpa using ht88
     have ht9 : ((aget m_32_0 (Pos.mk (p : Int) (i : Int))).getD ⟨#[]⟩) ++ Utf8.encode x2.out = strL (wc ++ lab x2.out) := by rw [hs9, lab_ne ho2, strL_snoc]
     refine wc_region ?_
     refine wl_mv M rfl rfl ?_
     refine wl_m M (q_fa fo_51_3 rfl) rfl rfl ?_
     refine wl_m M (q_ldb 1 Tryz.underlying21 rfl rfl rfl rfl) rfl rfl ?_
     refine wl_m M (q_cvI (by rw [Tryz.underlying21]; rfl) Tryz.underlying9 rfl) rfl rfl ?_
     refine wl_m M (q_addS rfl rfl (by rw [hs9]; have h1 := strL_size wc; have h2 := enc_szP x2.out; omega)) rfl rfl ?_
     refine wl_as M rfl rfl ?_
     refine wl_nil ?_
     refine wc_seq ?_
     refine wc_region ?_
     refine wl_mv M rfl rfl ?_
     refine wl_m M (q_ldbA 0 Tryz.underlying159 rfl sz159 rfl rfl rfl rfl) rfl rfl ?_
     refine wl_m M (q_lk2 (k := (aftP (Pos.mk (p : Int) (i : Int)) x2)) (z := ⟨#[]⟩) 4 rfl Tryz.underlying160 zv9 rfl rfl) rfl rfl ?_
     refine wl_mv M rfl rfl ?_
     refine wl_m M (q_ext rfl rfl) rfl rfl ?_
     refine wl_m M (q_ext rfl rfl) rfl rfl ?_
     refine wl_as M rfl rfl ?_
     refine wl_as M rfl rfl ?_
     refine wl_nil ?_
     refine wc_seq ?_
     refine wc_seq ?_
     refine wc_join (α := Unit) [100, 101, 102, 103, 104, 105] (fun _ => [(105, .bool (((aget m_32_2 (aftP (Pos.mk (p : Int) (i : Int)) x2)).isSome) && (!decide (((aget m_32_2 (aftP (Pos.mk (p : Int) (i : Int)) x2)).getD ⟨#[]⟩) = (((aget m_32_0 (Pos.mk p i)).getD ⟨#[]⟩) ++ (Utf8.encode x2.out))))))]) (fun _ w' => Mem w I J72 (box b15 159 [.int .i64 ((aftP (Pos.mk (p : Int) (i : Int)) x2).state), .int .i64 ((aftP (Pos.mk (p : Int) (i : Int)) x2).read)] :: box b14 51 [.int .i64 x2.src, .int .i64 x2.dst, .int .i32 x2.inp, .int .i32 x2.out] :: box b11 159 [.int .i64 (p : Int), .int .i64 (i : Int)] :: row EPos (sv u_36_2) l_36_2 :: mpr QPos Value.string b32 m_32_2 :: box b7 159 [.int .i64 t.start, .int .i64 0] :: box b2 25 [.int .i64 t.states, .int .i64 t.start, sv fu1, sv au1] :: []) w') ?_ ?_
     ·refine wc_region ?_
      refine wl_mv M rfl rfl ?_
      refine wl_mv M rfl rfl ?_
      rcases Bool.eq_false_or_eq_true ((aget m_32_2 (aftP (Pos.mk (p : Int) (i : Int)) x2)).isSome) with hg101 | hg101
      ·refine wl_m M (q_guard 1 rfl rfl rfl hg101 (q_move rfl)) rfl rfl ?_
       refine wl_m M (q_guard 1 rfl rfl rfl hg101 (q_move rfl)) rfl rfl ?_
       refine wl_m M (q_guard 1 rfl rfl rfl hg101 (q_neqS rfl rfl)) rfl rfl ?_
       refine wl_m M (q_pickT rfl hg101 rfl) rfl rfl ?_
       refine wl_nil ?_
       exact ⟨(), M, ⟨(show some (Value.bool (!decide (((aget m_32_2 (aftP (Pos.mk (p : Int) (i : Int)) x2)).getD ⟨#[]⟩) = (((aget m_32_0 (Pos.mk p i)).getD ⟨#[]⟩) ++ (Utf8.encode x2.out))))) = some (Value.bool (((aget m_32_2 (aftP (Pos.mk (p : Int) (i : Int)) x2)).isSome) && (!decide (((aget m_32_2 (aftP (Pos.mk (p : Int) (i : Int)) x2)).getD ⟨#[]⟩) = (((aget m_32_0 (Pos.mk p i)).getD ⟨#[]⟩) ++ (Utf8.encode x2.out)))))) from by first | (simp only [hg101, Bool.true_or, Bool.false_or, Bool.true_and, Bool.false_and, Bool.or_true, Bool.or_false, Bool.and_true, Bool.and_false]; done) | (simp_all; done) | (simp_all; omega)), trivial⟩, unw_take 6 rfl rfl⟩
      refine wl_m M (q_off 1 rfl rfl rfl hg101) rfl rfl ?_
      refine wl_m M (q_off 1 rfl rfl rfl hg101) rfl rfl ?_
      refine wl_m M (q_off 1 rfl rfl rfl hg101) rfl rfl ?_
      refine wl_m M (q_pickF rfl hg101 rfl) rfl rfl ?_
      refine wl_nil ?_
      exact ⟨(), M, ⟨(show some (Value.bool false) = some (Value.bool (((aget m_32_2 (aftP (Pos.mk (p : Int) (i : Int)) x2)).isSome) && (!decide (((aget m_32_2 (aftP (Pos.mk (p : Int) (i : Int)) x2)).getD ⟨#[]⟩) = (((aget m_32_0 (Pos.mk p i)).getD ⟨#[]⟩) ++ (Utf8.encode x2.out)))))) from by first | (simp only [hg101, Bool.true_or, Bool.false_or, Bool.true_and, Bool.false_and, Bool.or_true, Bool.or_false, Bool.and_true, Bool.and_false]; done) | (simp_all; done) | (simp_all; omega)), trivial⟩, unw_take 6 rfl rfl⟩
     rintro _ jr26 w39 M
     refine wc_cond rfl (fun ht105 => ?_) (fun ht105 => ?_)
     ·rw [Bool.and_eq_true] at ht105
      obtain ⟨v5, hv5, e5⟩ := enc_some (by rw [← hm2]; exact ht105.1)
      refine wc_seq ?_
      refine wc_region ?_
      refine wl_as M rfl rfl ?_
      refine wl_nil ?_
      refine wc_ret ?_
      exact out1 rfl rfl ⟨_, _, rfl, M.grow, by rw [sglB_false (wr_two ht hG hW2 hwc2 (List.mem_of_getElem? hx2) hgd ((aget_mem hW2.nd).1 hv5) (fun e_ => by have h2 := ht105.2; rw [ht9, hm2, e5, e_] at h2; simp at h2))]⟩
     refine wc_skip ?_
     refine wc_seq ?_
     refine wc_region ?_
     refine wl_mv M rfl rfl ?_
     refine wl_m M (q_not rfl) rfl rfl ?_
     refine wl_nil ?_
     refine wc_cond rfl (fun ht107 => ?_) (fun ht107 => ?_)
     ·have hnew : (aftP (Pos.mk (p : Int) (i : Int)) x2) ∉ tw2.map (·.1) := enc_none (by rw [← hm2]; simpa using ht107)
      refine wc_seq ?_
      refine wc_region ?_
      refine wl_mv M rfl rfl ?_
      refine wl_m M (q_ldbA 0 Tryz.underlying159 rfl sz159 rfl rfl rfl rfl) rfl rfl ?_
      refine wl_mv M rfl rfl ?_
      refine wl_e0 (e_mpu (k := (aftP (Pos.mk (p : Int) (i : Int)) x2)) (v := ((aget m_32_0 (Pos.mk p i)).getD ⟨#[]⟩) ++ (Utf8.encode x2.out)) 4 M rfl Tryz.underlying160 rfl rfl rfl) rfl ?_
      intro _ w40 M
      try simp only [sC0, sCS] at M
      refine wl_nil ?_
      refine wc_region ?_
      refine wl_mv M rfl rfl ?_
      refine wl_m M (q_ldbA 0 Tryz.underlying159 rfl sz159 rfl rfl rfl rfl) rfl rfl ?_
      refine wl_e (e_bsI (E := EPos) (xs := [(aftP (Pos.mk (p : Int) (i : Int)) x2)]) M (bs_161_1 _ _) ⟨⟨rfl, rfl⟩, trivial⟩ rfl rfl (by decide)) rfl rfl ?_
      rintro _ w41 ⟨u113, J113, rfl, hJ113, R113, M⟩
      have hoJ113 := M.old
      refine wl_e (e_app 3 M rfl R113 Tryz.underlying161 rfl rfl (by have := hW2.len; show (_ + 1) * 16 ≤ _; omega)) rfl rfl ?_
      rintro _ w42 ⟨u114, rfl, M⟩
      replace M := M.less hJ113 hoJ72
      try simp only [sC0, sCS] at M
      refine wl_as M rfl rfl ?_
      refine wl_nil ?_
      refine wc_region ?_
      refine wl_m M (q_add rfl rfl (IntWalk.i64_in _ (by omega))) rfl rfl ?_
      refine wl_mv M rfl rfl ?_
      refine wl_nil ?_
      replace M := M.drop 0
      replace M := M.drop 0
      refine ⟨(k2 + 1, tw2 ++ [((aftP (Pos.mk (p : Int) (i : Int)) x2), (wc ++ lab x2.out))], u114, l_36_2 ++ [(aftP (Pos.mk (p : Int) (i : Int)) x2)], aput m_32_2 (aftP (Pos.mk (p : Int) (i : Int)) x2) (((aget m_32_0 (Pos.mk p i)).getD ⟨#[]⟩) ++ (Utf8.encode x2.out))), ?_, ⟨(by omega), (wr_add ht hW2 hwc2 (List.mem_of_getElem? hx2) hgd hnew), (by rw [hm2, ht9, enc_put hnew]), (by rw [List.map_append, hk2]; simp), (fun y_ hy_ hG_ => by rw [take_snoc hx2] at hy_; rcases List.mem_append.1 hy_ with h_ | h_; exact List.mem_append.2 (.inl (hx2c y_ h_ hG_)); rw [List.mem_singleton.1 h_]; simp), (fun e_ h_ => List.mem_append.2 (.inl (hsub e_ h_))), (fun e_ h_ => by rw [List.length_append, List.length_singleton]; rcases List.mem_append.1 h_ with h_ | h_; have := hb2 e_ h_; omega; rw [List.mem_singleton.1 h_]; show (wc ++ lab x2.out).length ≤ _; rw [List.length_append]; have h1 := hb2 _ hwc2; have h2 := lab_le x2.out; simp only [] at h1; omega), M⟩, ⟨rfl, rfl, trivial⟩, unw_look rfl (unw_hav rfl (unw_look rfl unw_base))⟩
      show (posE t l (Pos.mk (p : Int) (i : Int))).length - (k2 + 1) < (posE t l (Pos.mk (p : Int) (i : Int))).length - k2
      omega
     obtain ⟨v5, hv5, e5⟩ := enc_some (tw := tw2) (k := (aftP (Pos.mk (p : Int) (i : Int)) x2)) (by rw [← hm2]; simpa using ht107)
     have hold : ((aftP (Pos.mk (p : Int) (i : Int)) x2), (wc ++ lab x2.out)) ∈ tw2 := by
       have h1 := (aget_mem hW2.nd).1 hv5
       have h2 : v5 = (wc ++ lab x2.out) := by
         refine strL_inj (hW2.vr hlb h1) (vr_app (hW2.vr hlb hwc2) (lab_vr (hlb x2 (mem_posE.1 (List.mem_of_getElem? hx2)).1).2)) ?_
         have h3 : (aget m_32_2 (aftP (Pos.mk (p : Int) (i : Int)) x2)).isSome = true := by simpa using ht107
         rw [h3, ht9, hm2, e5] at ht105
         simpa using ht105
       rw [← h2]; exact h1
     refine wc_skip ?_
     refine wc_region ?_
     refine wl_m M (q_add rfl rfl (IntWalk.i64_in _ (by omega))) rfl rfl ?_
     refine wl_mv M rfl rfl ?_
     refine wl_nil ?_
     replace M := M.drop 0
     replace M := M.drop 0
     refine ⟨(k2 + 1, tw2, u_36_2, l_36_2, m_32_2), ?_, ⟨(by omega), hW2, hm2, hk2, (fun y_ hy_ hG_ => by rw [take_snoc hx2] at hy_; rcases List.mem_append.1 hy_ with h_ | h_; exact hx2c y_ h_ hG_; rw [List.mem_singleton.1 h_]; exact hold), hsub, hb2, M⟩, ⟨rfl, rfl, trivial⟩, unw_look rfl (unw_hav rfl (unw_look rfl unw_base))⟩
     show (posE t l (Pos.mk (p : Int) (i : Int))).length - (k2 + 1) < (posE t l (Pos.mk (p : Int) (i : Int))).length - k2
     omega
    have ho2 : x2.out = 0 := by simpa using ht88
    have ht9 : ((aget m_32_0 (Pos.mk (p : Int) (i : Int))).getD ⟨#[]⟩) = strL (wc ++ lab x2.out) := by rw [hs9, ho2, lab_zero, List.append_nil]
    refine wc_skip ?_
    refine wc_seq ?_
    refine wc_region ?_
    refine wl_mv M rfl rfl ?_
    refine wl_m M (q_ldbA 0 Tryz.underlying159 rfl sz159 rfl rfl rfl rfl) rfl rfl ?_
    refine wl_m M (q_lk2 (k := (aftP (Pos.mk (p : Int) (i : Int)) x2)) (z := ⟨#[]⟩) 4 rfl Tryz.underlying160 zv9 rfl rfl) rfl rfl ?_
    refine wl_mv M rfl rfl ?_
    refine wl_m M (q_ext rfl rfl) rfl rfl ?_
    refine wl_m M (q_ext rfl rfl) rfl rfl ?_
    refine wl_as M rfl rfl ?_
    refine wl_as M rfl rfl ?_
    refine wl_nil ?_
    refine wc_seq ?_
    refine wc_seq ?_
    refine wc_join (α := Unit) [100, 101, 102, 103, 104, 105] (fun _ => [(105, .bool (((aget m_32_2 (aftP (Pos.mk (p : Int) (i : Int)) x2)).isSome) && (!decide (((aget m_32_2 (aftP (Pos.mk (p : Int) (i : Int)) x2)).getD ⟨#[]⟩) = ((aget m_32_0 (Pos.mk p i)).getD ⟨#[]⟩)))))]) (fun _ w' => Mem w I J72 (box b15 159 [.int .i64 ((aftP (Pos.mk (p : Int) (i : Int)) x2).state), .int .i64 ((aftP (Pos.mk (p : Int) (i : Int)) x2).read)] :: box b14 51 [.int .i64 x2.src, .int .i64 x2.dst, .int .i32 x2.inp, .int .i32 x2.out] :: box b11 159 [.int .i64 (p : Int), .int .i64 (i : Int)] :: row EPos (sv u_36_2) l_36_2 :: mpr QPos Value.string b32 m_32_2 :: box b7 159 [.int .i64 t.start, .int .i64 0] :: box b2 25 [.int .i64 t.states, .int .i64 t.start, sv fu1, sv au1] :: []) w') ?_ ?_
    ·refine wc_region ?_
     refine wl_mv M rfl rfl ?_
     refine wl_mv M rfl rfl ?_
     rcases Bool.eq_false_or_eq_true ((aget m_32_2 (aftP (Pos.mk (p : Int) (i : Int)) x2)).isSome) with hg101 | hg101
     ·refine wl_m M (q_guard 1 rfl rfl rfl hg101 (q_move rfl)) rfl rfl ?_
      refine wl_m M (q_guard 1 rfl rfl rfl hg101 (q_move rfl)) rfl rfl ?_
      refine wl_m M (q_guard 1 rfl rfl rfl hg101 (q_neqS rfl rfl)) rfl rfl ?_
      refine wl_m M (q_pickT rfl hg101 rfl) rfl rfl ?_
      refine wl_nil ?_
      exact ⟨(), M, ⟨(show some (Value.bool (!decide (((aget m_32_2 (aftP (Pos.mk (p : Int) (i : Int)) x2)).getD ⟨#[]⟩) = ((aget m_32_0 (Pos.mk p i)).getD ⟨#[]⟩)))) = some (Value.bool (((aget m_32_2 (aftP (Pos.mk (p : Int) (i : Int)) x2)).isSome) && (!decide (((aget m_32_2 (aftP (Pos.mk (p : Int) (i : Int)) x2)).getD ⟨#[]⟩) = ((aget m_32_0 (Pos.mk p i)).getD ⟨#[]⟩))))) from by first | (simp only [hg101, Bool.true_or, Bool.false_or, Bool.true_and, Bool.false_and, Bool.or_true, Bool.or_false, Bool.and_true, Bool.and_false]; done) | (simp_all; done) | (simp_all; omega)), trivial⟩, unw_take 6 rfl rfl⟩
     refine wl_m M (q_off 1 rfl rfl rfl hg101) rfl rfl ?_
     refine wl_m M (q_off 1 rfl rfl rfl hg101) rfl rfl ?_
     refine wl_m M (q_off 1 rfl rfl rfl hg101) rfl rfl ?_
     refine wl_m M (q_pickF rfl hg101 rfl) rfl rfl ?_
     refine wl_nil ?_
     exact ⟨(), M, ⟨(show some (Value.bool false) = some (Value.bool (((aget m_32_2 (aftP (Pos.mk (p : Int) (i : Int)) x2)).isSome) && (!decide (((aget m_32_2 (aftP (Pos.mk (p : Int) (i : Int)) x2)).getD ⟨#[]⟩) = ((aget m_32_0 (Pos.mk p i)).getD ⟨#[]⟩))))) from by first | (simp only [hg101, Bool.true_or, Bool.false_or, Bool.true_and, Bool.false_and, Bool.or_true, Bool.or_false, Bool.and_true, Bool.and_false]; done) | (simp_all; done) | (simp_all; omega)), trivial⟩, unw_take 6 rfl rfl⟩
    rintro _ jr26 w43 M
    refine wc_cond rfl (fun ht105 => ?_) (fun ht105 => ?_)
    ·rw [Bool.and_eq_true] at ht105
     obtain ⟨v5, hv5, e5⟩ := enc_some (by rw [← hm2]; exact ht105.1)
     refine wc_seq ?_
     refine wc_region ?_
     refine wl_as M rfl rfl ?_
     refine wl_nil ?_
     refine wc_ret ?_
     exact out1 rfl rfl ⟨_, _, rfl, M.grow, by rw [sglB_false (wr_two ht hG hW2 hwc2 (List.mem_of_getElem? hx2) hgd ((aget_mem hW2.nd).1 hv5) (fun e_ => by have h2 := ht105.2; rw [ht9, hm2, e5, e_] at h2; simp at h2))]⟩
    refine wc_skip ?_
    refine wc_seq ?_
    refine wc_region ?_
    refine wl_mv M rfl rfl ?_
    refine wl_m M (q_not rfl) rfl rfl ?_
    refine wl_nil ?_
    refine wc_cond rfl (fun ht107 => ?_) (fun ht107 => ?_)
    ·have hnew : (aftP (Pos.mk (p : Int) (i : Int)) x2) ∉ tw2.map (·.1) := enc_none (by rw [← hm2]; simpa using ht107)
     refine wc_seq ?_
     refine wc_region ?_
     refine wl_mv M rfl rfl ?_
     refine wl_m M (q_ldbA 0 Tryz.underlying159 rfl sz159 rfl rfl rfl rfl) rfl rfl ?_
     refine wl_mv M rfl rfl ?_
     refine wl_e0 (e_mpu (k := (aftP (Pos.mk (p : Int) (i : Int)) x2)) (v := (aget m_32_0 (Pos.mk p i)).getD ⟨#[]⟩) 4 M rfl Tryz.underlying160 rfl rfl rfl) rfl ?_
     intro _ w44 M
     try simp only [sC0, sCS] at M
     refine wl_nil ?_
     refine wc_region ?_
     refine wl_mv M rfl rfl ?_
     refine wl_m M (q_ldbA 0 Tryz.underlying159 rfl sz159 rfl rfl rfl rfl) rfl rfl ?_
     refine wl_e (e_bsI (E := EPos) (xs := [(aftP (Pos.mk (p : Int) (i : Int)) x2)]) M (bs_161_1 _ _) ⟨⟨rfl, rfl⟩, trivial⟩ rfl rfl (by decide)) rfl rfl ?_
     rintro _ w45 ⟨u113, J113, rfl, hJ113, R113, M⟩
     have hoJ113 := M.old
     refine wl_e (e_app 3 M rfl R113 Tryz.underlying161 rfl rfl (by have := hW2.len; show (_ + 1) * 16 ≤ _; omega)) rfl rfl ?_
     rintro _ w46 ⟨u114, rfl, M⟩
     replace M := M.less hJ113 hoJ72
     try simp only [sC0, sCS] at M
     refine wl_as M rfl rfl ?_
     refine wl_nil ?_
     refine wc_region ?_
     refine wl_m M (q_add rfl rfl (IntWalk.i64_in _ (by omega))) rfl rfl ?_
     refine wl_mv M rfl rfl ?_
     refine wl_nil ?_
     replace M := M.drop 0
     replace M := M.drop 0
     refine ⟨(k2 + 1, tw2 ++ [((aftP (Pos.mk (p : Int) (i : Int)) x2), (wc ++ lab x2.out))], u114, l_36_2 ++ [(aftP (Pos.mk (p : Int) (i : Int)) x2)], aput m_32_2 (aftP (Pos.mk (p : Int) (i : Int)) x2) ((aget m_32_0 (Pos.mk p i)).getD ⟨#[]⟩)), ?_, ⟨(by omega), (wr_add ht hW2 hwc2 (List.mem_of_getElem? hx2) hgd hnew), (by rw [hm2, ht9, enc_put hnew]), (by rw [List.map_append, hk2]; simp), (fun y_ hy_ hG_ => by rw [take_snoc hx2] at hy_; rcases List.mem_append.1 hy_ with h_ | h_; exact List.mem_append.2 (.inl (hx2c y_ h_ hG_)); rw [List.mem_singleton.1 h_]; simp), (fun e_ h_ => List.mem_append.2 (.inl (hsub e_ h_))), (fun e_ h_ => by rw [List.length_append, List.length_singleton]; rcases List.mem_append.1 h_ with h_ | h_; have := hb2 e_ h_; omega; rw [List.mem_singleton.1 h_]; show (wc ++ lab x2.out).length ≤ _; rw [List.length_append]; have h1 := hb2 _ hwc2; have h2 := lab_le x2.out; simp only [] at h1; omega), M⟩, ⟨rfl, rfl, trivial⟩, unw_look rfl (unw_hav rfl (unw_look rfl unw_base))⟩
     show (posE t l (Pos.mk (p : Int) (i : Int))).length - (k2 + 1) < (posE t l (Pos.mk (p : Int) (i : Int))).length - k2
     omega
    obtain ⟨v5, hv5, e5⟩ := enc_some (tw := tw2) (k := (aftP (Pos.mk (p : Int) (i : Int)) x2)) (by rw [← hm2]; simpa using ht107)
    have hold : ((aftP (Pos.mk (p : Int) (i : Int)) x2), (wc ++ lab x2.out)) ∈ tw2 := by
      have h1 := (aget_mem hW2.nd).1 hv5
      have h2 : v5 = (wc ++ lab x2.out) := by
        refine strL_inj (hW2.vr hlb h1) (vr_app (hW2.vr hlb hwc2) (lab_vr (hlb x2 (mem_posE.1 (List.mem_of_getElem? hx2)).1).2)) ?_
        have h3 : (aget m_32_2 (aftP (Pos.mk (p : Int) (i : Int)) x2)).isSome = true := by simpa using ht107
        rw [h3, ht9, hm2, e5] at ht105
        simpa using ht105
      rw [← h2]; exact h1
    refine wc_skip ?_
    refine wc_region ?_
    refine wl_m M (q_add rfl rfl (IntWalk.i64_in _ (by omega))) rfl rfl ?_
    refine wl_mv M rfl rfl ?_
    refine wl_nil ?_
    replace M := M.drop 0
    replace M := M.drop 0
    refine ⟨(k2 + 1, tw2, u_36_2, l_36_2, m_32_2), ?_, ⟨(by omega), hW2, hm2, hk2, (fun y_ hy_ hG_ => by rw [take_snoc hx2] at hy_; rcases List.mem_append.1 hy_ with h_ | h_; exact hx2c y_ h_ hG_; rw [List.mem_singleton.1 h_]; exact hold), hsub, hb2, M⟩, ⟨rfl, rfl, trivial⟩, unw_look rfl (unw_hav rfl (unw_look rfl unw_base))⟩
    show (posE t l (Pos.mk (p : Int) (i : Int))).length - (k2 + 1) < (posE t l (Pos.mk (p : Int) (i : Int))).length - k2
    omega
   have hke2 : k2 = (posE t l (Pos.mk (p : Int) (i : Int))).length := by omega
   rw [hke2, List.take_length] at hx2c
   have hvs2 : ∀ p ∈ vs, p ∈ tw.map (·.1) := fun p hp => by rw [hk]; exact List.mem_append.2 (.inl hp)
   refine wc_exit rfl ?_
   replace M := M.drop 0
   refine ⟨(J72, vs ++ [(Pos.mk (p : Int) (i : Int))], tw2, some (b12, wc), u_36_2, l_36_2, m_32_2), ?_, ⟨(hle.trans (hle.trans hIc hI12) hJ72), hW2, hm2, (by rw [hk2]; simp), (wrC_next hc hW2 hsub hvs2 hwc2 hx2c), hb2, (hsub _ h0), (res_end hW2 hvs2 hsub hwc2 (hJ72 _ _ hbx) hed hold9), M⟩, ⟨rfl, rfl, trivial⟩, unw_look rfl (unw_hav rfl (unw_look rfl (unw_hav rfl (unw_look rfl unw_base))))⟩
   show G.length - (vs ++ [(Pos.mk (p : Int) (i : Int))]).length < G.length - vs.length
   have h1 := hW2.len
   have h2 := congrArg List.length hk2
   simp only [List.length_map, List.length_append, List.length_cons, List.length_nil] at h2 ⊢
   omega
  have hned : endB t l (Pos.mk (p : Int) (i : Int)) = false := by rw [← ht59]; rfl
  refine wc_skip ?_
  refine wc_seq ?_
  refine wc_region ?_
  refine wl_mv M rfl rfl ?_
  refine wl_mv M rfl rfl ?_
  refine wl_m M (q_ldbA 1 Tryz.underlying159 rfl sz159 rfl rfl rfl rfl) rfl rfl ?_
  refine wl_e (e_callC M (movesP_c hp1 ht.alen (by omega) M.imm ((R20.mono hJ24).mono hIc) (((Rl.mono hJ20).mono hJ24).mono hIc)) Tryz.func83 rfl rfl) rfl rfl ?_
  rintro v72 w47 ⟨J72, hJ72, R72, M⟩
  obtain ⟨u72, rfl⟩ := rdSl_slice R72
  have hoJ72 := M.old
  replace R72 : rdSl EArc J72 (sv u72) ((posE t l (Pos.mk (p : Int) (i : Int)))) := R72
  refine wl_m M (q_lenR R72 Tryz.underlying23 rfl) rfl rfl ?_
  refine wl_mv M rfl rfl ?_
  refine wl_nil ?_
  refine wc_block ?_
  refine wc_loop (α := Nat × WM × SV × (List Pos) × (List (Pos × ByteArray))) [4, 9, 14, 15, 16, 17, 18, 74, 75, 76, 77, 78, 79, 80, 81, 82, 83, 84, 85, 86, 87, 88, 89, 90, 91, 92, 93, 94, 95, 96, 97, 98, 99, 100, 101, 102, 103, 104, 105, 106, 107, 108, 109, 110, 111, 112, 113, 114, 115] (fun ((k2, tw2, u_36_2, l_36_2, m_32_2) : Nat × WM × SV × (List Pos) × (List (Pos × ByteArray))) => [(74, .int .i64 (k2 : Int)), (9, sv u_36_2)])
    (fun ((k2, tw2, u_36_2, l_36_2, m_32_2) : Nat × WM × SV × (List Pos) × (List (Pos × ByteArray))) w' => (k2 ≤ (posE t l (Pos.mk (p : Int) (i : Int))).length) ∧ (Wr t l G tw2) ∧ (m_32_2 = encT tw2) ∧ (tw2.map (·.1) = vs ++ (Pos.mk (p : Int) (i : Int)) :: l_36_2) ∧ (∀ y ∈ (posE t l (Pos.mk (p : Int) (i : Int))).take k2, aftP (Pos.mk (p : Int) (i : Int)) y ∈ G → (aftP (Pos.mk (p : Int) (i : Int)) y, wc ++ lab y.out) ∈ tw2) ∧ (∀ e ∈ tw, e ∈ tw2) ∧ (∀ e ∈ tw2, e.2.length ≤ tw2.length) ∧ Mem w I J72 (box b12 9 [.string ((aget m_32_0 (Pos.mk p i)).getD ⟨#[]⟩)] :: box b11 159 [.int .i64 (p : Int), .int .i64 (i : Int)] :: row EPos (sv u_36_2) l_36_2 :: mpr QPos Value.string b32 m_32_2 :: box b7 159 [.int .i64 t.start, .int .i64 0] :: box b2 25 [.int .i64 t.states, .int .i64 t.start, sv fu1, sv au1] :: []) w')
    (fun ((k2, tw2, u_36_2, l_36_2, m_32_2) : Nat × WM × SV × (List Pos) × (List (Pos × ByteArray))) => (posE t l (Pos.mk (p : Int) (i : Int))).length - k2) (0, tw, u44, l_36_0.drop 1, m_32_0) ⟨rfl, rfl, trivial⟩ ?_ ?_
  ·refine ⟨Nat.zero_le _, hW, hm, (by rw [hk, hq]; rfl), (by simp), (fun _ h_ => h_), hb, ?_⟩
   exact M
  rintro ⟨k2, tw2, u_36_2, l_36_2, m_32_2⟩ jj2 w48 ⟨hk2, hW2, hm2, hk2, hx2c, hsub, hb2, M⟩
  have hoJ72 := M.old
  have hwc2 := hsub _ hwc
  have hqn2 := congrArg List.length hk2
  simp only [List.length_map, List.length_append, List.length_cons] at hqn2
  refine wc_seq ?_
  refine wc_region ?_
  refine wl_m M (q_lss rfl rfl) rfl rfl ?_
  refine wl_nil ?_
  refine wc_seq ?_
  refine wc_dec rfl (fun ht75 => ?_) (fun ht75 => ?_)
  ·obtain ⟨x2, hx2⟩ : ∃ x_, (posE t l (Pos.mk (p : Int) (i : Int)))[k2]? = some x_ := ⟨_, List.getElem?_eq_getElem (by omega)⟩
   have hll2 := (R72).len_le
   have hl2e := hW2.len
   refine wc_skip ?_
   refine wc_seq ?_
   refine wc_block ?_
   refine wc_seq ?_
   refine wc_region ?_
   refine wl_ix (j := k2) M R72 Tryz.underlying23 rfl rfl hx2 rfl (fun b76 o76 p76 => ?_)
   refine wl_m M (q_ldp p76 rfl rfl) rfl rfl ?_
   refine wl_e (e_alloc M z51) rfl rfl ?_
   rintro _ w49 ⟨b14, rfl, M⟩
   refine wl_e0 (e_stW 0 M rfl rfl rfl sz51 rfl rfl) rfl ?_
   intro _ w50 M
   try simp only [sC0, sCS] at M
   refine wl_nil ?_
   refine wc_seq ?_
   refine wc_region ?_
   refine wl_m M (q_ldbA 2 Tryz.underlying159 rfl sz159 rfl rfl rfl rfl) rfl rfl ?_
   refine wl_m M (q_ldbA 0 Tryz.underlying51 rfl sz51 rfl rfl rfl rfl) rfl rfl ?_
   refine wl_e (e_callC M (afterP_c (Pos.mk (p : Int) (i : Int)) x2 (by simp only []; omega) M.imm) Tryz.func84 rfl rfl) rfl rfl ?_
   rintro _ w51 ⟨J80, hJ80, rfl, M⟩
   replace M := M.less hJ80 hoJ72
   refine wl_e (e_alloc M z159) rfl rfl ?_
   rintro _ w52 ⟨b15, rfl, M⟩
   refine wl_e0 (e_stW 0 M rfl rfl rfl sz159 rfl rfl) rfl ?_
   intro _ w53 M
   try simp only [sC0, sCS] at M
   refine wl_nil ?_
   refine wc_seq ?_
   refine wc_seq ?_
   refine wc_region ?_
   refine wl_mv M rfl rfl ?_
   refine wl_m M (q_ldbA 0 Tryz.underlying159 rfl sz159 rfl rfl rfl rfl) rfl rfl ?_
   refine wl_m M (q_lkI (k := (aftP (Pos.mk (p : Int) (i : Int)) x2)) (z := false) ((R24.mono hIc).mono hJ72) Tryz.underlying156 zv4 rfl rfl) rfl rfl ?_
   refine wl_m M (q_not rfl) rfl rfl ?_
   refine wl_nil ?_
   refine wc_cond rfl (fun ht84 => ?_) (fun ht84 => ?_)
   ·have hng : (aftP (Pos.mk (p : Int) (i : Int)) x2) ∉ G := by rw [aget_tr] at ht84; exact nd_t ht84
    refine wc_exit rfl ?_
    refine wc_region ?_
    refine wl_m M (q_add rfl rfl (IntWalk.i64_in _ (by omega))) rfl rfl ?_
    refine wl_mv M rfl rfl ?_
    refine wl_nil ?_
    replace M := M.drop 0
    replace M := M.drop 0
    refine ⟨(k2 + 1, tw2, u_36_2, l_36_2, m_32_2), ?_, ⟨(by omega), hW2, hm2, hk2, (fun y_ hy_ hG_ => by rw [take_snoc hx2] at hy_; rcases List.mem_append.1 hy_ with h_ | h_; exact hx2c y_ h_ hG_; rw [List.mem_singleton.1 h_] at hG_; exact absurd hG_ hng), hsub, hb2, M⟩, ⟨rfl, rfl, trivial⟩, unw_look rfl unw_base⟩
    show (posE t l (Pos.mk (p : Int) (i : Int))).length - (k2 + 1) < (posE t l (Pos.mk (p : Int) (i : Int))).length - k2
    omega
   have hgd : (aftP (Pos.mk (p : Int) (i : Int)) x2) ∈ G := by rw [aget_tr] at ht84; exact nd_f ht84
   refine wc_skip ?_
   refine wc_seq ?_
   refine wc_region ?_
   refine wl_m M (q_ldb 2 Tryz.underlying9 rfl rfl rfl rfl) rfl rfl ?_
   refine wl_as M rfl rfl ?_
   refine wl_nil ?_
   refine wc_seq ?_
   refine wc_seq ?_
   refine wc_region ?_
   refine wl_m M (q_fa fo_51_3 rfl) rfl rfl ?_
   refine wl_m M (q_ldb 1 Tryz.underlying21 rfl rfl rfl rfl) rfl rfl ?_
   refine wl_m M (q_neq rfl rfl) rfl rfl ?_
   refine wl_nil ?_
   refine wc_cond rfl (fun ht88 => ?_) (fun ht88 => ?_)
   ·have ho2 : ¬ x2.out = 0 := by simpa using ht88
    have ht9 : ((aget m_32_0 (Pos.mk (p : Int) (i : Int))).getD ⟨#[]⟩) ++ Utf8.encode x2.out = strL (wc ++ lab x2.out) := by rw [hs9, lab_ne ho2, strL_snoc]
    refine wc_region ?_
    refine wl_mv M rfl rfl ?_
    refine wl_m M (q_fa fo_51_3 rfl) rfl rfl ?_
    refine wl_m M (q_ldb 1 Tryz.underlying21 rfl rfl rfl rfl) rfl rfl ?_
    refine wl_m M (q_cvI (by rw [Tryz.underlying21]; rfl) Tryz.underlying9 rfl) rfl rfl ?_
    refine wl_m M (q_addS rfl rfl (by rw [hs9]; have h1 := strL_size wc; have h2 := enc_szP x2.out; omega)) rfl rfl ?_
    refine wl_as M rfl rfl ?_
    refine wl_nil ?_
    refine wc_seq ?_
    refine wc_region ?_
    refine wl_mv M rfl rfl ?_
    refine wl_m M (q_ldbA 0 Tryz.underlying159 rfl sz159 rfl rfl rfl rfl) rfl rfl ?_
    refine wl_m M (q_lk2 (k := (aftP (Pos.mk (p : Int) (i : Int)) x2)) (z := ⟨#[]⟩) 5 rfl Tryz.underlying160 zv9 rfl rfl) rfl rfl ?_
    refine wl_mv M rfl rfl ?_
    refine wl_m M (q_ext rfl rfl) rfl rfl ?_
    refine wl_m M (q_ext rfl rfl) rfl rfl ?_
    refine wl_as M rfl rfl ?_
    refine wl_as M rfl rfl ?_
    refine wl_nil ?_
    refine wc_seq ?_
    refine wc_seq ?_
    refine wc_join (α := Unit) [100, 101, 102, 103, 104, 105] (fun _ => [(105, .bool (((aget m_32_2 (aftP (Pos.mk (p : Int) (i : Int)) x2)).isSome) && (!decide (((aget m_32_2 (aftP (Pos.mk (p : Int) (i : Int)) x2)).getD ⟨#[]⟩) = (((aget m_32_0 (Pos.mk p i)).getD ⟨#[]⟩) ++ (Utf8.encode x2.out))))))]) (fun _ w' => Mem w I J72 (box b15 159 [.int .i64 ((aftP (Pos.mk (p : Int) (i : Int)) x2).state), .int .i64 ((aftP (Pos.mk (p : Int) (i : Int)) x2).read)] :: box b14 51 [.int .i64 x2.src, .int .i64 x2.dst, .int .i32 x2.inp, .int .i32 x2.out] :: box b12 9 [.string ((aget m_32_0 (Pos.mk p i)).getD ⟨#[]⟩)] :: box b11 159 [.int .i64 (p : Int), .int .i64 (i : Int)] :: row EPos (sv u_36_2) l_36_2 :: mpr QPos Value.string b32 m_32_2 :: box b7 159 [.int .i64 t.start, .int .i64 0] :: box b2 25 [.int .i64 t.states, .int .i64 t.start, sv fu1, sv au1] :: []) w') ?_ ?_
    ·refine wc_region ?_
     refine wl_mv M rfl rfl ?_
     refine wl_mv M rfl rfl ?_
     rcases Bool.eq_false_or_eq_true ((aget m_32_2 (aftP (Pos.mk (p : Int) (i : Int)) x2)).isSome) with hg101 | hg101
     ·refine wl_m M (q_guard 1 rfl rfl rfl hg101 (q_move rfl)) rfl rfl ?_
      refine wl_m M (q_guard 1 rfl rfl rfl hg101 (q_move rfl)) rfl rfl ?_
      refine wl_m M (q_guard 1 rfl rfl rfl hg101 (q_neqS rfl rfl)) rfl rfl ?_
      refine wl_m M (q_pickT rfl hg101 rfl) rfl rfl ?_
      refine wl_nil ?_
      exact ⟨(), M, ⟨(show some (Value.bool (!decide (((aget m_32_2 (aftP (Pos.mk (p : Int) (i : Int)) x2)).getD ⟨#[]⟩) = (((aget m_32_0 (Pos.mk p i)).getD ⟨#[]⟩) ++ (Utf8.encode x2.out))))) = some (Value.bool (((aget m_32_2 (aftP (Pos.mk (p : Int) (i : Int)) x2)).isSome) && (!decide (((aget m_32_2 (aftP (Pos.mk (p : Int) (i : Int)) x2)).getD ⟨#[]⟩) = (((aget m_32_0 (Pos.mk p i)).getD ⟨#[]⟩) ++ (Utf8.encode x2.out)))))) from by first | (simp only [hg101, Bool.true_or, Bool.false_or, Bool.true_and, Bool.false_and, Bool.or_true, Bool.or_false, Bool.and_true, Bool.and_false]; done) | (simp_all; done) | (simp_all; omega)), trivial⟩, unw_take 6 rfl rfl⟩
     refine wl_m M (q_off 1 rfl rfl rfl hg101) rfl rfl ?_
     refine wl_m M (q_off 1 rfl rfl rfl hg101) rfl rfl ?_
     refine wl_m M (q_off 1 rfl rfl rfl hg101) rfl rfl ?_
     refine wl_m M (q_pickF rfl hg101 rfl) rfl rfl ?_
     refine wl_nil ?_
     exact ⟨(), M, ⟨(show some (Value.bool false) = some (Value.bool (((aget m_32_2 (aftP (Pos.mk (p : Int) (i : Int)) x2)).isSome) && (!decide (((aget m_32_2 (aftP (Pos.mk (p : Int) (i : Int)) x2)).getD ⟨#[]⟩) = (((aget m_32_0 (Pos.mk p i)).getD ⟨#[]⟩) ++ (Utf8.encode x2.out)))))) from by first | (simp only [hg101, Bool.true_or, Bool.false_or, Bool.true_and, Bool.false_and, Bool.or_true, Bool.or_false, Bool.and_true, Bool.and_false]; done) | (simp_all; done) | (simp_all; omega)), trivial⟩, unw_take 6 rfl rfl⟩
    rintro _ jr26 w54 M
    refine wc_cond rfl (fun ht105 => ?_) (fun ht105 => ?_)
    ·rw [Bool.and_eq_true] at ht105
     obtain ⟨v5, hv5, e5⟩ := enc_some (by rw [← hm2]; exact ht105.1)
     refine wc_seq ?_
     refine wc_region ?_
     refine wl_as M rfl rfl ?_
     refine wl_nil ?_
     refine wc_ret ?_
     exact out1 rfl rfl ⟨_, _, rfl, M.grow, by rw [sglB_false (wr_two ht hG hW2 hwc2 (List.mem_of_getElem? hx2) hgd ((aget_mem hW2.nd).1 hv5) (fun e_ => by have h2 := ht105.2; rw [ht9, hm2, e5, e_] at h2; simp at h2))]⟩
    refine wc_skip ?_
    refine wc_seq ?_
    refine wc_region ?_
    refine wl_mv M rfl rfl ?_
    refine wl_m M (q_not rfl) rfl rfl ?_
    refine wl_nil ?_
    refine wc_cond rfl (fun ht107 => ?_) (fun ht107 => ?_)
    ·have hnew : (aftP (Pos.mk (p : Int) (i : Int)) x2) ∉ tw2.map (·.1) := enc_none (by rw [← hm2]; simpa using ht107)
     refine wc_seq ?_
     refine wc_region ?_
     refine wl_mv M rfl rfl ?_
     refine wl_m M (q_ldbA 0 Tryz.underlying159 rfl sz159 rfl rfl rfl rfl) rfl rfl ?_
     refine wl_mv M rfl rfl ?_
     refine wl_e0 (e_mpu (k := (aftP (Pos.mk (p : Int) (i : Int)) x2)) (v := ((aget m_32_0 (Pos.mk p i)).getD ⟨#[]⟩) ++ (Utf8.encode x2.out)) 5 M rfl Tryz.underlying160 rfl rfl rfl) rfl ?_
     intro _ w55 M
     try simp only [sC0, sCS] at M
     refine wl_nil ?_
     refine wc_region ?_
     refine wl_mv M rfl rfl ?_
     refine wl_m M (q_ldbA 0 Tryz.underlying159 rfl sz159 rfl rfl rfl rfl) rfl rfl ?_
     refine wl_e (e_bsI (E := EPos) (xs := [(aftP (Pos.mk (p : Int) (i : Int)) x2)]) M (bs_161_1 _ _) ⟨⟨rfl, rfl⟩, trivial⟩ rfl rfl (by decide)) rfl rfl ?_
     rintro _ w56 ⟨u113, J113, rfl, hJ113, R113, M⟩
     have hoJ113 := M.old
     refine wl_e (e_app 4 M rfl R113 Tryz.underlying161 rfl rfl (by have := hW2.len; show (_ + 1) * 16 ≤ _; omega)) rfl rfl ?_
     rintro _ w57 ⟨u114, rfl, M⟩
     replace M := M.less hJ113 hoJ72
     try simp only [sC0, sCS] at M
     refine wl_as M rfl rfl ?_
     refine wl_nil ?_
     refine wc_region ?_
     refine wl_m M (q_add rfl rfl (IntWalk.i64_in _ (by omega))) rfl rfl ?_
     refine wl_mv M rfl rfl ?_
     refine wl_nil ?_
     replace M := M.drop 0
     replace M := M.drop 0
     refine ⟨(k2 + 1, tw2 ++ [((aftP (Pos.mk (p : Int) (i : Int)) x2), (wc ++ lab x2.out))], u114, l_36_2 ++ [(aftP (Pos.mk (p : Int) (i : Int)) x2)], aput m_32_2 (aftP (Pos.mk (p : Int) (i : Int)) x2) (((aget m_32_0 (Pos.mk p i)).getD ⟨#[]⟩) ++ (Utf8.encode x2.out))), ?_, ⟨(by omega), (wr_add ht hW2 hwc2 (List.mem_of_getElem? hx2) hgd hnew), (by rw [hm2, ht9, enc_put hnew]), (by rw [List.map_append, hk2]; simp), (fun y_ hy_ hG_ => by rw [take_snoc hx2] at hy_; rcases List.mem_append.1 hy_ with h_ | h_; exact List.mem_append.2 (.inl (hx2c y_ h_ hG_)); rw [List.mem_singleton.1 h_]; simp), (fun e_ h_ => List.mem_append.2 (.inl (hsub e_ h_))), (fun e_ h_ => by rw [List.length_append, List.length_singleton]; rcases List.mem_append.1 h_ with h_ | h_; have := hb2 e_ h_; omega; rw [List.mem_singleton.1 h_]; show (wc ++ lab x2.out).length ≤ _; rw [List.length_append]; have h1 := hb2 _ hwc2; have h2 := lab_le x2.out; simp only [] at h1; omega), M⟩, ⟨rfl, rfl, trivial⟩, unw_look rfl (unw_hav rfl (unw_look rfl unw_base))⟩
     show (posE t l (Pos.mk (p : Int) (i : Int))).length - (k2 + 1) < (posE t l (Pos.mk (p : Int) (i : Int))).length - k2
     omega
    obtain ⟨v5, hv5, e5⟩ := enc_some (tw := tw2) (k := (aftP (Pos.mk (p : Int) (i : Int)) x2)) (by rw [← hm2]; simpa using ht107)
    have hold : ((aftP (Pos.mk (p : Int) (i : Int)) x2), (wc ++ lab x2.out)) ∈ tw2 := by
      have h1 := (aget_mem hW2.nd).1 hv5
      have h2 : v5 = (wc ++ lab x2.out) := by
        refine strL_inj (hW2.vr hlb h1) (vr_app (hW2.vr hlb hwc2) (lab_vr (hlb x2 (mem_posE.1 (List.mem_of_getElem? hx2)).1).2)) ?_
        have h3 : (aget m_32_2 (aftP (Pos.mk (p : Int) (i : Int)) x2)).isSome = true := by simpa using ht107
        rw [h3, ht9, hm2, e5] at ht105
        simpa using ht105
      rw [← h2]; exact h1
    refine wc_skip ?_
    refine wc_region ?_
    refine wl_m M (q_add rfl rfl (IntWalk.i64_in _ (by omega))) rfl rfl ?_
    refine wl_mv M rfl rfl ?_
    refine wl_nil ?_
    replace M := M.drop 0
    replace M := M.drop 0
    refine ⟨(k2 + 1, tw2, u_36_2, l_36_2, m_32_2), ?_, ⟨(by omega), hW2, hm2, hk2, (fun y_ hy_ hG_ => by rw [take_snoc hx2] at hy_; rcases List.mem_append.1 hy_ with h_ | h_; exact hx2c y_ h_ hG_; rw [List.mem_singleton.1 h_]; exact hold), hsub, hb2, M⟩, ⟨rfl, rfl, trivial⟩, unw_look rfl (unw_hav rfl (unw_look rfl unw_base))⟩
    show (posE t l (Pos.mk (p : Int) (i : Int))).length - (k2 + 1) < (posE t l (Pos.mk (p : Int) (i : Int))).length - k2
    omega
   have ho2 : x2.out = 0 := by simpa using ht88
   have ht9 : ((aget m_32_0 (Pos.mk (p : Int) (i : Int))).getD ⟨#[]⟩) = strL (wc ++ lab x2.out) := by rw [hs9, ho2, lab_zero, List.append_nil]
   refine wc_skip ?_
   refine wc_seq ?_
   refine wc_region ?_
   refine wl_mv M rfl rfl ?_
   refine wl_m M (q_ldbA 0 Tryz.underlying159 rfl sz159 rfl rfl rfl rfl) rfl rfl ?_
   refine wl_m M (q_lk2 (k := (aftP (Pos.mk (p : Int) (i : Int)) x2)) (z := ⟨#[]⟩) 5 rfl Tryz.underlying160 zv9 rfl rfl) rfl rfl ?_
   refine wl_mv M rfl rfl ?_
   refine wl_m M (q_ext rfl rfl) rfl rfl ?_
   refine wl_m M (q_ext rfl rfl) rfl rfl ?_
   refine wl_as M rfl rfl ?_
   refine wl_as M rfl rfl ?_
   refine wl_nil ?_
   refine wc_seq ?_
   refine wc_seq ?_
   refine wc_join (α := Unit) [100, 101, 102, 103, 104, 105] (fun _ => [(105, .bool (((aget m_32_2 (aftP (Pos.mk (p : Int) (i : Int)) x2)).isSome) && (!decide (((aget m_32_2 (aftP (Pos.mk (p : Int) (i : Int)) x2)).getD ⟨#[]⟩) = ((aget m_32_0 (Pos.mk p i)).getD ⟨#[]⟩)))))]) (fun _ w' => Mem w I J72 (box b15 159 [.int .i64 ((aftP (Pos.mk (p : Int) (i : Int)) x2).state), .int .i64 ((aftP (Pos.mk (p : Int) (i : Int)) x2).read)] :: box b14 51 [.int .i64 x2.src, .int .i64 x2.dst, .int .i32 x2.inp, .int .i32 x2.out] :: box b12 9 [.string ((aget m_32_0 (Pos.mk p i)).getD ⟨#[]⟩)] :: box b11 159 [.int .i64 (p : Int), .int .i64 (i : Int)] :: row EPos (sv u_36_2) l_36_2 :: mpr QPos Value.string b32 m_32_2 :: box b7 159 [.int .i64 t.start, .int .i64 0] :: box b2 25 [.int .i64 t.states, .int .i64 t.start, sv fu1, sv au1] :: []) w') ?_ ?_
   ·refine wc_region ?_
    refine wl_mv M rfl rfl ?_
    refine wl_mv M rfl rfl ?_
    rcases Bool.eq_false_or_eq_true ((aget m_32_2 (aftP (Pos.mk (p : Int) (i : Int)) x2)).isSome) with hg101 | hg101
    ·refine wl_m M (q_guard 1 rfl rfl rfl hg101 (q_move rfl)) rfl rfl ?_
     refine wl_m M (q_guard 1 rfl rfl rfl hg101 (q_move rfl)) rfl rfl ?_
     refine wl_m M (q_guard 1 rfl rfl rfl hg101 (q_neqS rfl rfl)) rfl rfl ?_
     refine wl_m M (q_pickT rfl hg101 rfl) rfl rfl ?_
     refine wl_nil ?_
     exact ⟨(), M, ⟨(show some (Value.bool (!decide (((aget m_32_2 (aftP (Pos.mk (p : Int) (i : Int)) x2)).getD ⟨#[]⟩) = ((aget m_32_0 (Pos.mk p i)).getD ⟨#[]⟩)))) = some (Value.bool (((aget m_32_2 (aftP (Pos.mk (p : Int) (i : Int)) x2)).isSome) && (!decide (((aget m_32_2 (aftP (Pos.mk (p : Int) (i : Int)) x2)).getD ⟨#[]⟩) = ((aget m_32_0 (Pos.mk p i)).getD ⟨#[]⟩))))) from by first | (simp only [hg101, Bool.true_or, Bool.false_or, Bool.true_and, Bool.false_and, Bool.or_true, Bool.or_false, Bool.and_true, Bool.and_false]; done) | (simp_all; done) | (simp_all; omega)), trivial⟩, unw_take 6 rfl rfl⟩
    refine wl_m M (q_off 1 rfl rfl rfl hg101) rfl rfl ?_
    refine wl_m M (q_off 1 rfl rfl rfl hg101) rfl rfl ?_
    refine wl_m M (q_off 1 rfl rfl rfl hg101) rfl rfl ?_
    refine wl_m M (q_pickF rfl hg101 rfl) rfl rfl ?_
    refine wl_nil ?_
    exact ⟨(), M, ⟨(show some (Value.bool false) = some (Value.bool (((aget m_32_2 (aftP (Pos.mk (p : Int) (i : Int)) x2)).isSome) && (!decide (((aget m_32_2 (aftP (Pos.mk (p : Int) (i : Int)) x2)).getD ⟨#[]⟩) = ((aget m_32_0 (Pos.mk p i)).getD ⟨#[]⟩))))) from by first | (simp only [hg101, Bool.true_or, Bool.false_or, Bool.true_and, Bool.false_and, Bool.or_true, Bool.or_false, Bool.and_true, Bool.and_false]; done) | (simp_all; done) | (simp_all; omega)), trivial⟩, unw_take 6 rfl rfl⟩
   rintro _ jr26 w58 M
   refine wc_cond rfl (fun ht105 => ?_) (fun ht105 => ?_)
   ·rw [Bool.and_eq_true] at ht105
    obtain ⟨v5, hv5, e5⟩ := enc_some (by rw [← hm2]; exact ht105.1)
    refine wc_seq ?_
    refine wc_region ?_
    refine wl_as M rfl rfl ?_
    refine wl_nil ?_
    refine wc_ret ?_
    exact out1 rfl rfl ⟨_, _, rfl, M.grow, by rw [sglB_false (wr_two ht hG hW2 hwc2 (List.mem_of_getElem? hx2) hgd ((aget_mem hW2.nd).1 hv5) (fun e_ => by have h2 := ht105.2; rw [ht9, hm2, e5, e_] at h2; simp at h2))]⟩
   refine wc_skip ?_
   refine wc_seq ?_
   refine wc_region ?_
   refine wl_mv M rfl rfl ?_
   refine wl_m M (q_not rfl) rfl rfl ?_
   refine wl_nil ?_
   refine wc_cond rfl (fun ht107 => ?_) (fun ht107 => ?_)
   ·have hnew : (aftP (Pos.mk (p : Int) (i : Int)) x2) ∉ tw2.map (·.1) := enc_none (by rw [← hm2]; simpa using ht107)
    refine wc_seq ?_
    refine wc_region ?_
    refine wl_mv M rfl rfl ?_
    refine wl_m M (q_ldbA 0 Tryz.underlying159 rfl sz159 rfl rfl rfl rfl) rfl rfl ?_
    refine wl_mv M rfl rfl ?_
    refine wl_e0 (e_mpu (k := (aftP (Pos.mk (p : Int) (i : Int)) x2)) (v := (aget m_32_0 (Pos.mk p i)).getD ⟨#[]⟩) 5 M rfl Tryz.underlying160 rfl rfl rfl) rfl ?_
    intro _ w59 M
    try simp only [sC0, sCS] at M
    refine wl_nil ?_
    refine wc_region ?_
    refine wl_mv M rfl rfl ?_
    refine wl_m M (q_ldbA 0 Tryz.underlying159 rfl sz159 rfl rfl rfl rfl) rfl rfl ?_
    refine wl_e (e_bsI (E := EPos) (xs := [(aftP (Pos.mk (p : Int) (i : Int)) x2)]) M (bs_161_1 _ _) ⟨⟨rfl, rfl⟩, trivial⟩ rfl rfl (by decide)) rfl rfl ?_
    rintro _ w60 ⟨u113, J113, rfl, hJ113, R113, M⟩
    have hoJ113 := M.old
    refine wl_e (e_app 4 M rfl R113 Tryz.underlying161 rfl rfl (by have := hW2.len; show (_ + 1) * 16 ≤ _; omega)) rfl rfl ?_
    rintro _ w61 ⟨u114, rfl, M⟩
    replace M := M.less hJ113 hoJ72
    try simp only [sC0, sCS] at M
    refine wl_as M rfl rfl ?_
    refine wl_nil ?_
    refine wc_region ?_
    refine wl_m M (q_add rfl rfl (IntWalk.i64_in _ (by omega))) rfl rfl ?_
    refine wl_mv M rfl rfl ?_
    refine wl_nil ?_
    replace M := M.drop 0
    replace M := M.drop 0
    refine ⟨(k2 + 1, tw2 ++ [((aftP (Pos.mk (p : Int) (i : Int)) x2), (wc ++ lab x2.out))], u114, l_36_2 ++ [(aftP (Pos.mk (p : Int) (i : Int)) x2)], aput m_32_2 (aftP (Pos.mk (p : Int) (i : Int)) x2) ((aget m_32_0 (Pos.mk p i)).getD ⟨#[]⟩)), ?_, ⟨(by omega), (wr_add ht hW2 hwc2 (List.mem_of_getElem? hx2) hgd hnew), (by rw [hm2, ht9, enc_put hnew]), (by rw [List.map_append, hk2]; simp), (fun y_ hy_ hG_ => by rw [take_snoc hx2] at hy_; rcases List.mem_append.1 hy_ with h_ | h_; exact List.mem_append.2 (.inl (hx2c y_ h_ hG_)); rw [List.mem_singleton.1 h_]; simp), (fun e_ h_ => List.mem_append.2 (.inl (hsub e_ h_))), (fun e_ h_ => by rw [List.length_append, List.length_singleton]; rcases List.mem_append.1 h_ with h_ | h_; have := hb2 e_ h_; omega; rw [List.mem_singleton.1 h_]; show (wc ++ lab x2.out).length ≤ _; rw [List.length_append]; have h1 := hb2 _ hwc2; have h2 := lab_le x2.out; simp only [] at h1; omega), M⟩, ⟨rfl, rfl, trivial⟩, unw_look rfl (unw_hav rfl (unw_look rfl unw_base))⟩
    show (posE t l (Pos.mk (p : Int) (i : Int))).length - (k2 + 1) < (posE t l (Pos.mk (p : Int) (i : Int))).length - k2
    omega
   obtain ⟨v5, hv5, e5⟩ := enc_some (tw := tw2) (k := (aftP (Pos.mk (p : Int) (i : Int)) x2)) (by rw [← hm2]; simpa using ht107)
   have hold : ((aftP (Pos.mk (p : Int) (i : Int)) x2), (wc ++ lab x2.out)) ∈ tw2 := by
     have h1 := (aget_mem hW2.nd).1 hv5
     have h2 : v5 = (wc ++ lab x2.out) := by
       refine strL_inj (hW2.vr hlb h1) (vr_app (hW2.vr hlb hwc2) (lab_vr (hlb x2 (mem_posE.1 (List.mem_of_getElem? hx2)).1).2)) ?_
       have h3 : (aget m_32_2 (aftP (Pos.mk (p : Int) (i : Int)) x2)).isSome = true := by simpa using ht107
       rw [h3, ht9, hm2, e5] at ht105
       simpa using ht105
     rw [← h2]; exact h1
   refine wc_skip ?_
   refine wc_region ?_
   refine wl_m M (q_add rfl rfl (IntWalk.i64_in _ (by omega))) rfl rfl ?_
   refine wl_mv M rfl rfl ?_
   refine wl_nil ?_
   replace M := M.drop 0
   replace M := M.drop 0
   refine ⟨(k2 + 1, tw2, u_36_2, l_36_2, m_32_2), ?_, ⟨(by omega), hW2, hm2, hk2, (fun y_ hy_ hG_ => by rw [take_snoc hx2] at hy_; rcases List.mem_append.1 hy_ with h_ | h_; exact hx2c y_ h_ hG_; rw [List.mem_singleton.1 h_]; exact hold), hsub, hb2, M⟩, ⟨rfl, rfl, trivial⟩, unw_look rfl (unw_hav rfl (unw_look rfl unw_base))⟩
   show (posE t l (Pos.mk (p : Int) (i : Int))).length - (k2 + 1) < (posE t l (Pos.mk (p : Int) (i : Int))).length - k2
   omega
  have hke2 : k2 = (posE t l (Pos.mk (p : Int) (i : Int))).length := by omega
  rw [hke2, List.take_length] at hx2c
  have hvs2 : ∀ p ∈ vs, p ∈ tw.map (·.1) := fun p hp => by rw [hk]; exact List.mem_append.2 (.inl hp)
  refine wc_exit rfl ?_
  replace M := M.drop 0
  replace M := M.drop 0
  refine ⟨(J72, vs ++ [(Pos.mk (p : Int) (i : Int))], tw2, ro, u_36_2, l_36_2, m_32_2), ?_, ⟨(hle.trans hIc hJ72), hW2, hm2, (by rw [hk2]; simp), (wrC_next hc hW2 hsub hvs2 hwc2 hx2c), hb2, (hsub _ h0), ((res_no hRo hvs2 hsub hW2 hned).mono hJ72), M⟩, ⟨rfl, rfl, trivial⟩, unw_look rfl (unw_hav rfl (unw_look rfl (unw_hav rfl (unw_look rfl unw_base))))⟩
  show G.length - (vs ++ [(Pos.mk (p : Int) (i : Int))]).length < G.length - vs.length
  have h1 := hW2.len
  have h2 := congrArg List.length hk2
  simp only [List.length_map, List.length_append, List.length_cons, List.length_nil] at h2 ⊢
  omega
 obtain rfl : l_36_0 = [] := by cases l_36_0 with | nil => rfl | cons x l => simp at ht39
 rw [List.append_nil] at hk
 refine wc_exit rfl ?_
 refine wc_seq ?_
 refine wc_region ?_
 refine wl_as M rfl rfl ?_
 refine wl_nil ?_
 refine wc_ret ?_
 exact out1 rfl rfl ⟨_, _, rfl, M.grow, by rw [sglB_true (wr_single ht hG hW h0 (by rw [hk]; exact hc) (res_fin hRo hk))]⟩
end Go.Proofs.YtmjieefhjmiagaaGreatDoor.G
