/- Walk library, part 15 (a range over a function): the walk inside a round and behind a loop, an iterator's contract, the loop's record as a resource. Plain theorems over any program. -/
import Derived.Test.YtfepjcmjkaolgaaGMap
import Derived.RangeFuncLeaves
import Derived.RangeFuncSeq
import Derived.RangeFuncCalls
import Derived.RangeFuncBound
import Derived.TacticsIn
import Derived.OwnWalkIn
set_option linter.all false
namespace Go.Proofs.Ytfepjcmjkaolgaa.G
open Go Go.RowKit
/-- A block that holds a known object. -/
def obj (b : Nat) (o : Obj) : Res where
  blks := [b]
  holds h := h b = some o
  loc h h' e k := by rw [← e b (by simp)]; exact k
section
variable {w0 w : World} {I0 I : Heap} {L : List Res}
theorem Mem.objAt (M : Mem w0 I0 I L w) (i : Nat) {b : Nat} {o : Obj} (hi : L[i]? = some (obj b o)) : w.heap[b]? = some o := M.holds _ (getElem?_mem' hi)
theorem Mem.objSet (M : Mem w0 I0 I L w) (i : Nat) {b : Nat} {o : Obj} (hi : L[i]? = some (obj b o)) (o' : Obj) : Mem w0 I0 I (L.set i (obj b o')) (w.putObj b o') := by
  have hb := M.own (getElem?_mem' hi) (b := b) (by simp [obj])
  refine M.upd i hi (obj b o') ⟨rfl, rfl, rfl, by simp, fun k _ hk => World.putObj_heap_other (by simpa [obj] using hk), Nat.le_refl _⟩ (by simp [obj]) (fun c hc => .inl hc) (fun c hc => ?_) (World.putObj_heap_same hb.2.1)
  obtain rfl : c = b := by simpa [obj] using hc
  simpa using hb.2.1
theorem Mem.objNew (M : Mem w0 I0 I L w) (o : Obj) : Mem w0 I0 I (obj w.heap.size o :: L) (w.alloc o) := M.alloc o _ rfl fun h e => e
end
/-- A fence that lets everything in. -/
structure Opn (F : Fence) : Prop where
  fn : ∀ f, F.fn f
  depth : F.depth = none
  calls : ∀ {P : Program} {f : FuncId} {args : Array Value} {w : World} {R : Ending → World → Prop} {m : Nat}, Calls P f args w R → CallsIn F m P f args w R
  rows : ∀ {P : Program} {row : String} {args : Array Value} {w : World} {R : Value → World → Prop} {m : Nat}, Rows P row args w R → RowsIn F m P row args w R
theorem rows_wide {P : Program} {row : String} {args : Array Value} {w : World} {R : Value → World → Prop} {m : Nat} (h : Rows P row args w R) : RowsIn Fence.wide m P row args w R :=
  fun c cs _ => let ⟨v, w', r, s⟩ := h c cs; ⟨v, w', r, stepsIn_wide.2 s⟩
theorem opn_wide : Opn Fence.wide := ⟨fun _ => trivial, rfl, fun h => callsIn_wide.2 h, rows_wide⟩
theorem opn_round (l : Nat) : Opn (Fence.wide.inRound l) := ⟨fun _ => trivial, rfl, fun h => (callsIn_wide.2 h).inRound l, fun h => rows_wide h⟩
/-- A list of operations in its order, inside a fence; the activation's deferred calls are ds. -/
def WI (F : Fence) (m : Nat) (P : Program) (n : Nat) (ds : List Deferred) (ops : Array Oper) (Q : Exit → Act → World → Prop) (rest : List Oper) (e : Env) (w : World) : Prop :=
  ∀ a : Act, a.defers = ds → Fits n { a with defers := [] } e → wpListIn F m P ops Q rest a w
section
variable {F : Fence} {m : Nat} {P : Program} {n : Nat} {ds : List Deferred} {ops : Array Oper} {Q : Exit → Act → World → Prop} {rest : List Oper} {l : List (Nat × Value)} {b : Env} {w : World} {o : Oper}
theorem put_with (a : Act) (d : Option Tmp) (v : Value) : { a.put d v with defers := [] } = { a with defers := [] }.put d v := by cases d <;> rfl
theorem put_ds (a : Act) (d : Option Tmp) (v : Value) : (a.put d v).defers = a.defers := by cases d <;> rfl
theorem wi_nil (h : ∀ a : Act, a.defers = ds → Fits n { a with defers := [] } (look l b) → Q .normal a w) : WI F m P n ds ops Q [] (look l b) w := h
theorem eval_with (a : Act) : ({ a with defers := [] } : Act).eval = a.eval := by funext x; cases x <;> rfl
/-- An effect, as everywhere. -/
theorem wi_e {Post : Value → World → Prop} {d : Nat} (hF : Opn F) (hnd : ∀ c, o.op ≠ .defer c) (he : Eff P n ops o (look l b) w Post) (hd : o.dst = some d) (hn : Nat.blt d n = true)
    (h : ∀ v w', Post v w' → WI F m P n ds ops Q rest (look ((d, v) :: l) b) w') : WI F m P n ds ops Q (o :: rest) (look l b) w := by
  intro a hds hf
  have hlt : d < n := by simpa [Nat.blt_eq] using hn
  obtain ⟨hw, hrun⟩ := he _ hf
  have hw' : Region.wanted o (yielded ops a.tmps) = true := hw
  simp only [wpListIn, hw', if_true]
  refine ⟨fun f _ => hF.fn f, ?_⟩
  rw [Oper.semAt_plain F _ _ hnd]
  have key := hrun (fun a1 w1 => a1.defers = [] ∧ wpListIn F m P ops Q rest { a1 with defers := ds } w1) (fun _ _ _ => False) (fun v w' hp => by
    refine ⟨by rw [put_ds], ?_⟩
    refine h v w' hp _ rfl ?_
    rw [hd]
    exact hf.put hlt v)
  unfold Oper.wp at key
  rw [eval_with] at key
  generalize (execOp a.eval o).run P w = r at key
  have hput : ∀ v, { ({ a with defers := [] } : Act).put o.dst v with defers := ds } = a.put o.dst v := fun v => by
    subst hds
    cases o.dst <;> rfl
  cases r with
  | ok nx w' =>
    cases nx with
    | value v => have k := key; simp only [Oper.upon] at k; rw [hput] at k; exact k.2
    | skip => have k := key; simp only [Oper.upon] at k; rw [hput] at k; exact k.2
    | defer d' => have k := key; simp only [Oper.upon] at k; rw [put_ds] at k; cases k.1
    | enter f args =>
      refine ⟨fun h => (by rw [hF.depth] at h; cases h), hF.calls (Calls.mono key fun en w'' hq => ?_)⟩
      cases en with
      | returned v => have k := hq; dsimp only at k; rw [hput] at k; exact k.2
      | panicked c => exact hq.elim
      | outgrown => obtain ⟨a, w, h⟩ := hq; exact h.elim
    | row r args =>
      refine ⟨fun h => (by rw [hF.depth] at h; cases h), hF.rows (Rows.mono key fun v w'' hq => ?_)⟩
      have k := hq
      dsimp only at k
      rw [hput] at k; exact k.2
    | _ => exact key.elim
  | halt s w' =>
    cases s with
    | panic v => exact key.elim
    | _ => exact key.elim
/-- An effect that leaves nothing. -/
theorem wi_e0 {Post : Value → World → Prop} (hF : Opn F) (hnd : ∀ c, o.op ≠ .defer c) (he : Eff P n ops o (look l b) w Post) (hd : o.dst = none)
    (h : ∀ v w', Post v w' → WI F m P n ds ops Q rest (look l b) w') : WI F m P n ds ops Q (o :: rest) (look l b) w := by
  intro a hds hf
  obtain ⟨hw, hrun⟩ := he _ hf
  have hw' : Region.wanted o (yielded ops a.tmps) = true := hw
  simp only [wpListIn, hw', if_true]
  refine ⟨fun f _ => hF.fn f, ?_⟩
  rw [Oper.semAt_plain F _ _ hnd]
  have key := hrun (fun a1 w1 => a1.defers = [] ∧ wpListIn F m P ops Q rest { a1 with defers := ds } w1) (fun _ _ _ => False) (fun v w' hp => by
    refine ⟨by rw [put_ds], ?_⟩
    refine h v w' hp _ rfl ?_
    rw [hd]
    exact hf)
  unfold Oper.wp at key
  rw [eval_with] at key
  generalize (execOp a.eval o).run P w = r at key
  have hput : ∀ v, { ({ a with defers := [] } : Act).put o.dst v with defers := ds } = a.put o.dst v := fun v => by
    subst hds
    cases o.dst <;> rfl
  cases r with
  | ok nx w' =>
    cases nx with
    | value v => have k := key; simp only [Oper.upon] at k; rw [hput] at k; exact k.2
    | skip => have k := key; simp only [Oper.upon] at k; rw [hput] at k; exact k.2
    | defer d' => have k := key; simp only [Oper.upon] at k; rw [put_ds] at k; cases k.1
    | enter f args =>
      refine ⟨fun h => (by rw [hF.depth] at h; cases h), hF.calls (Calls.mono key fun en w'' hq => ?_)⟩
      cases en with
      | returned v => have k := hq; dsimp only at k; rw [hput] at k; exact k.2
      | panicked c => exact hq.elim
      | outgrown => obtain ⟨a, w, h⟩ := hq; exact h.elim
    | row r args =>
      refine ⟨fun h => (by rw [hF.depth] at h; cases h), hF.rows (Rows.mono key fun v w'' hq => ?_)⟩
      have k := hq
      dsimp only at k
      rw [hput] at k; exact k.2
    | _ => exact key.elim
  | halt s w' =>
    cases s with
    | panic v => exact key.elim
    | _ => exact key.elim
/-- A call of a round. -/
theorem wi_yield {Post : Value → World → Prop} {d : Nat} {ty : TypeId} {pos : String} {af : Array Go.Edge} {c : Call} {lp : Nat} {vs : Array Value} (hF : Opn F) (ho : o = ⟨some d, .call c, ty, pos, af, none⟩)
    (hrun : (execOp (evl (look l b)) o).run P w = (Instr.yield lp vs).run P w) (hy : ∀ k, YieldAt F k P lp vs w fun en w' => ∃ v, en = .returned v ∧ Post v w') (hn : Nat.blt d n = true)
    (h : ∀ v w', Post v w' → WI F m P n ds ops Q rest (look ((d, v) :: l) b) w') : WI F m P n ds ops Q (o :: rest) (look l b) w := by
  intro a hds hf
  have hlt : d < n := by simpa [Nat.blt_eq] using hn
  subst ho
  have hw' : Region.wanted (⟨some d, .call c, ty, pos, af, none⟩ : Oper) (yielded ops a.tmps) = true := by simp [Region.wanted]
  simp only [wpListIn, hw', if_true]
  refine ⟨fun f _ => hF.fn f, ?_⟩
  rw [Oper.semAt_plain F _ _ (fun c h => by cases h), ← eval_with, hf.evalf, hrun]
  obtain ⟨fn, tmps, assign, body, h1, h2⟩ := hy (m - 1)
  rw [h1]
  refine ⟨fun h => (by rw [hF.depth] at h; cases h), h2.mono fun en w' hq => ?_⟩
  obtain ⟨v, rfl, hp⟩ := hq
  refine h v w' hp _ (by rw [put_ds]; exact hds) ?_
  rw [put_with]
  exact hf.put hlt v
/-- A quiet operation. -/
theorem wi_q {S : World → Prop} {d : Nat} {v : Value} (hF : Opn F) (hnd : ∀ c, o.op ≠ .defer c) (hq : Quiet P n ops S o (look l b) v) (hS : S w) (hd : o.dst = some d) (hn : Nat.blt d n = true)
    (h : WI F m P n ds ops Q rest (look ((d, v) :: l) b) w) : WI F m P n ds ops Q (o :: rest) (look l b) w := by
  intro a hds hf
  have hlt : d < n := by simpa [Nat.blt_eq] using hn
  have hput : wpListIn F m P ops Q rest (a.put o.dst v) w := by
    refine h _ (by rw [put_ds]; exact hds) ?_
    rw [put_with, hd]
    exact hf.put hlt v
  rcases hq _ hf with ⟨hw, hr⟩ | ⟨hw, rfl⟩
  · have hw' : Region.wanted o (yielded ops a.tmps) = true := hw
    simp only [wpListIn, hw', if_true]
    refine ⟨fun f _ => hF.fn f, ?_⟩
    rw [Oper.semAt_plain F _ _ hnd, ← eval_with, hr w hS]
    exact hput
  · have hw' : Region.wanted o (yielded ops a.tmps) = false := hw
    simp only [wpListIn, hw', Bool.false_eq_true, if_false]
    exact ⟨fun f _ => hF.fn f, hput⟩
/-- A region in its text's order, walked so. -/
theorem wc_wide {id : Nat} {lo : List Oper} {K : Env → World → Prop} {X : List (Nat × (Env → World → Prop))} {R : Env → World → Prop} (h : WI Fence.wide 0 P n [] lo.toArray (onlyN n K) lo (look l b) w) : WC P n (.region id lo.toArray false) K X R (look l b) w := fun a ha =>
  wp_mono (wpIn_wide.1 (wpIn_region_lit (h a ha.defers (by obtain ⟨t, d⟩ := a; obtain rfl : d = [] := ha.defers; exact ha)))) fun ex a w hq => onlyN_qOf ex a w hq
end
/-- The contract of an iterator: what comes meets S, at most N of them; whatever the rounds keep (Lt, with a state c of theirs) is carried on. -/
def Gives {α : Type} (P : Program) (g : FuncId) (lb : Array Value) (enc : α → Value) (S : List α → Prop) (N : Nat) (w0 : World) (I0 I : Heap) : Prop :=
  ∀ (γ : Type) (lp : Nat) (Lt : γ → List α → List Res) (c0 : γ) (w : World), Mem w0 I0 I (Lt c0 []) w →
    (∀ (X : Res) (c : γ) (pre : List α) (x : α) (w' : World), pre.length < N → Mem w0 I0 I (X :: Lt c pre) w' → ∀ k, YieldAt Fence.wide k P lp #[enc x] w' fun e w'' => e = .returned (.bool true) ∧ ∃ c', Mem w0 I0 I (X :: Lt c' (pre ++ [x])) w'') →
    Calls P g (#[.func (.yield lp) #[] #[]] ++ lb) w fun e w' => ∃ v, e = .returned v ∧ ∃ xs c, S xs ∧ Mem w0 I0 I (Lt c xs) w'
section
variable {α : Type} {P : Program} {n : Nat} {w0 w : World} {I0 I : Heap} {L : List Res}
/-- The statement: one loop variable, a round of one list of operations. -/
theorem wp_range {g : Operand} {p ia ib ir : Nat} {la lbd : List Oper} {Q : Exit → Act → World → Prop} {a : Act} {l : List (Nat × Value)} {b : Env} {gf : FuncId} {lb : Array Value} {enc : α → Value} {S : List α → Prop} {N : Nat}
    (ha : Fits n a (look l b)) (hg : evo (look l b) g = some (.func (.func gf) #[] lb)) (hp : Nat.blt p n = true) (M : Mem w0 I0 I L w) (eg : ∀ args w, (callFunc gf args).run P w = .ok (.enter gf args) w)
    (hit : Gives P gf lb enc S N w0 I0 I) {γ : Type} (Lx : γ → List α → List Res) (c0 : γ) (hL : Lx c0 [] = L) (l1 : α → List (Nat × Value))
    (hasg : ∀ (F : Fence) k x w' (Q' : Exit → Act → World → Prop), Opn F → (∀ a : Act, a.defers = [] → Fits n { a with defers := [] } (look (l1 x) b) → Q' .normal a w') → WI F k P n [] la.toArray Q' la (look ((p, enc x) :: l) b) w')
    (hbody : ∀ (F : Fence) k c pre x w' (X Y Z : Res) (Q' : Exit → Act → World → Prop), Opn F → pre.length < N → Mem w0 I0 I (X :: Y :: Z :: Lx c pre) w' → (∀ (a : Act) c' w'', Mem w0 I0 I (X :: Y :: Z :: Lx c' (pre ++ [x])) w'' → Q' .normal a w'') → WI F k P n [] lbd.toArray Q' lbd (look (l1 x) b) w')
    (hend : ∀ D xs c w' (a : Act), a.defers = [{ target := .collected D, args := #[] }] → Fits n { a with defers := [] } (look l b) → S xs → Mem w0 I0 I (obj D (.deferred (some [])) :: Lx c xs) w' → Q .normal a w') :
    (Code.rangeFunc g #[p] (.region ia la.toArray false) (.block ib (.region ir lbd.toArray false))).wpIn Fence.wide 0 P Q a w := by
  refine wpIn_rangeFunc ?_
  intro fn _
  have hpn : p < n := by simpa [Nat.blt_eq] using hp
  obtain ⟨rec, hrec⟩ : ∃ rec : Loop, rec = { state := .ready, pending := none, fn, tmps := a.tmps, params := #[p], assign := .region ia la.toArray false, body := .block ib (.region ir lbd.toArray false), defers := w.heap.size } := ⟨_, rfl⟩
  have M1 := M.objNew (.deferred (some []))
  have M2 := M1.objNew (.loop rec)
  rw [World.size_alloc] at M2
  have hev : a.eval g = .func (.func gf) #[] lb := by rw [ha.eval]; exact ev_of hg
  obtain ⟨W1, hW1⟩ : ∃ W1, W1 = (w.alloc (.deferred (some []))).alloc (.loop rec) := ⟨_, rfl⟩
  rw [← hW1] at M2
  refine ⟨w.heap.size + 1, [{ target := .collected w.heap.size, args := #[] }], W1, { target := .fn (.func gf) lb, args := #[.func (.yield (w.heap.size + 1)) #[] #[]] }, W1, gf, #[.func (.yield (w.heap.size + 1)) #[] #[]] ++ lb, W1, ?_, ?_, fun _ _ => trivial, ?_, fun h => (by cases h), ?_⟩
  · rw [hW1, hrec]; exact run_enterLoop_outer _ _ _ _ _
  · simp only [resolve, rangeCall, hev]
    simp [go_sem]
  · simp [invoke, go_sem, eg]
  · refine callsIn_wide.2 ((hit γ (w.heap.size + 1) (fun c pre => obj (w.heap.size + 1) (.loop rec) :: obj w.heap.size (.deferred (some [])) :: Lx c pre) c0 _ (by rw [hL]; exact M2) ?_).mono ?_)
    · intro X c pre x w' hlt M' k
      have hl : w'.heap[w.heap.size + 1]? = some (.loop rec) := M'.objAt 1 rfl
      have hy : (Instr.yield (w.heap.size + 1) #[enc x]).run P w' = .ok (.round (w.heap.size + 1) rec.fn (a.tmps.setIfInBounds p (enc x)) rec.assign rec.body) w' := by
        have := run_yield (P := P) (args := #[enc x]) hl (by rw [hrec]; rfl)
        rw [this, hrec]
        simp
      refine ⟨rec.fn, _, rec.assign, rec.body, hy, roundIn_of_wpIn trivial ?_⟩
      have hfit : Fits n { tmps := a.tmps.setIfInBounds p (enc x), defers := [] } (look ((p, enc x) :: l) b) := by
        have := ha.put hpn (enc x)
        have e : a.put (some p) (enc x) = { tmps := a.tmps.setIfInBounds p (enc x), defers := [] } := by
          obtain ⟨t, d⟩ := a
          obtain rfl : d = [] := ha.defers
          rfl
        rw [e] at this; exact this
      subst hrec
      refine wpIn_region_lit (hasg _ k x w' _ (opn_round _) ?_ _ rfl hfit)
      intro a1 hd1 hf1
      refine ⟨_, run_beginRound hl rfl, ?_⟩
      have Mb := M'.objSet 1 (b := w.heap.size + 1) rfl (.loop { state := .busy, pending := none, fn, tmps := a.tmps, params := #[p], assign := .region ia la.toArray false, body := .block ib (.region ir lbd.toArray false), defers := w.heap.size })
      refine wpIn_block (wpIn_region_lit (hbody _ k c pre x _ X _ _ _ (opn_round _) hlt Mb ?_ a1 hd1 hf1))
      intro a2 c' w'' M''
      refine ⟨_, _, run_endRound none (M''.objAt 1 rfl), rfl, c', ?_⟩
      exact M''.objSet 1 rfl _
    · rintro e w2 ⟨v, rfl, xs, c, hS, M'⟩
      refine ⟨_, _, run_endLoop (M'.objAt 0 rfl) (by rw [hrec]; simp), ?_⟩
      have hpd : rec.pending = none := by rw [hrec]
      have M3 := (M'.objSet 0 rfl (.loop { rec with state := .exhausted })).drop 0
      rw [hpd] at M3 ⊢
      have e : ([{ target := .collected w.heap.size, args := #[] }] : List Deferred) ++ a.defers = [{ target := .collected w.heap.size, args := #[] }] := by rw [ha.defers]; rfl
      dsimp only
      rw [e]
      exact hend w.heap.size xs c _ _ rfl (by obtain ⟨t, d⟩ := a; obtain rfl : d = [] := ha.defers; exact ha) hS M3
end
section
variable {P : Program} {n : Nat}
/-- A function with a range over a function in it. -/
theorem enter_marks {f : FuncId} {fn : Func} {c : Code} {R : Ending → World → Prop} {w : World} (hf : P.funcs[f]? = some fn) (hb : fn.body = some c) (n : Nat) (hn : fn.ntmps = n) (args : List Value) (hs : Nat.ble args.length n = true)
    (h : ∀ a : Act, a.defers = [] → Fits n { a with defers := [] } (look (argsL 0 args) noEnv) → c.wpIn Fence.wide 0 P (bodyPostM Fence.wide 0 P fn R) a w) : Calls P f args.toArray w R := by
  subst hn
  have hs' : args.length ≤ fn.ntmps := by simpa using hs
  refine callsIn_wide.1 (callsIn_of_wp_marks (F := Fence.wide) (n := 0) hf hb trivial (h _ rfl ⟨rfl, by simp; omega, fun t => ?_⟩) rfl)
  have := argsL_get args 0 (fn.ntmps - args.length) t
  rw [Nat.zero_add] at this
  rw [this]
  simp [← Array.getElem?_toList]
theorem wi_region {F : Fence} {m : Nat} {ds : List Deferred} {id : Nat} {lo : List Oper} {Q : Exit → Act → World → Prop} {e : Env} {w : World} {a : Act} (hd : a.defers = ds) (hf : Fits n { a with defers := [] } e) (h : WI F m P n ds lo.toArray Q lo e w) : (Code.region id lo.toArray false).wpIn F m P Q a w := wpIn_region_lit (h a hd hf)
/-- The end of such a function: the mark's block is taken, nothing is left to do. -/
theorem leave_marks {fn : Func} {R : Ending → World → Prop} {w0 w : World} {I0 I : Heap} {L : List Res} {D : Nat} {e : Env} {a : Act} (M : Mem w0 I0 I (obj D (.deferred (some [])) :: L) w) (hf : Fits n { a with defers := [] } e)
    (ho : ∀ w', Mem w0 I0 I L w' → Out P fn R e w') : LeavesInM Fence.wide 0 P fn a.tmps R [{ target := .collected D, args := #[] }] .returning w := by
  have hD := M.objAt 0 rfl
  have M2 := (M.objSet 0 rfl (.deferred none)).drop 0
  refine ⟨by simp, .inl ⟨_, _, rfl, run_takeDeferred hD, ?_⟩⟩
  exact ho _ M2 a.tmps hf.get
end
section
variable {P : Program} {n : Nat} {ops : Array Oper} {l : List (Nat × Value)} {b : Env} {w : World} {K : Env → World → Prop}
theorem wi_end (h : K (look l b) w) : WI Fence.wide 0 P n [] ops (onlyN n K) [] (look l b) w := wi_nil fun a hd hf => ⟨_, (by obtain ⟨t, d⟩ := a; obtain rfl : d = [] := hd; exact hf), h⟩
theorem run_yieldcall {e : Env} {dst : Option Tmp} {ty : TypeId} {pos : String} {af : Array Go.Edge} {g x : Operand} {tys : Array TypeId} {lp : Nat} {v : Value} (hg : evo e g = some (.func (.yield lp) #[] #[])) (hx : evo e x = some v) :
    (execOp (evl e) ⟨dst, .call { callee := .value g, args := #[x], argTypes := tys }, ty, pos, af, none⟩).run P w = (Instr.yield lp #[v]).run P w := by
  replace hg := ev_of hg
  replace hx := ev_of hx
  simp [execOp, resolve, hg, hx, Deferred.ofValue, Sem.run_bind, Sem.run_pure, Result.andThen_ok, invoke]
end
end Go.Proofs.Ytfepjcmjkaolgaa.G
