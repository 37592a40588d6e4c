/- Loops over functions: the function that is ranged over, the rounds, the statement, what follows it. -/
import Derived.Test.YtgkngljojfkkfaaGreatDoorU29
import Derived.RangeFuncIn
import Derived.RangeFuncRecord
import Derived.OrdersIn
import Derived.TacticsIn
set_option linter.unusedVariables false
set_option linter.unusedSectionVars false
namespace Go.U
open Go

/-- a round's fence -/
abbrev RF (l : Nat) : Fence := Fence.wide.inRound l
def isDefer : Op → Bool
  | .defer _ => true
  | _ => false
theorem isDefer_no {o : Op} (h : isDefer o = false) : ∀ c, o ≠ .defer c := fun c e => by subst e; cases h
def noDefer (ops : List Oper) : Bool := ops.all fun o => !isDefer o.op
theorem noDefer_at {l : List Oper} (h : noDefer l = true) {i : Nat} {o : Oper} (hi : l.toArray[i]? = some o) : isDefer o.op = false := by
  have := List.all_eq_true.1 h o (List.mem_of_getElem? (by simpa using hi))
  simpa using this
section
variable {P : Program} {n : Sz} {Q : Exit → Act → World → Prop} {K : Act → World → Prop} {F : Frm} {ro ro0 : Ro} {L : List (List Blk)} {ty : TypeId} {pos : String} {aft : Array Edge} {g : Option (Nat × Bool)} {d : Tmp} {lp : Nat}

theorem rows_wd {m : Nat} {row : String} {args : Array Value} {w : World} {R : Value → World → Prop} (h : Rows P row args w R) : RowsIn Fence.wide m P row args w R :=
  fun c cs _ => let ⟨v, w', r, s⟩ := h c cs; ⟨v, w', r, stepsIn_wide.2 s⟩
theorem oper_wd {o : Oper} {a : Act} {w : World} {next : Act → World → Prop} (hd : isDefer o.op = false) (h : o.wp P a w next Q) : o.wpIn Fence.wide 0 P a w next Q := by
  unfold Oper.wpIn
  refine ⟨fun f _ => trivial, ?_⟩
  rw [Oper.semAt_eq _ _ _ (isDefer_no hd)]
  unfold Oper.wp at h
  generalize (execOp a.eval o).run P w = r at *
  cases r with
  | ok x w' =>
    cases x <;> simp only [Oper.upon] at h <;> simp only [Oper.uponIn] <;>
      first
        | exact h
        | exact ⟨fun hh => (by cases hh), callsIn_wide.2 h⟩
        | exact ⟨fun hh => (by cases hh), rows_wd h⟩
  | halt x w' => cases x <;> simp only [Oper.upon] at h <;> simp only [Oper.uponIn] <;> exact h
theorem oper_rf {o : Oper} {a : Act} {w : World} {next : Act → World → Prop} (hd : isDefer o.op = false) (h : o.wp P a w next Q) : o.wpIn (RF lp) 0 P a w next Q := by
  have h1 := (oper_wd hd h).2
  rw [Oper.semAt_eq _ _ _ (isDefer_no hd)] at h1
  unfold Oper.wpIn
  refine ⟨fun f _ => trivial, ?_⟩
  rw [Oper.semAt_eq _ _ _ (isDefer_no hd)]
  exact h1
theorem ops_rf {ops : Array Oper} (hn : ∀ (i : Nat) (o : Oper), ops[i]? = some o → isDefer o.op = false) (hQ : ∀ a w, Q .outgrown a w → False) : ∀ (l : List Nat) (a : Act) (w : World), wpOps P ops Q l a w → wpOpsIn (RF lp) 0 P ops Q l a w
  | [], a, w, h => h
  | i :: rest, a, w, h => by
    simp only [wpOps] at h
    simp only [wpOpsIn]
    cases ho : ops[i]? with
    | none => rw [ho] at h; exact ops_rf hn hQ rest a w h
    | some o =>
      rw [ho] at h
      simp only at h ⊢
      split at h
      · rename_i hw
        rw [if_pos hw]
        rcases h with h | ⟨_, a', w', hx⟩
        · exact Oper.wpIn_mono (fun a w h => ops_rf hn hQ rest a w h) (oper_rf (hn i o ho) h)
        · exact (hQ a' w' hx).elim
      · rename_i hw
        rw [if_neg hw]
        exact ⟨fun f _ => trivial, ops_rf hn hQ rest _ w h⟩

/-! ### what is walked within a round -/
theorem regionR {id : Nat} {l : List Oper} (hn : noDefer l = true) (hQ : ∀ a w, Q .outgrown a w → False) (h : WQ n (wpList P l.toArray Q l) F ro L) : WQ n ((Code.region id l.toArray false).wpIn (RF lp) 0 P Q) F ro L :=
  fun a w hf hi => wpIn_region (ops_rf (fun i o ho => noDefer_at hn ho) hQ _ a w (by
    have := h a w hf hi
    rw [← wpOps_eq_wpList l 0 (by simp)] at this
    rw [List.range_eq_range']
    simpa using this))
theorem drawR {id : Nat} {l : List Oper} (Kb : List Blk) (hm : P.follows .mixedOrders = true) (hn : noDefer l = true) (hQ : ∀ a w, Q .outgrown a w → False) (h : WQ n (wpAnyH P .any l.toArray Q (J ro Kb) l.toArray.size (Array.replicate l.toArray.size false)) F ro L) : WQ n ((Code.region id l.toArray true).wpIn (RF lp) 0 P Q) F ro L :=
  fun a w hf hi => wpIn_region_draw fun t => by
    simp only [Region.schedule, hm, Bool.true_or, if_true]
    exact ops_rf (fun i o ho => noDefer_at hn ho) hQ _ a _ (wpAny_sound _ t _ a _ (wpAny_of_held _ _ _ _ (h a _ hf hi.drew)))
theorem drawLR {id : Nat} {l : List Oper} (hm : P.follows .mixedOrders = true) (hn : noDefer l = true) (hQ : ∀ a w, Q .outgrown a w → False) (h : WQ n (wpAnyH P .any l.toArray Q (J ro L.flatten) l.toArray.size (Array.replicate l.toArray.size false)) F ro L) : WQ n ((Code.region id l.toArray true).wpIn (RF lp) 0 P Q) F ro L := drawR L.flatten hm hn hQ h
theorem seqR {x y : Code} (h : WQ n (x.wpIn (RF lp) 0 P (Exit.then (y.wpIn (RF lp) 0 P Q) Q)) F ro L) : WQ n ((Code.seq x y).wpIn (RF lp) 0 P Q) F ro L := fun a w hf hi => wpIn_seq (h a w hf hi)
theorem seqMR {x y : Code} (Mid : Frm → Ro → List (List Blk) → Prop) (hx : WQ n (x.wpIn (RF lp) 0 P (Exit.then (Mids n Mid) Q)) F ro L) (hy : ∀ F' ro' L', Mid F' ro' L' → WQ n (y.wpIn (RF lp) 0 P Q) F' ro' L') : WQ n ((Code.seq x y).wpIn (RF lp) 0 P Q) F ro L :=
  fun a w hf hi => wpIn_seq (wpIn_mono (hx a w hf hi) fun e a' w' hq => by
    cases e with
    | normal => obtain ⟨F', ro', L', hm, hf', hi'⟩ := hq; exact hy F' ro' L' hm a' w' hf' hi'
    | exit id => exact hq
    | goto l => exact hq
    | ret => exact hq
    | panic c => exact hq
    | outgrown => exact hq)
theorem blockR {id : Nat} {c : Code} (h : WQ n (c.wpIn (RF lp) 0 P (Exit.inBlock id Q)) F ro L) : WQ n ((Code.block id c).wpIn (RF lp) 0 P Q) F ro L := fun a w hf hi => wpIn_block (h a w hf hi)
theorem skipR (h : WQ n (Q .normal) F ro L) : WQ n (Code.skip.wpIn (RF lp) 0 P Q) F ro L := fun a w hf hi => wpIn_skip (h a w hf hi)
theorem exitR {id : Nat} (h : WQ n (Q (.exit id)) F ro L) : WQ n ((Code.exit id).wpIn (RF lp) 0 P Q) F ro L := fun a w hf hi => wpIn_exit (h a w hf hi)
theorem retR (h : WQ n (Q .ret) F ro L) : WQ n (Code.ret.wpIn (RF lp) 0 P Q) F ro L := fun a w hf hi => wpIn_ret (h a w hf hi)
theorem condR {c : Operand} {x y : Code} {t : Bool} (hc : ev F c = some (.bool t)) (ht : t = true → WQ n (x.wpIn (RF lp) 0 P Q) F ro L) (hf' : t = false → WQ n (y.wpIn (RF lp) 0 P Q) F ro L) : WQ n ((Code.cond c x y).wpIn (RF lp) 0 P Q) F ro L :=
  fun a w hf hi => wpIn_cond_split (hf.ev hc) (fun h => ht h a w hf hi) (fun h => hf' h a w hf hi)
theorem condTR {c : Operand} {x y : Code} (hc : ev F c = some (.bool true)) (ht : WQ n (x.wpIn (RF lp) 0 P Q) F ro L) : WQ n ((Code.cond c x y).wpIn (RF lp) 0 P Q) F ro L :=
  fun a w hf hi => wpIn_cond_true (hf.ev hc) (ht a w hf hi)
theorem condFR {c : Operand} {x y : Code} (hc : ev F c = some (.bool false)) (ht : WQ n (y.wpIn (RF lp) 0 P Q) F ro L) : WQ n ((Code.cond c x y).wpIn (RF lp) 0 P Q) F ro L :=
  fun a w hf hi => wpIn_cond_false (hf.ev hc) (ht a w hf hi)

/-! ### the function that is ranged over: regions with a call of yield -/
theorem regionY {id : Nat} {l : List Oper} (h : WQ n (wpListIn Fence.wide 0 P l.toArray Q l) F ro L) : WQ n ((Code.region id l.toArray false).wp P Q) F ro L := fun a w hf hi => wpIn_wide.1 (wpIn_region_lit (h a w hf hi))
theorem nilY {ops : Array Oper} (h : WQ n (Q .normal) F ro L) : WQ n (wpListIn Fence.wide 0 P ops Q []) F ro L := h
theorem opY {ops : Array Oper} {dst : Option Tmp} {o : Op} {rest : List Oper} (hd : isDefer o = false) (h : WO P n ⟨dst, o, ty, pos, aft, none⟩ (wpListIn Fence.wide 0 P ops Q rest) Q F ro L) : WQ n (wpListIn Fence.wide 0 P ops Q (⟨dst, o, ty, pos, aft, none⟩ :: rest)) F ro L :=
  fun a w hf hi => by
    simp only [wpListIn, Region.wanted, if_true]
    exact oper_wd hd (h a w hf hi)
/-- what a call of yield does -/
def YT (P : Program) (l : Nat) (args : List Value) (ro : Ro) (L : List (List Blk)) (Post : Value → Ro → List (List Blk) → Prop) : Prop :=
  ∀ w, I ro L w → ∃ fn tmps assign body, (Instr.yield l args.toArray).run P w = .ok (.round l fn tmps assign body) w ∧ RoundIn Fence.wide 0 P l fn tmps assign body w (fun e w' => ∃ v ro' L', e = .returned v ∧ ro.le ro' ∧ I ro' L' w' ∧ Post v ro' L')
theorem YT.mono {l : Nat} {args : List Value} {Post Post' : Value → Ro → List (List Blk) → Prop} (h : YT P l args ro L Post) (hp : ∀ v ro' L', ro.le ro' → Post v ro' L' → Post' v ro' L') : YT P l args ro L Post' := fun w hi => by
  obtain ⟨fn, tmps, as, bd, h1, h2⟩ := h w hi
  exact ⟨fn, tmps, as, bd, h1, h2.mono fun e w' ⟨v, ro', L', he, hle, hi', hq⟩ => ⟨v, ro', L', he, hle, hi', hp v ro' L' hle hq⟩⟩
theorem yieldY {ops : Array Oper} {f : Operand} {xs : List Operand} {l : Nat} {vs : List Value} {t3 : TypeId} {tys : Array TypeId} {rest : List Oper} {PostC : Value → Ro → List (List Blk) → Prop} (hd : Nat.blt d n.sz = true) (hx : ev F f = some (.func (.yield l) #[] #[])) (hv : evs F xs = some vs)
    (hy : YT P l vs ro L PostC) (h : ∀ v ro' L', ro.le ro' → PostC v ro' L' → WQ n (wpListIn Fence.wide 0 P ops Q rest) ((d, v) :: F) ro' L') :
    WQ n (wpListIn Fence.wide 0 P ops Q (⟨some d, .call { callee := .value f, args := xs.toArray, argTypes := tys }, t3, pos, aft, none⟩ :: rest)) F ro L := fun a w hf hi => by
  obtain ⟨fn, tmps, as, bd, hrun, hround⟩ := hy w hi
  simp only [wpListIn, Region.wanted, if_true]
  have hex : (execOp a.eval ⟨some d, .call { callee := .value f, args := xs.toArray, argTypes := tys }, t3, pos, aft, none⟩).run P w = .ok (.round l fn tmps as bd) w := by
    have e1 := hf.evs hv
    simp only [execOp, resolve, List.map_toArray, e1, hf.ev hx, Deferred.ofValue, Sem.run_bind, Sem.run_pure, Result.andThen_ok, invoke]
    simpa using hrun
  unfold Oper.wpIn
  refine ⟨fun f _ => trivial, ?_⟩
  rw [Oper.semAt_eq _ _ _ (by intro c e; cases e), hex, Oper.uponIn_round]
  refine ⟨fun hh => (by cases hh), hround.mono fun e w' ⟨v, ro', L', he, hle, hi', hp⟩ => ?_⟩
  subst he
  exact h v ro' L' hle hp _ _ (hf.put hd v) hi'

/-! ### a round -/
def lrec (fn : FuncId) (tm : Array Value) (ps : Array Tmp) (as bd : Code) (D : Nat) (st : LoopState) (pe : Option Code) : Loop := { state := st, pending := pe, fn, tmps := tm, params := ps, assign := as, body := bd, defers := D }
theorem I.putAt {w : World} {i D : Nat} {o o' : Obj} {L' : List (List Blk)} (hi : I ro L w) (hL : L[i]? = some [(D, o)]) (hs : setAt L i [(D, o')] = some L') : I ro L' (w.putObj D o') := by
  have hD := hi.own (D, o) (mem_item hL (List.mem_singleton.2 rfl))
  have hlt : D < w.heap.size := (Array.getElem?_eq_some_iff.1 hD).1
  refine hi.swap hL hs ⟨rfl, rfl, rfl, by simp⟩ (fun b hb _ => World.putObj_heap_other (fun e => hb (D, o) (List.mem_singleton.2 rfl) e.symm)) (fun x hx => ?_) (fun x hx => .inl ⟨(D, o), List.mem_singleton.2 rfl, ?_⟩) (by simp)
  · rw [List.mem_singleton] at hx; subst hx; exact World.putObj_heap_same hlt
  · rw [List.mem_singleton] at hx; subst hx; rfl
def RR (ro0 : Ro) (Post : Value → Ro → List (List Blk) → Prop) : Ending → World → Prop := fun e w' => ∃ v ro' L', e = .returned v ∧ ro0.le ro' ∧ I ro' L' w' ∧ Post v ro' L'
def BeginK (P : Program) (l : Nat) (bd : Code) (R : Ending → World → Prop) : Act → World → Prop := fun a₁ w₁ => ∃ w₂, (Instr.beginRound l).run P w₁ = .ok () w₂ ∧ bd.wpIn (RF l) 0 P (roundPost P l R) a₁ w₂
theorem YT.of2 {l k p1 p2 D : Nat} {fn : FuncId} {tm : Array Value} {as bd : Code} {v1 v2 : Value} {Post : Value → Ro → List (List Blk) → Prop} {rc : LoopState → Option Code → Loop} (hrc : rc = lrec fn tm #[p1, p2] as bd D) (hf : FA ⟨k, []⟩ F ⟨tm, []⟩) (h1 : Nat.blt p1 k = true) (h2 : Nat.blt p2 k = true)
    (hL : (l, Obj.loop (rc .ready none)) ∈ L.flatten)
    (h : WQ ⟨k, []⟩ (as.wpIn (RF l) 0 P (Exit.then (BeginK P l bd (RR ro Post)) (fun _ _ _ => False))) ((p2, v2) :: (p1, v1) :: F) ro L) : YT P l [v1, v2] ro L Post := fun w hi => by
  subst hrc
  have hr := hi.own _ hL
  have key := h ⟨(tm.setIfInBounds p1 v1).setIfInBounds p2 v2, []⟩ w ((hf.put (d := p1) h1 v1).put (d := p2) h2 v2) hi
  have e : ((lrec fn tm #[p1, p2] as bd D .ready none).params.zip #[v1, v2]).foldl (fun tmps (x : Tmp × Value) => tmps.setIfInBounds x.1 x.2) (lrec fn tm #[p1, p2] as bd D .ready none).tmps = (tm.setIfInBounds p1 v1).setIfInBounds p2 v2 := by
    simp [lrec]
  refine ⟨fn, _, as, bd, run_yield hr rfl, roundIn_of_wpIn trivial ?_⟩
  rw [← e] at key
  exact key
theorem begin_ {l D : Nat} {fn : FuncId} {tm : Array Value} {ps : Array Tmp} {as bd bd' : Code} {R : Ending → World → Prop} {rc : LoopState → Option Code → Loop} {L' : List (List Blk)} (hrc : rc = lrec fn tm ps as bd' D) (i : Nat) (hL : L[i]? = some [(l, .loop (rc .ready none))]) (hs : setAt L i [(l, .loop (rc .busy none))] = some L')
    (h : WQ n (bd.wpIn (RF l) 0 P (roundPost P l R)) F ro L') : WQ n (BeginK P l bd R) F ro L := fun a w hf hi => by
  subst hrc
  exact ⟨_, run_beginRound (hi.own _ (mem_item hL (List.mem_singleton.2 rfl))) rfl, h a _ hf (hi.putAt hL hs)⟩
theorem rend {l D : Nat} {fn : FuncId} {tm : Array Value} {ps : Array Tmp} {as bd : Code} {Post : Value → Ro → List (List Blk) → Prop} {rc : LoopState → Option Code → Loop} {L' L2 : List (List Blk)} (hrc : rc = lrec fn tm ps as bd D) (i : Nat) (jump : Option Code) (hL : L[i]? = some [(l, .loop (rc .busy none))]) (hs : setAt L i [(l, .loop (rc (if jump.isNone then .ready else .done) jump))] = some L')
    (hle : ro0.le ro) (hsub : ∃ M, M.Perm L'.flatten ∧ L2.flatten.Sublist M) (hp : Post (.bool jump.isNone) ro L2) :
    WQ n (fun _ w => ∃ v w', (Instr.endRound l jump).run P w = .ok v w' ∧ RR ro0 Post (.returned v) w') F ro L := fun a w hf hi => by
  subst hrc
  exact ⟨_, _, run_endRound jump (hi.own _ (mem_item hL (List.mem_singleton.2 rfl))), _, ro, L2, rfl, hle, (hi.putAt hL hs).sub hsub, hp⟩
theorem rend_n {l D : Nat} {fn : FuncId} {tm : Array Value} {ps : Array Tmp} {as bd : Code} {Post : Value → Ro → List (List Blk) → Prop} {rc : LoopState → Option Code → Loop} {L' L2 : List (List Blk)} (hrc : rc = lrec fn tm ps as bd D) (i : Nat) (hL : L[i]? = some [(l, .loop (rc .busy none))]) (hs : setAt L i [(l, .loop (rc .ready none))] = some L')
    (hle : ro0.le ro) (hsub : ∃ M, M.Perm L'.flatten ∧ L2.flatten.Sublist M) (hp : Post (.bool true) ro L2) : WQ n (roundPost P l (RR ro0 Post) .normal) F ro L := rend hrc i none hL hs hle hsub hp
theorem rend_r {l D : Nat} {fn : FuncId} {tm : Array Value} {ps : Array Tmp} {as bd : Code} {Post : Value → Ro → List (List Blk) → Prop} {rc : LoopState → Option Code → Loop} {L' L2 : List (List Blk)} (hrc : rc = lrec fn tm ps as bd D) (i : Nat) (hL : L[i]? = some [(l, .loop (rc .busy none))]) (hs : setAt L i [(l, .loop (rc .done (some .ret)))] = some L')
    (hle : ro0.le ro) (hsub : ∃ M, M.Perm L'.flatten ∧ L2.flatten.Sublist M) (hp : Post (.bool false) ro L2) : WQ n (roundPost P l (RR ro0 Post) .ret) F ro L := rend hrc i (some .ret) hL hs hle hsub hp
theorem rend_x {l D id : Nat} {fn : FuncId} {tm : Array Value} {ps : Array Tmp} {as bd : Code} {Post : Value → Ro → List (List Blk) → Prop} {rc : LoopState → Option Code → Loop} {L' L2 : List (List Blk)} (hrc : rc = lrec fn tm ps as bd D) (i : Nat) (hL : L[i]? = some [(l, .loop (rc .busy none))]) (hs : setAt L i [(l, .loop (rc .done (some (.exit id))))] = some L')
    (hle : ro0.le ro) (hsub : ∃ M, M.Perm L'.flatten ∧ L2.flatten.Sublist M) (hp : Post (.bool false) ro L2) : WQ n (roundPost P l (RR ro0 Post) (.exit id)) F ro L := rend hrc i (some (.exit id)) hL hs hle hsub hp

/-! ### the statement -/
theorem range2 {g : Operand} {p1 p2 : Tmp} {as bd : Code} {gf : FuncId} {caps : List Value} (hx : ev F g = some (.func (.func gf) #[] caps.toArray)) (hfn : Fun P gf) (Done : Ro → List (List Blk) → Prop) (Stop : Code → Ro → List (List Blk) → Prop)
    (hcall : ∀ (fn : FuncId) (tm : Array Value) (l D : Nat) (rc : LoopState → Option Code → Loop), rc = lrec fn tm #[p1, p2] as bd D → FA ⟨n.sz, []⟩ F ⟨tm, []⟩ → CT P gf ([Value.func (.yield l) #[] #[]] ++ caps).toArray ro ([(l, Obj.loop (rc .ready none))] :: [(D, Obj.deferred (some []))] :: L)
      (fun _ ro' L' => (∃ L2, L' = [(l, Obj.loop (rc .ready none))] :: [(D, Obj.deferred (some []))] :: L2 ∧ Done ro' L2) ∨ (∃ c L2, L' = [(l, Obj.loop (rc .done (some c)))] :: [(D, Obj.deferred (some []))] :: L2 ∧ Stop c ro' L2)))
    (hdone : ∀ D ro' L2, ro.le ro' → Done ro' L2 → WQ ⟨n.sz, D :: n.ds⟩ (Q .normal) F ro' ([(D, Obj.deferred (some []))] :: L2))
    (hstop : ∀ c D ro' L2, ro.le ro' → Stop c ro' L2 → WQ ⟨n.sz, D :: n.ds⟩ (c.wp P Q) F ro' ([(D, Obj.deferred (some []))] :: L2)) :
    WQ n ((Code.rangeFunc g #[p1, p2] as bd).wp P Q) F ro L := fun a w hf hi => (wpIn_wide (n := 0)).1 (wpIn_rangeFunc fun fn _ => by
  have hi2 := (hi.alloc (.deferred (some []))).alloc (.loop (lrec fn a.tmps #[p1, p2] as bd w.heap.size .ready none))
  rw [World.size_alloc] at hi2
  obtain ⟨fn', h1, h2, h3⟩ := hfn.out
  have h2' : ¬ fn'.name = "runtime.NumGoroutine" := by simpa using h2
  have h3' : ¬ fn'.body = none := fun e => by rw [e] at h3; cases h3
  have hf2 : ∀ (D : Nat), FA ⟨n.sz, D :: n.ds⟩ F ({ a with defers := [{ target := .collected D, args := #[] }] ++ a.defers } : Act) := fun D => ⟨hf.size, by simp [hf.defers, marks], hf.at_⟩
  generalize hw1 : (w.alloc (.deferred (some []))).alloc (.loop (lrec fn a.tmps #[p1, p2] as bd w.heap.size .ready none)) = w1 at hi2
  have hr : (resolve a.eval (rangeCall g (w.heap.size + 1)) 0).run P w1 = .ok { target := .fn (.func gf) caps.toArray, args := #[.func (.yield (w.heap.size + 1)) #[] #[]] } w1 := by
    simp only [resolve, hf.ev hx, rangeCall]
    simp [Deferred.ofValue, Act.eval]
  have hv : (invoke (.fn (.func gf) caps.toArray) #[.func (.yield (w.heap.size + 1)) #[] #[]]).run P w1 = .ok (.enter gf ([Value.func (.yield (w.heap.size + 1)) #[] #[]] ++ caps).toArray) w1 := by
    simp only [invoke, callFunc]
    simp [program, Sem.run, h1, h2', h3']
  refine ⟨w.heap.size + 1, [{ target := .collected w.heap.size, args := #[] }], w1, _, w1, gf, _, w1, by rw [← hw1]; exact run_enterLoop_outer _ _ _ _ _, hr, fun f' _ => trivial, hv, fun hh => (by cases hh), callsIn_wide.2 ?_⟩
  · refine (hcall fn a.tmps (w.heap.size + 1) w.heap.size _ rfl ⟨hf.size, rfl, hf.at_⟩ _ hi2).mono fun e w' ⟨v, ro', L', he, hle, hi', hp⟩ => ?_
    subst he
    rcases hp with ⟨L2, rfl, hD⟩ | ⟨c, L2, rfl, hS⟩
    · have hl := hi'.own _ (mem_item (i := 0) rfl (List.mem_singleton.2 rfl))
      refine ⟨none, _, run_endLoop hl (by simp [lrec]), hdone w.heap.size ro' L2 hle hD _ _ (hf2 _) ?_⟩
      exact (hi'.putAt (i := 0) rfl rfl).sub ⟨_, .refl _, List.sublist_append_right _ _⟩
    · have hl := hi'.own _ (mem_item (i := 0) rfl (List.mem_singleton.2 rfl))
      refine ⟨some c, _, run_endLoop hl (by simp [lrec]), wpIn_wide.2 (hstop c w.heap.size ro' L2 hle hS _ _ (hf2 _) ?_)⟩
      exact (hi'.putAt (i := 0) rfl rfl).sub ⟨_, .refl _, List.sublist_append_right _ _⟩)

/-! ### a loop in whose rounds functions are ranged over -/
def RoundN (k : Nat) (Inv : Nat → List Nat → Frm → Ro → List (List Blk) → Prop) (m : Nat) : Act → World → Prop :=
  fun a w => ∃ m' ds F' ro' L', m' < m ∧ Inv m' ds F' ro' L' ∧ FA ⟨k, ds⟩ F' a ∧ I ro' L' w
theorem loopN {c : Code} {k : Nat} {ds0 : List Nat} (Inv : Nat → List Nat → Frm → Ro → List (List Blk) → Prop) (m0 : Nat) (F0 : Frm) (hF : Cov F0 F) (h0 : Inv m0 ds0 F0 ro L)
    (step : ∀ m ds F ro L, Inv m ds F ro L → WQ ⟨k, ds⟩ (c.wp P (Exit.then (RoundN k Inv m) Q)) F ro L) : WQ ⟨k, ds0⟩ ((Code.loop c).wp P Q) F ro L := by
  intro a w hf hi
  let R : Act → World → Nat → Prop := fun a w m => ∃ ds F' ro' L', Inv m ds F' ro' L' ∧ FA ⟨k, ds⟩ F' a ∧ I ro' L' w
  have hmu : ∃ μ : Act → World → Nat, ∀ a w, (∃ m, R a w m) → R a w (μ a w) ∧ ∀ k, R a w k → μ a w ≤ k := by
    have hx : ∀ a w, ∃ μ : Nat, (∃ m, R a w m) → R a w μ ∧ ∀ k, R a w k → μ ≤ k := fun a w => by
      by_cases h : ∃ m, R a w m
      · obtain ⟨m, hm⟩ := least h
        exact ⟨m, fun _ => hm⟩
      · exact ⟨0, fun h' => absurd h' h⟩
    exact ⟨fun a w => Classical.choose (hx a w), fun a w h => Classical.choose_spec (hx a w) h⟩
  obtain ⟨μ, hμ⟩ := hmu
  refine wp_loop (fun a w => ∃ m, R a w m) μ ⟨m0, ds0, F0, ro, L, h0, hf.cov hF, hi⟩ fun a w hI => ?_
  obtain ⟨⟨ds, F', ro', L', hinv, hfa, hii⟩, hmin⟩ := hμ a w hI
  refine wp_mono (step _ ds F' ro' L' hinv a w hfa hii) fun e a' w' hq => ?_
  cases e with
  | normal =>
    obtain ⟨m', ds2, F2, ro2, L2, hlt, hinv2, hf2, hi2⟩ := hq
    have hR : R a' w' m' := ⟨ds2, F2, ro2, L2, hinv2, hf2, hi2⟩
    exact ⟨⟨m', hR⟩, Nat.lt_of_le_of_lt ((hμ a' w' ⟨m', hR⟩).2 m' hR) hlt⟩
  | exit id => exact hq
  | goto l => exact hq
  | ret => exact hq
  | panic c => exact hq
  | outgrown => exact hq
theorem roundN {Inv : Nat → List Nat → Frm → Ro → List (List Blk) → Prop} {k m : Nat} {ds : List Nat} (m' : Nat) (F' : Frm) (hlt : m' < m) (hc : Cov F' F) (h : Inv m' ds F' ro L) : WQ ⟨k, ds⟩ (RoundN k Inv m) F ro L :=
  fun _ _ hf hi => ⟨m', ds, F', ro, L, hlt, h, hf.cov hc, hi⟩
end
end Go.U
