/- Calls, returns, regions that draw their order. -/
import Derived.Test.YtgkngljojfkkfaaGreatDoorU4
import Derived.Defers
import Derived.RangeFuncLeaves
import Derived.RangeFuncRecord
namespace Go.U
open Go
set_option linter.unusedVariables false

/-- A contract. -/
def CT (P : Program) (f : FuncId) (args : Array Value) (ro : Ro) (L : List (List Blk)) (Post : Value → Ro → List (List Blk) → Prop) : Prop :=
  ∀ w, I ro L w → Calls P f args w fun e w' => ∃ v ro' L', e = .returned v ∧ ro.le ro' ∧ I ro' L' w' ∧ Post v ro' L'

theorem CT.mono {P : Program} {f : FuncId} {args : Array Value} {ro : Ro} {L : List (List Blk)} {Post Post' : Value → Ro → List (List Blk) → Prop} (h : CT P f args ro L Post)
    (hp : ∀ v ro' L', ro.le ro' → Post v ro' L' → Post' v ro' L') : CT P f args ro L Post' := fun w hi =>
  (h w hi).mono fun _ _ ⟨v, ro', L', he, hle, hii, hpost⟩ => ⟨v, ro', L', he, hle, hii, hp v ro' L' hle hpost⟩

/-- what is owed where the body ends -/
def RP (P : Program) (fn : Func) (ro0 : Ro) (Post : Value → Ro → List (List Blk) → Prop) : Exit → Act → World → Prop
  | .normal, a, w | .ret, a, w => LeavesInM Fence.wide 0 P fn a.tmps (fun e w' => ∃ v ro' L', e = .returned v ∧ ro0.le ro' ∧ I ro' L' w' ∧ Post v ro' L') a.defers .returning w
  | _, _, _ => False

def enterF : Nat → List Value → Frm
  | _, [] => []
  | i, v :: vs => (i, v) :: enterF (i + 1) vs

theorem look_enter : ∀ (vs : List Value) (k i : Nat) (v : Value), look i (enterF k vs) = some v → k ≤ i ∧ vs[i - k]? = some v
  | [], _, _, _, h => by simp [enterF, look] at h
  | u :: vs, k, i, v, h => by
    simp only [enterF, look] at h
    by_cases hi : i = k
    · subst hi
      rw [Nat.beq_refl] at h
      simp only [Option.some.injEq] at h
      subst h
      simp
    · have : Nat.beq i k = false := by
        cases hb : Nat.beq i k with
        | false => rfl
        | true => exact absurd (Nat.eq_of_beq_eq_true hb) hi
      rw [this] at h
      obtain ⟨h1, h2⟩ := look_enter vs (k + 1) i v h
      refine ⟨by omega, ?_⟩
      have e : i - k = (i - (k + 1)) + 1 := by omega
      rw [e, List.getElem?_cons_succ]
      exact h2

theorem enter {P : Program} {f : FuncId} {fn : Func} {c : Code} {vs : List Value} {n : Nat} {ro : Ro} {L : List (List Blk)} {Post : Value → Ro → List (List Blk) → Prop}
    (hf : P.funcs[f]? = some fn) (hb : fn.body = some c) (hn : fn.ntmps = n) (hle' : Nat.ble vs.length n = true) (h : WQ ⟨n, []⟩ (c.wp P (RP P fn ro Post)) (enterF 0 vs) ro L) : CT P f vs.toArray ro L Post := fun w hi => by
  have hle : vs.length ≤ n := Nat.le_of_ble_eq_true hle'
  refine callsIn_wide.1 (callsIn_of_wp_marks (n := 0) hf hb trivial (wpIn_wide.2 (wp_mono (h _ w ⟨?_, rfl, fun i v hv => ?_⟩ hi) fun e a' w' hq => ?_)))
  · simp [hn]; omega
  · obtain ⟨_, h2⟩ := look_enter vs 0 i v hv
    have hlt : i < vs.length := (List.getElem?_eq_some_iff.1 h2).1
    simp only [Nat.sub_zero] at h2
    simp [Array.getElem?_append, hlt]
    simpa using (List.getElem?_eq_some_iff.1 h2).2
  · cases e with
    | normal => exact hq
    | ret => exact hq
    | exit id => exact hq.elim
    | goto l => exact hq.elim
    | panic ch => exact hq.elim
    | outgrown => exact hq.elim

section
variable {P : Program} {n : Sz} {Q : Exit → Act → World → Prop} {K : Act → World → Prop} {F : Frm} {ro ro0 : Ro} {L L0 : List (List Blk)} {ty : TypeId} {pos : String} {aft : Array Edge} {g : Option (Nat × Bool)} {fn : Func} {Post : Value → Ro → List (List Blk) → Prop}

/-- the results -/
def Res (P : Program) (F : Frm) (ro : Ro) (Kb : List Blk) : List ResultVar → List Value → Prop
  | [], vs => vs = []
  | .tmp t :: rs, vs => ∃ v us, vs = v :: us ∧ look t F = some v ∧ Res P F ro Kb rs us
  | .cell t y :: rs, vs => ∃ v us b off, vs = v :: us ∧ look t F = some (.pointer (some ⟨b, off, none⟩)) ∧
      ((tyAgg P y = some none ∧ Cell ro Kb b off v) ∨ ∃ k cs, tyAgg P y = some (some k) ∧ cs.length = k ∧ CellsAt ro Kb b off cs ∧ v = .agg cs.toArray) ∧ Res P F ro Kb rs us

theorem Res.tmp {t : Tmp} {v : Value} {rs : List ResultVar} {us : List Value} {Kb : List Blk} (h1 : look t F = some v) (h2 : Res P F ro Kb rs us) : Res P F ro Kb (.tmp t :: rs) (v :: us) := ⟨v, us, rfl, h1, h2⟩
theorem Res.cell1 {t y : Nat} {b off : Nat} {v : Value} {rs : List ResultVar} {us : List Value} {Kb : List Blk} (ht : tyAgg P y = some none) (h1 : look t F = some (.pointer (some ⟨b, off, none⟩))) (hc : Cell ro Kb b off v) (h2 : Res P F ro Kb rs us) :
    Res P F ro Kb (.cell t y :: rs) (v :: us) := ⟨v, us, b, off, rfl, h1, .inl ⟨ht, hc⟩, h2⟩
theorem Res.cellN {t y : Nat} {b off k : Nat} {cs : List Value} {rs : List ResultVar} {us : List Value} {Kb : List Blk} (ht : tyAgg P y = some (some k)) (h1 : look t F = some (.pointer (some ⟨b, off, none⟩))) (hk : cs.length = k) (hc : CellsAt ro Kb b off cs) (h2 : Res P F ro Kb rs us) :
    Res P F ro Kb (.cell t y :: rs) (.agg cs.toArray :: us) := ⟨_, us, b, off, rfl, h1, .inr ⟨k, cs, ht, hk, hc, rfl⟩, h2⟩
theorem Res.nil {Kb : List Blk} : Res P F ro Kb [] [] := rfl

def tupled : List Value → Value
  | [v] => v
  | vs => .tuple vs.toArray

def resOf (tmps : Array Value) : ResultVar → Sem Value
  | .tmp t => pure (tmps.getD t undef)
  | .cell a t => do loadVar t (← asAddr (tmps.getD a undef))
theorem run_resOf {w : World} {a : Act} {Kb : List Blk} (hf : FA n F a) (hj : J ro Kb w) : ∀ (rs : List ResultVar) (vs : List Value), Res P F ro Kb rs vs → (rs.mapM (resOf a.tmps)).run P w = .ok vs w
  | [], vs, h => by simp only [Res] at h; subst h; simp
  | .tmp t :: rs, vs, h => by
    obtain ⟨v, us, rfl, h1, h2⟩ := h
    have e1 : a.tmps.getD t undef = v := by simp [hf.at_ t v h1]
    have e2 : (resOf a.tmps (.tmp t)).run P w = .ok v w := by
      show (pure (a.tmps.getD t undef) : Sem Value).run P w = .ok v w
      rw [e1]; rfl
    simp only [List.mapM_cons, Sem.run_bind, Sem.run_pure, Result.andThen_ok, run_resOf hf hj rs us h2, e2]
  | .cell t y :: rs, vs, h => by
    obtain ⟨v, us, b, off, rfl, h1, h3, h2⟩ := h
    have hl : (loadVar y ⟨b, off, none⟩).run P w = .ok v w := by
      rcases h3 with ⟨ht, hc⟩ | ⟨k, cs, ht, hk, hc, rfl⟩
      · exact run_loadVar1 ht (hc w hj)
      · exact run_loadVarN ht hk (fun j v hv => hc j v hv w hj)
    have e1 : a.tmps.getD t undef = .pointer (some ⟨b, off, none⟩) := by simp [hf.at_ t _ h1]
    have e2 : (resOf a.tmps (.cell t y)).run P w = .ok v w := by
      show (do loadVar y (← asAddr (a.tmps.getD t undef)) : Sem Value).run P w = .ok v w
      rw [e1]; simp [asAddr, hl]
    simp only [List.mapM_cons, Sem.run_bind, Sem.run_pure, Result.andThen_ok, run_resOf hf hj rs us h2, e2]

theorem run_results {w : World} {a : Act} {rs : List ResultVar} {vs : List Value} {Kb : List Blk} (hr : fn.results = rs.toArray) (hf : FA n F a) (hj : J ro Kb w) (h : Res P F ro Kb rs vs) : (results fn a.tmps).run P w = .ok (tupled vs) w := by
  have h1 := run_resOf hf hj rs vs h
  have h2 : ∀ vs : List Value, (if h : vs.toArray.size = 1 then vs.toArray[0] else Value.tuple vs.toArray) = tupled vs := fun vs => by
    match vs with
    | [] => rfl
    | [v] => rfl
    | v :: u :: us => simp [tupled]
  have h3 : results fn a.tmps = (do
      let vs ← fn.results.mapM (resOf a.tmps)
      pure (if h : vs.size = 1 then vs[0] else .tuple vs)) := by
    unfold results
    congr 1
  rw [h3, hr, List.mapM_toArray]
  simp only [Sem.run_bind, Sem.run_map, Result.andThen_ok, Sem.run_pure, h1]
  rw [h2]

theorem leaves_nil {a : Act} {w : World} {rs : List ResultVar} {vs : List Value} {L' : List (List Blk)} (hr : fn.results = rs.toArray) (hf : FA n F a) (hi : I ro L w) (h : Res P F ro L.flatten rs vs) (hle : ro0.le ro) (hsub : ∃ M, M.Perm L.flatten ∧ L'.flatten.Sublist M) (hp : Post (tupled vs) ro L') :
    LeavesInM Fence.wide 0 P fn a.tmps (fun e w' => ∃ v ro' L', e = .returned v ∧ ro0.le ro' ∧ I ro' L' w' ∧ Post v ro' L') [] .returning w :=
  ⟨tupled vs, run_results hr hf hi.j h, tupled vs, ro, L', rfl, hle, hi.sub hsub, hp⟩
theorem done {rs : List ResultVar} {vs : List Value} (hr : fn.results = rs.toArray) (h : Res P F ro L.flatten rs vs) (hle : ro0.le ro) (L' : List (List Blk)) (hsub : ∃ M, M.Perm L.flatten ∧ L'.flatten.Sublist M) (hp : Post (tupled vs) ro L') (hds : n.ds = [] := by rfl) : WQ n (RP P fn ro0 Post .ret) F ro L :=
  fun a w hf hi => by
    show LeavesInM _ _ _ _ _ _ a.defers _ _
    rw [hf.defers, hds]
    exact leaves_nil hr hf hi h hle hsub hp
theorem done' {rs : List ResultVar} {vs : List Value} (hr : fn.results = rs.toArray) (h : Res P F ro L.flatten rs vs) (hle : ro0.le ro) (L' : List (List Blk)) (hsub : ∃ M, M.Perm L.flatten ∧ L'.flatten.Sublist M) (hp : Post (tupled vs) ro L') (hds : n.ds = [] := by rfl) : WQ n (RP P fn ro0 Post .normal) F ro L :=
  fun a w hf hi => by
    show LeavesInM _ _ _ _ _ _ a.defers _ _
    rw [hf.defers, hds]
    exact leaves_nil hr hf hi h hle hsub hp
/-- a block of the call's own is written over -/
theorem I.put_own {w : World} {D : Nat} {o o' : Obj} {L : List (List Blk)} (hi : I ro ([(D, o)] :: L) w) : I ro ([(D, o')] :: L) (w.putObj D o') := by
  have hD := hi.own (D, o) (by simp)
  have hlt : D < w.heap.size := (Array.getElem?_eq_some_iff.1 hD).1
  have hnd := hi.nodup
  simp only [List.flatten_cons, List.cons_append, List.nil_append, List.map_cons, List.nodup_cons] at hnd
  refine ⟨hi.os, hi.tape, hi.output, by simpa using hi.size, fun b o2 hb => ?_, fun x hx => ?_, fun x hx => ?_, by simpa using hi.nodup⟩
  · have hne : b ≠ D := fun e => by subst e; have := hi.apart (b, o) (by simp); simp only at this; rw [this] at hb; cases hb
    rw [World.putObj_heap_other hne]; exact hi.old b o2 hb
  · simp only [List.flatten_cons, List.cons_append, List.nil_append, List.mem_cons] at hx
    rcases hx with rfl | hx
    · exact World.putObj_heap_same hlt
    · have hne : x.1 ≠ D := fun e => hnd.1 (by rw [← e]; exact List.mem_map_of_mem hx)
      rw [World.putObj_heap_other hne]
      exact hi.own x (by simp [hx])
  · simp only [List.flatten_cons, List.cons_append, List.nil_append, List.mem_cons] at hx
    rcases hx with rfl | hx
    · exact hi.apart (D, o) (by simp)
    · exact hi.apart x (by simp [hx])
/-- the blocks of the loops over functions -/
def dfb (o : Option (List Deferred)) (ds : List Nat) : List (List Blk) := ds.map fun D => [(D, Obj.deferred o)]
/-- the end of a function that has been through loops over functions -/
theorem doneD {rs : List ResultVar} {vs : List Value} (hL : ∃ M, M.Perm L.flatten ∧ (dfb (some []) n.ds ++ L0).flatten.Sublist M) (hr : fn.results = rs.toArray) (h : Res P F ro L0.flatten rs vs) (hle : ro0.le ro) (L' : List (List Blk)) (hsub : ∃ M, M.Perm L0.flatten ∧ L'.flatten.Sublist M) (hp : Post (tupled vs) ro L') :
    WQ n (RP P fn ro0 Post .ret) F ro L ∧ WQ n (RP P fn ro0 Post .normal) F ro L := by
  have key : ∀ (a : Act) (w : World), FA n F a → I ro L w → LeavesInM Fence.wide 0 P fn a.tmps (fun e w' => ∃ v ro' L', e = .returned v ∧ ro0.le ro' ∧ I ro' L' w' ∧ Post v ro' L') a.defers .returning w := by
    intro a w hf hi
    rw [hf.defers]
    have hi2 := hi.sub hL
    clear hi hL
    have go : ∀ (ds : List Nat) (w : World), I ro (dfb (some []) ds ++ L0) w → LeavesInM Fence.wide 0 P fn a.tmps (fun e w' => ∃ v ro' L', e = .returned v ∧ ro0.le ro' ∧ I ro' L' w' ∧ Post v ro' L') (marks ds) .returning w := by
      intro ds
      induction ds with
      | nil => intro w hi; exact leaves_nil hr hf hi h hle hsub hp
      | cons D ds ih =>
        intro w hi
        have hD : w.heap[D]? = some (.deferred (some [])) := hi.own (D, _) (by simp [dfb])
        refine ⟨by simp, .inl ⟨D, _, rfl, run_takeDeferred hD, ih _ ?_⟩⟩
        exact (I.put_own (o' := .deferred none) (L := dfb (some []) ds ++ L0) hi).sub ⟨_, .refl _, List.sublist_append_right _ _⟩
    exact go n.ds w hi2
  exact ⟨key, key⟩

/-- a function that can be called -/
structure Fun (P : Program) (k : FuncId) : Prop where
  out : ∃ fn, P.funcs[k]? = some fn ∧ (fn.name == "runtime.NumGoroutine") = false ∧ fn.body.isNone = false

theorem e_call {d : Tmp} {f : Operand} {xs : List Operand} {k : FuncId} {vs caps : List Value} {t3 : TypeId} {tys : Array TypeId} {PostC : Value → Ro → List (List Blk) → Prop} (hd : Nat.blt d n.sz = true) (hfn : Fun P k) (hx : ev F f = some (.func (.func k) #[] caps.toArray)) (hv : evs F xs = some vs)
    (hc : CT P k (vs ++ caps).toArray ro L PostC) (h : ∀ v ro' L', ro.le ro' → PostC v ro' L' → WQ n K ((d, v) :: F) ro' L') :
    WO P n ⟨some d, .call { callee := .value f, args := xs.toArray, argTypes := tys }, t3, pos, aft, g⟩ K Q F ro L := fun a w hf hi => by
  obtain ⟨fn, h1, h2, h3⟩ := hfn.out
  have hrun : (execOp a.eval ⟨some d, .call { callee := .value f, args := xs.toArray, argTypes := tys }, t3, pos, aft, g⟩).run P w = .ok (.enter k (vs ++ caps).toArray) w := by
    have e1 := hf.evs hv
    have h2' : ¬ fn.name = "runtime.NumGoroutine" := by simpa using h2
    have h3' : ¬ fn.body = none := fun e => by rw [e] at h3; cases h3
    simp only [execOp, resolve, List.map_toArray, e1, hf.ev hx, Deferred.ofValue, Sem.run_bind, Sem.run_pure, Result.andThen_ok, invoke, callFunc]
    simp [program, Sem.run, h1, h2', h3']
  simp only [Oper.wp, hrun, Oper.upon]
  refine (hc w hi).mono fun e w' ⟨v, ro', L', he, hle, hii, hp⟩ => ?_
  subst he
  exact h v ro' L' hle hp _ _ (hf.put hd v) hii
/-- a call whose result nobody takes -/
theorem e_call0 {f : Operand} {xs : List Operand} {k : FuncId} {vs caps : List Value} {t3 : TypeId} {tys : Array TypeId} {PostC : Value → Ro → List (List Blk) → Prop} (hfn : Fun P k) (hx : ev F f = some (.func (.func k) #[] caps.toArray)) (hv : evs F xs = some vs)
    (hc : CT P k (vs ++ caps).toArray ro L PostC) (h : ∀ v ro' L', ro.le ro' → PostC v ro' L' → WQ n K F ro' L') :
    WO P n ⟨none, .call { callee := .value f, args := xs.toArray, argTypes := tys }, t3, pos, aft, g⟩ K Q F ro L := fun a w hf hi => by
  obtain ⟨fn, h1, h2, h3⟩ := hfn.out
  have hrun : (execOp a.eval ⟨none, .call { callee := .value f, args := xs.toArray, argTypes := tys }, t3, pos, aft, g⟩).run P w = .ok (.enter k (vs ++ caps).toArray) w := by
    have e1 := hf.evs hv
    have h2' : ¬ fn.name = "runtime.NumGoroutine" := by simpa using h2
    have h3' : ¬ fn.body = none := fun e => by rw [e] at h3; cases h3
    simp only [execOp, resolve, List.map_toArray, e1, hf.ev hx, Deferred.ofValue, Sem.run_bind, Sem.run_pure, Result.andThen_ok, invoke, callFunc]
    simp [program, Sem.run, h1, h2', h3']
  simp only [Oper.wp, hrun, Oper.upon]
  refine (hc w hi).mono fun e w' ⟨v, ro', L', he, hle, hii, hp⟩ => ?_
  subst he
  exact h v ro' L' hle hp _ _ hf hii

/-! ### regions that draw their order -/

theorem draw {id : Nat} {ops : Array Oper} (Kb : List Blk) (hm : P.follows .mixedOrders = true) (h : WQ n (wpAnyH P .any ops Q (J ro Kb) ops.size (Array.replicate ops.size false)) F ro L) : WQ n ((Code.region id ops true).wp P Q) F ro L :=
  fun a w hf hi => wp_region_held hm (h a _ hf hi.drew)

/-- an operation that yields is taken first -/
theorem d_take {ops : Array Oper} {fuel : Nat} {listed : Array Bool} {Kb : List Blk} {ro1 : Ro} (i : Nat) {d : Tmp} {o : Op} {g' : Option (Nat × Bool)} {v : Value} (hi : ops[i]? = some ⟨some d, o, ty, pos, aft, g'⟩)
    (hs : Region.noSelect ops = true) (hf : Region.free .any ops listed i = true) (hr : (Region.ready .any ops listed).contains i = true) (hQ : ∀ c a w, Q (.panic c) a w → False) (hd : Nat.blt d n.sz = true)
    (hw : g' = none ∨ ∃ j t b, g' = some (j, b) ∧ (ops[j]?).bind (·.dst) = some t ∧ look t F = some (.bool b)) (hy : Ex P n F ro1 Kb ⟨some d, o, ty, pos, aft, g'⟩ v) (hj : ∀ w, I ro L w → J ro1 Kb w)
    (h : WQ n (wpAnyH P .any ops Q (J ro1 Kb) fuel (listed.setIfInBounds i true)) ((d, v) :: F) ro L) : WQ n (wpAnyH P .any ops Q (J ro1 Kb) (fuel + 1) listed) F ro L := fun a w hfa hii => by
  refine wpAnyH_take hi hs hf hr (fun c a w hq => (hQ c _ w hq).elim) (.inl ⟨?_, fun w' hw' => hy a w' hfa hw'⟩) (hj w hii) (h _ _ (hfa.put hd v) hii)
  rcases hw with rfl | ⟨j, t, b, rfl, h1, h2⟩
  · rfl
  · rw [wanted_of (o := ⟨some d, o, ty, pos, aft, some (j, b)⟩) rfl h1 hfa h2]
    simp
/-- .. an operation that its guard keeps from running -/
theorem d_skip {ops : Array Oper} {fuel : Nat} {listed : Array Bool} {Kb : List Blk} {ro1 : Ro} (i : Nat) {d j t : Nat} {o : Op} {b c : Bool} (hi : ops[i]? = some ⟨some d, o, ty, pos, aft, some (j, b)⟩)
    (hs : Region.noSelect ops = true) (hf : Region.free .any ops listed i = true) (hr : (Region.ready .any ops listed).contains i = true) (hQ : ∀ c a w, Q (.panic c) a w → False) (hd : Nat.blt d n.sz = true)
    (h1 : (ops[j]?).bind (·.dst) = some t) (h2 : look t F = some (.bool c)) (hb : (c == b) = false) (hj : ∀ w, I ro L w → J ro1 Kb w)
    (h : WQ n (wpAnyH P .any ops Q (J ro1 Kb) fuel (listed.setIfInBounds i true)) ((d, undef) :: F) ro L) : WQ n (wpAnyH P .any ops Q (J ro1 Kb) (fuel + 1) listed) F ro L := fun a w hfa hii => by
  refine wpAnyH_take hi hs hf hr (fun c a w hq => (hQ c _ w hq).elim) (.inr ⟨?_, rfl⟩) (hj w hii) (h _ _ (hfa.put hd undef) hii)
  rw [wanted_of (o := ⟨some d, o, ty, pos, aft, some (j, b)⟩) rfl h1 hfa h2, hb]
theorem d_skipU {ops : Array Oper} {fuel : Nat} {listed : Array Bool} {Kb : List Blk} {ro1 : Ro} (i : Nat) {d j t : Nat} {o : Op} {b : Bool} (hi : ops[i]? = some ⟨some d, o, ty, pos, aft, some (j, b)⟩)
    (hs : Region.noSelect ops = true) (hf : Region.free .any ops listed i = true) (hr : (Region.ready .any ops listed).contains i = true) (hQ : ∀ c a w, Q (.panic c) a w → False) (hd : Nat.blt d n.sz = true)
    (h1 : (ops[j]?).bind (·.dst) = some t) (h2 : look t F = some undef) (hj : ∀ w, I ro L w → J ro1 Kb w)
    (h : WQ n (wpAnyH P .any ops Q (J ro1 Kb) fuel (listed.setIfInBounds i true)) ((d, undef) :: F) ro L) : WQ n (wpAnyH P .any ops Q (J ro1 Kb) (fuel + 1) listed) F ro L := fun a w hfa hii => by
  refine wpAnyH_take hi hs hf hr (fun c a w hq => (hQ c _ w hq).elim) (.inr ⟨?_, rfl⟩) (hj w hii) (h _ _ (hfa.put hd undef) hii)
  have h3 := hfa.at_ t _ h2
  simp only [Region.wanted, yielded, h1, Option.bind_some, h3, undef]
  rfl
/-- one operation alone may come up -/
theorem d_one {ops : Array Oper} {fuel : Nat} {listed : Array Bool} {Kb : List Blk} {ro1 : Ro} (i : Nat) {o : Oper} (hi : ops[i]? = some o) (hr : Region.ready .any ops listed = [i])
    (hw : o.guard = none ∨ ∃ j t b, o.guard = some (j, b) ∧ (ops[j]?).bind (·.dst) = some t ∧ look t F = some (.bool b))
    (h : WO P n o (fun a w => J ro1 Kb w ∧ wpAnyH P .any ops Q (J ro1 Kb) fuel (listed.setIfInBounds i true) a w) Q F ro L) : WQ n (wpAnyH P .any ops Q (J ro1 Kb) (fuel + 1) listed) F ro L := fun a w hfa hii => by
  refine wpAnyH_all hr (by simp) fun k hk => ?_
  obtain rfl := List.mem_singleton.1 hk
  unfold wpOp
  simp only [hi]
  have hwant : Region.wanted o (yielded ops a.tmps) = true := by
    rcases hw with hg | ⟨j, t, b, hg, h1, h2⟩
    · simp [Region.wanted, hg]
    · rw [wanted_of hg h1 hfa h2]; simp
  rw [if_pos hwant]
  exact .inl (h a w hfa hii)
theorem d_next {ops : Array Oper} {fuel : Nat} {listed : Array Bool} {Kb : List Blk} {ro1 : Ro} (hj : ∀ w, I ro L w → J ro1 Kb w) (h : WQ n (wpAnyH P .any ops Q (J ro1 Kb) fuel listed) F ro L) :
    WQ n (fun a w => J ro1 Kb w ∧ wpAnyH P .any ops Q (J ro1 Kb) fuel listed a w) F ro L := fun a w hf hi => ⟨hj w hi, h a w hf hi⟩
theorem d_end {ops : Array Oper} {fuel : Nat} {listed : Array Bool} {Kb : List Blk} {ro1 : Ro} (hr : Region.ready .any ops listed = []) (h : WQ n (Q .normal) F ro L) : WQ n (wpAnyH P .any ops Q (J ro1 Kb) fuel listed) F ro L :=
  fun a w hf hi => wpAnyH_done hr (h a w hf hi) _

theorem J.of_le {ro1 : Ro} {Kb : List Blk} (hle : ro1.le ro) (hs : ∀ x ∈ Kb, x ∈ L.flatten) {w : World} (hi : I ro L w) : J ro1 Kb w :=
  ⟨fun b o h => hi.old b o (hle.cells b o h), fun x hx => hi.own x (hs x hx)⟩

/-- a resource becomes memory that stays -/
theorem ufreeze {R : List Blk} (h : ∀ ro', ro.le ro' → (∀ x ∈ R, ro'.cells x.1 = some x.2) → WQ n K F ro' L) : WQ n K F ro (R :: L) := fun a w hf hi => by
  have hfl : (R :: L).flatten = R ++ L.flatten := rfl
  have hnod := hi.nodup
  rw [hfl, List.map_append, List.nodup_append] at hnod
  let find : Nat → Option Obj := fun b => (R.find? fun x => x.1 == b).map (·.2)
  have hfind : ∀ x ∈ R, find x.1 = some x.2 := fun x hx => by
    have hs : ∃ z, R.find? (fun z => z.1 == x.1) = some z := by
      cases hc : R.find? (fun z => z.1 == x.1) with
      | some z => exact ⟨z, rfl⟩
      | none => have := List.find?_eq_none.1 hc x hx; simp at this
    obtain ⟨z, hz⟩ := hs
    have hz1 : z.1 = x.1 := by simpa using List.find?_some hz
    have hzm := List.mem_of_find?_eq_some hz
    have h1 := hi.own z (by rw [hfl]; simp [hzm])
    have h2 := hi.own x (by rw [hfl]; simp [hx])
    rw [hz1, h2] at h1
    simp only [find, hz, Option.map_some]
    exact h1.symm
  have hfindR : ∀ b o, find b = some o → ∃ x ∈ R, x.1 = b ∧ x.2 = o := fun b o hb => by
    simp only [find] at hb
    cases hc : R.find? (fun z => z.1 == b) with
    | none => simp [hc] at hb
    | some z =>
      simp [hc] at hb
      exact ⟨z, List.mem_of_find?_eq_some hc, by simpa using List.find?_some hc, hb⟩
  refine h { ro with cells := fun b => match find b with | some o => some o | none => ro.cells b } ⟨rfl, rfl, rfl, Nat.le_refl _, fun b o hb => ?_⟩ (fun x hx => ?_) a w hf ⟨hi.os, hi.tape, hi.output, hi.size, fun b o hb => ?_, fun x hx => hi.own x (by rw [hfl]; simp [hx]), fun x hx => ?_, hnod.2.1⟩
  · dsimp only
    cases hc : find b with
    | none => exact hb
    | some o' =>
      obtain ⟨x, hx, rfl, _⟩ := hfindR b o' hc
      have := hi.apart x (by rw [hfl]; simp [hx])
      rw [hb] at this
      cases this
  · dsimp only
    rw [hfind x hx]
  · dsimp only at hb
    cases hc : find b with
    | none => rw [hc] at hb; exact hi.old b o hb
    | some o' =>
      rw [hc] at hb
      simp only [Option.some.injEq] at hb
      obtain ⟨x, hx, rfl, h2⟩ := hfindR b o' hc
      rw [← hb, ← h2]
      exact hi.own x (by rw [hfl]; simp [hx])
  · dsimp only
    cases hc : find x.1 with
    | none => exact hi.apart x (by rw [hfl]; simp [hx])
    | some o' =>
      obtain ⟨z, hz, e, _⟩ := hfindR _ o' hc
      exact absurd e (hnod.2.2 z.1 (List.mem_map_of_mem hz) x.1 (List.mem_map_of_mem hx))

end
end Go.U
