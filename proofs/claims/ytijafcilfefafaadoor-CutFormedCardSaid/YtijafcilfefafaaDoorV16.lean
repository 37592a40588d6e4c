/- The walk of the automaton that takes an event. -/
import Derived.Test.YtijafcilfefafaaDoorV15
namespace Go.Proofs.YtijafcilfefafaaDoor
open Go Go.U
set_option maxRecDepth 20000
set_option linter.unusedSimpArgs false
set_option linter.unusedVariables false

/-- an automaton in memory -/
structure AX where
  a : Nat
  oA : Option Addr
  oc : Nat
  tA : Option Addr
  tc : Nat
  Rt : List Blk
  rb : Nat
  eb : Array MapEntry
  cb : Nat
  mb : List (Int × Value)
  ru : Nat
  eu : Array MapEntry
  cu : Nat
  mu : List (Int × Value)
  G : List SG
def AX.L (x : AX) (os : List Ob) (n : Nat) : List (List Blk) := [[(x.a, Obj.cells [Value.slice x.oA os.length x.oc, Value.int .i64 (n : Nat), Value.slice x.tA x.G.length x.tc, Value.map (some x.rb), Value.map (some x.ru)].toArray 87 (0, 0))], x.Rt, [(x.rb, Obj.map x.eb x.cb)], [(x.ru, Obj.map x.eu x.cu)], x.G.flatMap SG.blks]
structure AX.Ok (x : AX) (os : List Ob) (n : Nat) (ro : Ro) : Prop where
  o : Sl ro 2 encOb x.oA x.oc os
  t : OwnS 88 1 x.tA x.G.length x.tc (x.G.flatMap encSG) x.Rt
  eb : MapE encI x.mb x.eb x.cb
  hb : ∀ id, mget x.mb id = ((fid x.G id).map adr).map (fun a => Value.pointer (some a))
  eu : MapE encI x.mu x.eu x.cu
  hu : ∀ th, mget x.mu th = ((fbz x.G th).map adr).map (fun a => Value.pointer (some a))
  g : ∀ g ∈ x.G, OwnD g.A g.cap g.s.tx.ds g.R
  inv : Inv n (x.G.map (·.s))
  n : n ≤ 400
  os : os.length ≤ 100
def PFeed (os : List Ob) (n : Nat) (sts : List St) (e : Ev) (a : Nat) (L : List (List Blk)) : Value → Ro → List (List Blk) → Prop := fun v ro' L' =>
  IfV v ∧ ((isNilI v = true ∧ ∃ y : AX, y.a = a ∧ feedM os n sts e = some (y.G.map (·.s)) ∧ y.Ok os (n + 1) ro' ∧ L' = y.L os (n + 1) ++ L) ∨ (isNilI v = false ∧ feedM os n sts e = none ∧ L' = L))
theorem PMove.form {p : Nat} {A : Option Addr} {cap : Nat} {R : List Blk} {s : St} {r : Option St} {L : List (List Blk)} {v : Value} {ro' : Ro} {L' : List (List Blk)} (h : PMove p A cap R s r L v ro' L') : ∃ A' cap' R' s', L' = [stB p A' cap' s'] :: R' :: L ∧ IfV v ∧ ((isNilI v = true ∧ r = some s' ∧ OwnD A' cap' s'.tx.ds R') ∨ (isNilI v = false ∧ r = none)) := by
  obtain ⟨h1, ⟨h2, s', h3, A', cap', R', h4, h5⟩ | ⟨h2, h3, h4⟩⟩ := h
  · exact ⟨A', cap', R', s', h5, h1, .inl ⟨h2, h3, h4⟩⟩
  · exact ⟨A, cap, R, s, h4, h1, .inr ⟨h2, h3⟩⟩
theorem out_sub {b8 b3 a : Blk} {Rt : List Blk} {rb ru : Blk} {G1 G2 : List SG} {g : SG} {L : List (List Blk)} : ∃ M, M.Perm (List.flatten ([b8] :: [b3] :: [a] :: Rt :: [rb] :: [ru] :: (G1 ++ g :: G2).flatMap SG.blks :: L)) ∧ (List.flatten ([stB g.p g.A g.cap g.s] :: g.R :: [b8] :: [b3] :: [a] :: Rt :: [rb] :: [ru] :: (G1 ++ G2).flatMap SG.blks :: L)).Sublist M :=
  ⟨_, by classical
         rw [List.perm_iff_count]
         intro c
         simp only [SG.blks, List.flatten_cons, List.flatMap_append, List.flatMap_cons, List.count_append, List.count_cons, List.count_nil, List.cons_append, List.nil_append]
         omega, .refl _⟩
theorem back_sub {b8 b3 a : Blk} {Rt : List Blk} {rb ru : Blk} {G1 G2 : List SG} {g : SG} {L : List (List Blk)} : ∃ M, M.Perm (List.flatten ([stB g.p g.A g.cap g.s] :: g.R :: [b8] :: [b3] :: [a] :: Rt :: [rb] :: [ru] :: (G1 ++ G2).flatMap SG.blks :: L)) ∧ (List.flatten ([a] :: Rt :: [rb] :: [ru] :: (G1 ++ g :: G2).flatMap SG.blks :: L)).Sublist M :=
  ⟨b8 :: b3 :: List.flatten ([a] :: Rt :: [rb] :: [ru] :: (G1 ++ g :: G2).flatMap SG.blks :: L), by
         classical
         rw [List.perm_iff_count]
         intro c
         simp only [SG.blks, List.flatten_cons, List.flatMap_append, List.flatMap_cons, List.count_append, List.count_cons, List.count_nil, List.cons_append, List.nil_append]
         omega, (List.Sublist.refl _).cons _ |>.cons _⟩
theorem begin_sub {b3 a : Blk} {Rt : List Blk} {rb ru : Blk} {G : List SG} {g : SG} (hR : g.R = []) {L : List (List Blk)} : ∃ M, M.Perm (List.flatten ([stB g.p g.A g.cap g.s] :: [b3] :: [a] :: Rt :: [rb] :: [ru] :: G.flatMap SG.blks :: L)) ∧ (List.flatten ([a] :: Rt :: [rb] :: [ru] :: (G ++ [g]).flatMap SG.blks :: L)).Sublist M :=
  ⟨b3 :: List.flatten ([a] :: Rt :: [rb] :: [ru] :: (G ++ [g]).flatMap SG.blks :: L), by
         classical
         rw [List.perm_iff_count]
         intro c
         simp only [SG.blks, hR, List.flatten_cons, List.flatMap_append, List.flatMap_cons, List.flatMap_nil, List.count_append, List.count_cons, List.count_nil, List.cons_append, List.nil_append]
         omega, (List.Sublist.refl _).cons _⟩
theorem map_set {G1 G2 : List SG} {g : SG} : (G1 ++ g :: G2).map (·.s) = G1.map (·.s) ++ g.s :: G2.map (·.s) := by simp
theorem feedM_many {os : List Ob} {n : Nat} {sts : List St} {e : Ev} (h : n = 400 ∨ ¬ EvOk e ∨ ¬ EvIn os e) : feedM os n sts e = none := if_pos h

theorem Feed_e (a : Nat) (oA : Option Addr) (oc : Nat) (os : List Ob) (n : Nat) (tA : Option Addr) (tc : Nat) (Rt : List Blk) (rb : Nat) (eb : Array MapEntry) (cb : Nat) (mb : List (Int × Value)) (ru : Nat) (eu : Array MapEntry) (cu : Nat) (mu : List (Int × Value)) (G : List SG) (e : Ev) (he : EvI e) (er : Nat → Addr) (ro : Ro) (L : List (List Blk)) (hG : Glob er ro)
    (ho : Sl ro 2 encOb oA oc os) (ht : OwnS 88 1 tA G.length tc (G.flatMap encSG) Rt) (heb : MapE encI mb eb cb) (hhb : ∀ id, mget mb id = ((fid G id).map adr).map (fun a => Value.pointer (some a))) (heu : MapE encI mu eu cu) (hhu : ∀ th, mget mu th = ((fbz G th).map adr).map (fun a => Value.pointer (some a)))
    (hg : ∀ g ∈ G, OwnD g.A g.cap g.s.tx.ds g.R) (hinv : Inv n (G.map (·.s))) (hn : n ≤ 400) (hos : os.length ≤ 100) :
    CT Tryd.prog 53 [.pointer (some ⟨a, 0, none⟩), .agg (encEv e).toArray].toArray ro ([(a, Obj.cells [Value.slice oA os.length oc, Value.int .i64 (n : Nat), Value.slice tA G.length tc, Value.map (some rb), Value.map (some ru)].toArray 87 (0, 0))] :: Rt :: [(rb, Obj.map eb cb)] :: [(ru, Obj.map eu cu)] :: G.flatMap SG.blks :: L) (PFeed os n (G.map (·.s)) e a L) := by
  have hxx := hinv.len
  refine enter Tryd.func53 rfl Tryd.ntmps53 rfl ?_
  refine seq ?_
  refine region ?_
  refine op (e_box rfl rfl rfl fun b3 => ?_)
  refine op (y (x_assign rfl) rfl ?_)
  refine nil ?_
  refine n_then ?_
  refine seq ?_
  refine seq ?_
  refine region ?_
  refine op (y (x_move rfl) rfl ?_)
  refine op (y (x_nilPtr rfl) rfl ?_)
  refine op (y (x_fieldAddr fo_87_1 rfl) rfl ?_)
  refine op (y (x_load1 ag_3 rfl (by first | assumption | exact Cell.own 0 rfl rfl | exact Cell.own 1 rfl rfl | exact Cell.own 2 rfl rfl | exact Cell.own 3 rfl rfl | exact Cell.own 4 rfl rfl | exact Cell.own 5 rfl rfl | exact Cell.own 6 rfl rfl | exact Cell.own 7 rfl rfl | exact Cell.own 8 rfl rfl | exact Cell.own 9 rfl rfl | exact Cell.ofRo (by assumption))) rfl ?_)
  refine op (y (x_eql rfl rfl) rfl ?_)
  refine nil ?_
  refine n_then ?_
  refine cond rfl (fun h1 => ?_) (fun h1 => ?_)
  · try simp only [decide_eq_true_eq, decide_eq_false_iff_not, beq_iff_eq, bne_iff_ne, ne_eq, beq_eq_false_iff_ne, bne_eq_false_iff_eq, Bool.not_eq_true', Bool.not_eq_false', Bool.not_eq_true, Bool.not_eq_false, Decidable.not_not, Int.not_lt, Int.not_le] at h1
    refine seq ?_
    have hGc := hG.err 2 (by omega)
    refine region ?_
    refine op (y (x_load1 ag_43 rfl (Cell.ofRo hGc)) rfl ?_)
    refine op (y (x_assign rfl) rfl ?_)
    refine nil ?_
    refine n_then ?_
    refine ret ?_
    refine r_then ?_
    exact done rfl (.tmp rfl (.nil)) (Ro.le.refl _) (L) (subF (by (repeat (first | exact List.Sublist.refl _ | apply List.Sublist.cons_cons | apply List.Sublist.cons)); done)) (⟨IfV.mk _ _, .inr ⟨rfl, feedM_many (.inl (by omega)), rfl⟩⟩)
  · try simp only [decide_eq_true_eq, decide_eq_false_iff_not, beq_iff_eq, bne_iff_ne, ne_eq, beq_eq_false_iff_ne, bne_eq_false_iff_eq, Bool.not_eq_true', Bool.not_eq_false', Bool.not_eq_true, Bool.not_eq_false, Decidable.not_not, Int.not_lt, Int.not_le] at h1
    refine skip ?_
    refine n_then ?_
    refine seq ?_
    refine seq ?_
    refine region ?_
    refine op (y ((by first | exact x_loadOwn 0 _ ag_34 rfl rfl rfl rfl | exact x_loadOwn 1 _ ag_34 rfl rfl rfl rfl | exact x_loadOwn 2 _ ag_34 rfl rfl rfl rfl | exact x_loadOwn 3 _ ag_34 rfl rfl rfl rfl | exact x_loadOwn 4 _ ag_34 rfl rfl rfl rfl | exact x_loadOwn 5 _ ag_34 rfl rfl rfl rfl | exact x_loadOwn 6 _ ag_34 rfl rfl rfl rfl | exact x_loadOwn 7 _ ag_34 rfl rfl rfl rfl | exact x_loadOwn 8 _ ag_34 rfl rfl rfl rfl | exact x_loadOwn 9 _ ag_34 rfl rfl rfl rfl | exact x_loadOwn 10 _ ag_34 rfl rfl rfl rfl | exact x_loadOwn 11 _ ag_34 rfl rfl rfl rfl)) rfl ?_)
    refine op (e_call rfl fn_56 rfl rfl (Valid_c e he er _ _ hG) fun v17 ro17 L17 hle17 hp17 => ?_)
    obtain ⟨hv17, hi17, rfl⟩ := hp17
    have hn4 : n ≠ 400 := by omega
    have hG1 := hG.mono hle17
    refine op (y (x_assign rfl) rfl ?_)
    refine nil ?_
    refine n_then ?_
    refine seq ?_
    refine region ?_
    refine op (y (x_move rfl) rfl ?_)
    refine op (y (x_ifNeNil Tryd.underlying43 rfl (by assumption)) rfl ?_)
    refine nil ?_
    refine n_then ?_
    refine cond rfl (fun h4 => ?_) (fun h4 => ?_)
    · try simp only [decide_eq_true_eq, decide_eq_false_iff_not, beq_iff_eq, bne_iff_ne, ne_eq, beq_eq_false_iff_ne, bne_eq_false_iff_eq, Bool.not_eq_true', Bool.not_eq_false', Bool.not_eq_true, Bool.not_eq_false, Decidable.not_not, Int.not_lt, Int.not_le] at h4
      refine seq ?_
      refine region ?_
      refine op (y (x_move rfl) rfl ?_)
      refine op (y (x_assign rfl) rfl ?_)
      refine nil ?_
      refine n_then ?_
      refine ret ?_
      refine r_then ?_
      exact done rfl (.tmp rfl (.nil)) (hle17) (L) (subF (by (repeat (first | exact List.Sublist.refl _ | apply List.Sublist.cons_cons | apply List.Sublist.cons)); done)) (⟨hv17, .inr ⟨h4, feedM_many (.inr (.inl (fun hx => by have := hi17.2 hx; rw [h4] at this; cases this))), rfl⟩⟩)
    · try simp only [decide_eq_true_eq, decide_eq_false_iff_not, beq_iff_eq, bne_iff_ne, ne_eq, beq_eq_false_iff_ne, bne_eq_false_iff_eq, Bool.not_eq_true', Bool.not_eq_false', Bool.not_eq_true, Bool.not_eq_false, Decidable.not_not, Int.not_lt, Int.not_le] at h4
      refine skip ?_
      refine n_then ?_
      refine seqM (fun F ro' L' => (F = [(0, .pointer (some ⟨a, 0, none⟩)), (3, .pointer (some ⟨b3, 0, none⟩))]) ∧ (ro17 = ro') ∧ (L' = [(b3, Obj.cells (encEv e).toArray 34 (0, 0))] :: [(a, Obj.cells [Value.slice oA os.length oc, Value.int .i64 (n : Nat), Value.slice tA G.length tc, Value.map (some rb), Value.map (some ru)].toArray 87 (0, 0))] :: Rt :: [(rb, Obj.map eb cb)] :: [(ru, Obj.map eu cu)] :: G.flatMap SG.blks :: L) ∧ (EvIn os e) ∧ (EvOk e)) ?_ ?_
      · skip
        refine seq ?_
        have hok : EvOk e := hi17.1 (by grind)
        refine region ?_
        refine op (y (x_fieldAddr fo_34_0 rfl) rfl ?_)
        refine op (y (x_load1 ag_3 rfl (by first | assumption | exact Cell.own 0 rfl rfl | exact Cell.own 1 rfl rfl | exact Cell.own 2 rfl rfl | exact Cell.own 3 rfl rfl | exact Cell.own 4 rfl rfl | exact Cell.own 5 rfl rfl | exact Cell.own 6 rfl rfl | exact Cell.own 7 rfl rfl | exact Cell.own 8 rfl rfl | exact Cell.own 9 rfl rfl | exact Cell.ofRo (by assumption))) rfl ?_)
        refine op (y (x_eql rfl rfl) rfl ?_)
        refine nil ?_
        refine n_then ?_
        refine cond rfl (fun h6 => ?_) (fun h6 => ?_)
        · try simp only [decide_eq_true_eq, decide_eq_false_iff_not, beq_iff_eq, bne_iff_ne, ne_eq, beq_eq_false_iff_ne, bne_eq_false_iff_eq, Bool.not_eq_true', Bool.not_eq_false', Bool.not_eq_true, Bool.not_eq_false, Decidable.not_not, Int.not_lt, Int.not_le] at h6
          refine seq ?_
          refine seq ?_
          refine drawL (by kernel_rfl) ?_
          refine d_take 0 rfl (by kernel_rfl) (by kernel_rfl) (by kernel_rfl) (fun _ _ _ h => h) rfl (.inl rfl) (x_fieldAddr fo_34_3 rfl) (fun w hi => by first | exact hi.j | exact J.of_le (Ro.le.refl _) (fun x hx => List.mem_append_right _ hx) hi | exact J.of_le (Ro.le.refl _) (fun x hx => List.mem_append_right _ (List.mem_append_right _ hx)) hi | exact J.of_le (Ro.le.refl _) (fun x hx => absurd hx (by simp)) hi | exact J.of_le (by assumption) (fun x hx => absurd hx (by simp)) hi) ?_
          refine d_take 1 rfl (by kernel_rfl) (by kernel_rfl) (by kernel_rfl) (fun _ _ _ h => h) rfl (.inl rfl) (x_load1 ag_3 rfl (by first | assumption | exact Cell.own 0 rfl rfl | exact Cell.own 1 rfl rfl | exact Cell.own 2 rfl rfl | exact Cell.own 3 rfl rfl | exact Cell.own 4 rfl rfl | exact Cell.own 5 rfl rfl | exact Cell.own 6 rfl rfl | exact Cell.own 7 rfl rfl | exact Cell.own 8 rfl rfl | exact Cell.own 9 rfl rfl | exact Cell.ofRo (by assumption))) (fun w hi => by first | exact hi.j | exact J.of_le (Ro.le.refl _) (fun x hx => List.mem_append_right _ hx) hi | exact J.of_le (Ro.le.refl _) (fun x hx => List.mem_append_right _ (List.mem_append_right _ hx)) hi | exact J.of_le (Ro.le.refl _) (fun x hx => absurd hx (by simp)) hi | exact J.of_le (by assumption) (fun x hx => absurd hx (by simp)) hi) ?_
          refine d_take 2 rfl (by kernel_rfl) (by kernel_rfl) (by kernel_rfl) (fun _ _ _ h => h) rfl (.inl rfl) (x_move rfl) (fun w hi => by first | exact hi.j | exact J.of_le (Ro.le.refl _) (fun x hx => List.mem_append_right _ hx) hi | exact J.of_le (Ro.le.refl _) (fun x hx => List.mem_append_right _ (List.mem_append_right _ hx)) hi | exact J.of_le (Ro.le.refl _) (fun x hx => absurd hx (by simp)) hi | exact J.of_le (by assumption) (fun x hx => absurd hx (by simp)) hi) ?_
          refine d_take 3 rfl (by kernel_rfl) (by kernel_rfl) (by kernel_rfl) (fun _ _ _ h => h) rfl (.inl rfl) (x_nilPtr rfl) (fun w hi => by first | exact hi.j | exact J.of_le (Ro.le.refl _) (fun x hx => List.mem_append_right _ hx) hi | exact J.of_le (Ro.le.refl _) (fun x hx => List.mem_append_right _ (List.mem_append_right _ hx)) hi | exact J.of_le (Ro.le.refl _) (fun x hx => absurd hx (by simp)) hi | exact J.of_le (by assumption) (fun x hx => absurd hx (by simp)) hi) ?_
          refine d_take 4 rfl (by kernel_rfl) (by kernel_rfl) (by kernel_rfl) (fun _ _ _ h => h) rfl (.inl rfl) (x_fieldAddr fo_87_0 rfl) (fun w hi => by first | exact hi.j | exact J.of_le (Ro.le.refl _) (fun x hx => List.mem_append_right _ hx) hi | exact J.of_le (Ro.le.refl _) (fun x hx => List.mem_append_right _ (List.mem_append_right _ hx)) hi | exact J.of_le (Ro.le.refl _) (fun x hx => absurd hx (by simp)) hi | exact J.of_le (by assumption) (fun x hx => absurd hx (by simp)) hi) ?_
          refine d_take 5 rfl (by kernel_rfl) (by kernel_rfl) (by kernel_rfl) (fun _ _ _ h => h) rfl (.inl rfl) (x_load1 ag_22 rfl (by first | assumption | exact Cell.own 0 rfl rfl | exact Cell.own 1 rfl rfl | exact Cell.own 2 rfl rfl | exact Cell.own 3 rfl rfl | exact Cell.own 4 rfl rfl | exact Cell.own 5 rfl rfl | exact Cell.own 6 rfl rfl | exact Cell.own 7 rfl rfl | exact Cell.own 8 rfl rfl | exact Cell.own 9 rfl rfl | exact Cell.ofRo (by assumption))) (fun w hi => by first | exact hi.j | exact J.of_le (Ro.le.refl _) (fun x hx => List.mem_append_right _ hx) hi | exact J.of_le (Ro.le.refl _) (fun x hx => List.mem_append_right _ (List.mem_append_right _ hx)) hi | exact J.of_le (Ro.le.refl _) (fun x hx => absurd hx (by simp)) hi | exact J.of_le (by assumption) (fun x hx => absurd hx (by simp)) hi) ?_
          refine d_take 6 rfl (by kernel_rfl) (by kernel_rfl) (by kernel_rfl) (fun _ _ _ h => h) rfl (.inl rfl) (x_lenSl sz_22 rfl) (fun w hi => by first | exact hi.j | exact J.of_le (Ro.le.refl _) (fun x hx => List.mem_append_right _ hx) hi | exact J.of_le (Ro.le.refl _) (fun x hx => List.mem_append_right _ (List.mem_append_right _ hx)) hi | exact J.of_le (Ro.le.refl _) (fun x hx => absurd hx (by simp)) hi | exact J.of_le (by assumption) (fun x hx => absurd hx (by simp)) hi) ?_
          refine d_take 7 rfl (by kernel_rfl) (by kernel_rfl) (by kernel_rfl) (fun _ _ _ h => h) rfl (.inl rfl) (x_geq rfl rfl) (fun w hi => by first | exact hi.j | exact J.of_le (Ro.le.refl _) (fun x hx => List.mem_append_right _ hx) hi | exact J.of_le (Ro.le.refl _) (fun x hx => List.mem_append_right _ (List.mem_append_right _ hx)) hi | exact J.of_le (Ro.le.refl _) (fun x hx => absurd hx (by simp)) hi | exact J.of_le (by assumption) (fun x hx => absurd hx (by simp)) hi) ?_
          refine d_end (by kernel_rfl) ?_
          refine n_then ?_
          refine cond rfl (fun h7 => ?_) (fun h7 => ?_)
          · try simp only [decide_eq_true_eq, decide_eq_false_iff_not, beq_iff_eq, bne_iff_ne, ne_eq, beq_eq_false_iff_ne, bne_eq_false_iff_eq, Bool.not_eq_true', Bool.not_eq_false', Bool.not_eq_true, Bool.not_eq_false, Decidable.not_not, Int.not_lt, Int.not_le] at h7
            refine seq ?_
            have hGc := hG1.err 3 (by omega)
            refine region ?_
            refine op (y (x_load1 ag_43 rfl (Cell.ofRo hGc)) rfl ?_)
            refine op (y (x_assign rfl) rfl ?_)
            refine nil ?_
            refine n_then ?_
            refine ret ?_
            refine r_then ?_
            refine r_then ?_
            exact done rfl (.tmp rfl (.nil)) (hle17) (L) (subF (by (repeat (first | exact List.Sublist.refl _ | apply List.Sublist.cons_cons | apply List.Sublist.cons)); done)) (⟨IfV.mk _ _, .inr ⟨rfl, feedM_many (.inr (.inr (fun hx => by have := (hx h6).1; omega))), rfl⟩⟩)
          · try simp only [decide_eq_true_eq, decide_eq_false_iff_not, beq_iff_eq, bne_iff_ne, ne_eq, beq_eq_false_iff_ne, bne_eq_false_iff_eq, Bool.not_eq_true', Bool.not_eq_false', Bool.not_eq_true, Bool.not_eq_false, Decidable.not_not, Int.not_lt, Int.not_le] at h7
            refine skip ?_
            refine n_then ?_
            refine seq ?_
            have hob := hok.obj h6
            obtain ⟨oj, hoj⟩ := Int.eq_ofNat_of_zero_le hob.1
            have ho17 := ho.mono hle17
            obtain ⟨bbz, offz, rfl, hcz⟩ := ho17.at_ (i := oj) (by omega)
            have hz := List.getElem?_eq_getElem (show oj < os.length from by omega)
            refine drawL (by kernel_rfl) ?_
            refine d_take 0 rfl (by kernel_rfl) (by kernel_rfl) (by kernel_rfl) (fun _ _ _ h => h) rfl (.inl rfl) (x_fieldAddr fo_34_4 rfl) (fun w hi => by first | exact hi.j | exact J.of_le (Ro.le.refl _) (fun x hx => List.mem_append_right _ hx) hi | exact J.of_le (Ro.le.refl _) (fun x hx => List.mem_append_right _ (List.mem_append_right _ hx)) hi | exact J.of_le (Ro.le.refl _) (fun x hx => absurd hx (by simp)) hi | exact J.of_le (by assumption) (fun x hx => absurd hx (by simp)) hi) ?_
            refine d_take 1 rfl (by kernel_rfl) (by kernel_rfl) (by kernel_rfl) (fun _ _ _ h => h) rfl (.inl rfl) (x_load1 ag_3 rfl (by first | assumption | exact Cell.own 0 rfl rfl | exact Cell.own 1 rfl rfl | exact Cell.own 2 rfl rfl | exact Cell.own 3 rfl rfl | exact Cell.own 4 rfl rfl | exact Cell.own 5 rfl rfl | exact Cell.own 6 rfl rfl | exact Cell.own 7 rfl rfl | exact Cell.own 8 rfl rfl | exact Cell.own 9 rfl rfl | exact Cell.ofRo (by assumption))) (fun w hi => by first | exact hi.j | exact J.of_le (Ro.le.refl _) (fun x hx => List.mem_append_right _ hx) hi | exact J.of_le (Ro.le.refl _) (fun x hx => List.mem_append_right _ (List.mem_append_right _ hx)) hi | exact J.of_le (Ro.le.refl _) (fun x hx => absurd hx (by simp)) hi | exact J.of_le (by assumption) (fun x hx => absurd hx (by simp)) hi) ?_
            refine d_take 3 rfl (by kernel_rfl) (by kernel_rfl) (by kernel_rfl) (fun _ _ _ h => h) rfl (.inl rfl) (x_move rfl) (fun w hi => by first | exact hi.j | exact J.of_le (Ro.le.refl _) (fun x hx => List.mem_append_right _ hx) hi | exact J.of_le (Ro.le.refl _) (fun x hx => List.mem_append_right _ (List.mem_append_right _ hx)) hi | exact J.of_le (Ro.le.refl _) (fun x hx => absurd hx (by simp)) hi | exact J.of_le (by assumption) (fun x hx => absurd hx (by simp)) hi) ?_
            refine d_take 4 rfl (by kernel_rfl) (by kernel_rfl) (by kernel_rfl) (fun _ _ _ h => h) rfl (.inl rfl) (x_nilPtr rfl) (fun w hi => by first | exact hi.j | exact J.of_le (Ro.le.refl _) (fun x hx => List.mem_append_right _ hx) hi | exact J.of_le (Ro.le.refl _) (fun x hx => List.mem_append_right _ (List.mem_append_right _ hx)) hi | exact J.of_le (Ro.le.refl _) (fun x hx => absurd hx (by simp)) hi | exact J.of_le (by assumption) (fun x hx => absurd hx (by simp)) hi) ?_
            refine d_take 5 rfl (by kernel_rfl) (by kernel_rfl) (by kernel_rfl) (fun _ _ _ h => h) rfl (.inl rfl) (x_fieldAddr fo_87_0 rfl) (fun w hi => by first | exact hi.j | exact J.of_le (Ro.le.refl _) (fun x hx => List.mem_append_right _ hx) hi | exact J.of_le (Ro.le.refl _) (fun x hx => List.mem_append_right _ (List.mem_append_right _ hx)) hi | exact J.of_le (Ro.le.refl _) (fun x hx => absurd hx (by simp)) hi | exact J.of_le (by assumption) (fun x hx => absurd hx (by simp)) hi) ?_
            refine d_take 6 rfl (by kernel_rfl) (by kernel_rfl) (by kernel_rfl) (fun _ _ _ h => h) rfl (.inl rfl) (x_load1 ag_22 rfl (by first | assumption | exact Cell.own 0 rfl rfl | exact Cell.own 1 rfl rfl | exact Cell.own 2 rfl rfl | exact Cell.own 3 rfl rfl | exact Cell.own 4 rfl rfl | exact Cell.own 5 rfl rfl | exact Cell.own 6 rfl rfl | exact Cell.own 7 rfl rfl | exact Cell.own 8 rfl rfl | exact Cell.own 9 rfl rfl | exact Cell.ofRo (by assumption))) (fun w hi => by first | exact hi.j | exact J.of_le (Ro.le.refl _) (fun x hx => List.mem_append_right _ hx) hi | exact J.of_le (Ro.le.refl _) (fun x hx => List.mem_append_right _ (List.mem_append_right _ hx)) hi | exact J.of_le (Ro.le.refl _) (fun x hx => absurd hx (by simp)) hi | exact J.of_le (by assumption) (fun x hx => absurd hx (by simp)) hi) ?_
            refine d_take 7 rfl (by kernel_rfl) (by kernel_rfl) (by kernel_rfl) (fun _ _ _ h => h) rfl (.inl rfl) (x_fieldAddr fo_34_3 rfl) (fun w hi => by first | exact hi.j | exact J.of_le (Ro.le.refl _) (fun x hx => List.mem_append_right _ hx) hi | exact J.of_le (Ro.le.refl _) (fun x hx => List.mem_append_right _ (List.mem_append_right _ hx)) hi | exact J.of_le (Ro.le.refl _) (fun x hx => absurd hx (by simp)) hi | exact J.of_le (by assumption) (fun x hx => absurd hx (by simp)) hi) ?_
            refine d_take 8 rfl (by kernel_rfl) (by kernel_rfl) (by kernel_rfl) (fun _ _ _ h => h) rfl (.inl rfl) (x_load1 ag_3 rfl (by first | assumption | exact Cell.own 0 rfl rfl | exact Cell.own 1 rfl rfl | exact Cell.own 2 rfl rfl | exact Cell.own 3 rfl rfl | exact Cell.own 4 rfl rfl | exact Cell.own 5 rfl rfl | exact Cell.own 6 rfl rfl | exact Cell.own 7 rfl rfl | exact Cell.own 8 rfl rfl | exact Cell.own 9 rfl rfl | exact Cell.ofRo (by assumption))) (fun w hi => by first | exact hi.j | exact J.of_le (Ro.le.refl _) (fun x hx => List.mem_append_right _ hx) hi | exact J.of_le (Ro.le.refl _) (fun x hx => List.mem_append_right _ (List.mem_append_right _ hx)) hi | exact J.of_le (Ro.le.refl _) (fun x hx => absurd hx (by simp)) hi | exact J.of_le (by assumption) (fun x hx => absurd hx (by simp)) hi) ?_
            refine said 41 (.int .i64 ((oj : Nat) : Int)) rfl (by show Value.int .i64 e.obj = _; rw [hoj]) ?_
            refine d_take 9 rfl (by kernel_rfl) (by kernel_rfl) (by kernel_rfl) (fun _ _ _ h => h) rfl (.inl rfl) (x_indexNat sz_22 rfl rfl (by omega)) (fun w hi => by first | exact hi.j | exact J.of_le (Ro.le.refl _) (fun x hx => List.mem_append_right _ hx) hi | exact J.of_le (Ro.le.refl _) (fun x hx => List.mem_append_right _ (List.mem_append_right _ hx)) hi | exact J.of_le (Ro.le.refl _) (fun x hx => absurd hx (by simp)) hi | exact J.of_le (by assumption) (fun x hx => absurd hx (by simp)) hi) ?_
            refine d_take 10 rfl (by kernel_rfl) (by kernel_rfl) (by kernel_rfl) (fun _ _ _ h => h) rfl (.inl rfl) (x_fieldAddr fo_31_0 rfl) (fun w hi => by first | exact hi.j | exact J.of_le (Ro.le.refl _) (fun x hx => List.mem_append_right _ hx) hi | exact J.of_le (Ro.le.refl _) (fun x hx => List.mem_append_right _ (List.mem_append_right _ hx)) hi | exact J.of_le (Ro.le.refl _) (fun x hx => absurd hx (by simp)) hi | exact J.of_le (by assumption) (fun x hx => absurd hx (by simp)) hi) ?_
            refine d_take 11 rfl (by kernel_rfl) (by kernel_rfl) (by kernel_rfl) (fun _ _ _ h => h) rfl (.inl rfl) (x_load1 ag_3 rfl (Cell.ofRo (hcz oj _ hz 0 _ rfl))) (fun w hi => by first | exact hi.j | exact J.of_le (Ro.le.refl _) (fun x hx => List.mem_append_right _ hx) hi | exact J.of_le (Ro.le.refl _) (fun x hx => List.mem_append_right _ (List.mem_append_right _ hx)) hi | exact J.of_le (Ro.le.refl _) (fun x hx => absurd hx (by simp)) hi | exact J.of_le (by assumption) (fun x hx => absurd hx (by simp)) hi) ?_
            refine d_one 2 rfl (by kernel_rfl) (.inl rfl) (e_call rfl fn_57 rfl rfl (Of_c _ _ _) fun v35 ro35 L35 hle35 hp35 => ?_)
            obtain ⟨rfl, rfl, rfl⟩ := hp35
            refine d_next (fun w hi => by first | exact hi.j | exact J.of_le (Ro.le.refl _) (fun x hx => List.mem_append_right _ hx) hi | exact J.of_le (Ro.le.refl _) (fun x hx => List.mem_append_right _ (List.mem_append_right _ hx)) hi | exact J.of_le (Ro.le.refl _) (fun x hx => absurd hx (by simp)) hi | exact J.of_le (by assumption) (fun x hx => absurd hx (by simp)) hi) ?_
            refine d_take 12 rfl (by kernel_rfl) (by kernel_rfl) (by kernel_rfl) (fun _ _ _ h => h) rfl (.inl rfl) (x_neq rfl rfl) (fun w hi => by first | exact hi.j | exact J.of_le (Ro.le.refl _) (fun x hx => List.mem_append_right _ hx) hi | exact J.of_le (Ro.le.refl _) (fun x hx => List.mem_append_right _ (List.mem_append_right _ hx)) hi | exact J.of_le (Ro.le.refl _) (fun x hx => absurd hx (by simp)) hi | exact J.of_le (by assumption) (fun x hx => absurd hx (by simp)) hi) ?_
            refine d_end (by kernel_rfl) ?_
            refine n_then ?_
            refine cond rfl (fun h9 => ?_) (fun h9 => ?_)
            · try simp only [decide_eq_true_eq, decide_eq_false_iff_not, beq_iff_eq, bne_iff_ne, ne_eq, beq_eq_false_iff_ne, bne_eq_false_iff_eq, Bool.not_eq_true', Bool.not_eq_false', Bool.not_eq_true, Bool.not_eq_false, Decidable.not_not, Int.not_lt, Int.not_le] at h9
              refine seq ?_
              have hGc := hG1.err 4 (by omega)
              refine region ?_
              refine op (y (x_load1 ag_43 rfl (Cell.ofRo hGc)) rfl ?_)
              refine op (y (x_assign rfl) rfl ?_)
              refine nil ?_
              refine n_then ?_
              refine ret ?_
              refine r_then ?_
              exact done rfl (.tmp rfl (.nil)) (hle17) (L) (subF (by (repeat (first | exact List.Sublist.refl _ | apply List.Sublist.cons_cons | apply List.Sublist.cons)); done)) (⟨IfV.mk _ _, .inr ⟨rfl, feedM_many (.inr (.inr (fun hx => by have h5 := (hx h6).2 _ (by rw [hoj]; exact hz); grind))), rfl⟩⟩)
            · try simp only [decide_eq_true_eq, decide_eq_false_iff_not, beq_iff_eq, bne_iff_ne, ne_eq, beq_eq_false_iff_ne, bne_eq_false_iff_eq, Bool.not_eq_true', Bool.not_eq_false', Bool.not_eq_true, Bool.not_eq_false, Decidable.not_not, Int.not_lt, Int.not_le] at h9
              refine skip ?_
              first | exact mid [(0, .pointer (some ⟨a, 0, none⟩)), (3, .pointer (some ⟨b3, 0, none⟩))] ⟨rfl, rfl, trivial⟩ ⟨rfl, rfl, rfl, fun hk => absurd hk h6, hok⟩ | exact mid [(0, .pointer (some ⟨a, 0, none⟩)), (3, .pointer (some ⟨b3, 0, none⟩))] ⟨rfl, rfl, trivial⟩ ⟨rfl, rfl, rfl, fun _ => ⟨by omega, fun o hoo => by rw [hoj] at hoo; simp only [Int.toNat_natCast] at hoo; rw [hz] at hoo; cases hoo; grind⟩, hok⟩
        · try simp only [decide_eq_true_eq, decide_eq_false_iff_not, beq_iff_eq, bne_iff_ne, ne_eq, beq_eq_false_iff_ne, bne_eq_false_iff_eq, Bool.not_eq_true', Bool.not_eq_false', Bool.not_eq_true, Bool.not_eq_false, Decidable.not_not, Int.not_lt, Int.not_le] at h6
          refine skip ?_
          first | exact mid [(0, .pointer (some ⟨a, 0, none⟩)), (3, .pointer (some ⟨b3, 0, none⟩))] ⟨rfl, rfl, trivial⟩ ⟨rfl, rfl, rfl, fun hk => absurd hk h6, hok⟩ | exact mid [(0, .pointer (some ⟨a, 0, none⟩)), (3, .pointer (some ⟨b3, 0, none⟩))] ⟨rfl, rfl, trivial⟩ ⟨rfl, rfl, rfl, fun _ => ⟨by omega, fun o hoo => by rw [hoj] at hoo; simp only [Int.toNat_natCast] at hoo; rw [hz] at hoo; cases hoo; grind⟩, hok⟩
      · rintro F ro' L' ⟨rfl, rfl, rfl, hin, hok⟩
        refine seq ?_
        refine drawL (by kernel_rfl) ?_
        refine d_take 0 rfl (by kernel_rfl) (by kernel_rfl) (by kernel_rfl) (fun _ _ _ h => h) rfl (.inl rfl) (x_move rfl) (fun w hi => by first | exact hi.j | exact J.of_le (Ro.le.refl _) (fun x hx => List.mem_append_right _ hx) hi | exact J.of_le (Ro.le.refl _) (fun x hx => List.mem_append_right _ (List.mem_append_right _ hx)) hi | exact J.of_le (Ro.le.refl _) (fun x hx => absurd hx (by simp)) hi | exact J.of_le (by assumption) (fun x hx => absurd hx (by simp)) hi) ?_
        refine d_take 1 rfl (by kernel_rfl) (by kernel_rfl) (by kernel_rfl) (fun _ _ _ h => h) rfl (.inl rfl) (x_nilPtr rfl) (fun w hi => by first | exact hi.j | exact J.of_le (Ro.le.refl _) (fun x hx => List.mem_append_right _ hx) hi | exact J.of_le (Ro.le.refl _) (fun x hx => List.mem_append_right _ (List.mem_append_right _ hx)) hi | exact J.of_le (Ro.le.refl _) (fun x hx => absurd hx (by simp)) hi | exact J.of_le (by assumption) (fun x hx => absurd hx (by simp)) hi) ?_
        refine d_take 2 rfl (by kernel_rfl) (by kernel_rfl) (by kernel_rfl) (fun _ _ _ h => h) rfl (.inl rfl) (x_fieldAddr fo_87_3 rfl) (fun w hi => by first | exact hi.j | exact J.of_le (Ro.le.refl _) (fun x hx => List.mem_append_right _ hx) hi | exact J.of_le (Ro.le.refl _) (fun x hx => List.mem_append_right _ (List.mem_append_right _ hx)) hi | exact J.of_le (Ro.le.refl _) (fun x hx => absurd hx (by simp)) hi | exact J.of_le (by assumption) (fun x hx => absurd hx (by simp)) hi) ?_
        refine d_take 3 rfl (by kernel_rfl) (by kernel_rfl) (by kernel_rfl) (fun _ _ _ h => h) rfl (.inl rfl) (x_load1 ag_85 rfl (by first | assumption | exact Cell.own 0 rfl rfl | exact Cell.own 1 rfl rfl | exact Cell.own 2 rfl rfl | exact Cell.own 3 rfl rfl | exact Cell.own 4 rfl rfl | exact Cell.own 5 rfl rfl | exact Cell.own 6 rfl rfl | exact Cell.own 7 rfl rfl | exact Cell.own 8 rfl rfl | exact Cell.own 9 rfl rfl | exact Cell.ofRo (by assumption))) (fun w hi => by first | exact hi.j | exact J.of_le (Ro.le.refl _) (fun x hx => List.mem_append_right _ hx) hi | exact J.of_le (Ro.le.refl _) (fun x hx => List.mem_append_right _ (List.mem_append_right _ hx)) hi | exact J.of_le (Ro.le.refl _) (fun x hx => absurd hx (by simp)) hi | exact J.of_le (by assumption) (fun x hx => absurd hx (by simp)) hi) ?_
        refine d_take 4 rfl (by kernel_rfl) (by kernel_rfl) (by kernel_rfl) (fun _ _ _ h => h) rfl (.inl rfl) (x_fieldAddr fo_34_1 rfl) (fun w hi => by first | exact hi.j | exact J.of_le (Ro.le.refl _) (fun x hx => List.mem_append_right _ hx) hi | exact J.of_le (Ro.le.refl _) (fun x hx => List.mem_append_right _ (List.mem_append_right _ hx)) hi | exact J.of_le (Ro.le.refl _) (fun x hx => absurd hx (by simp)) hi | exact J.of_le (by assumption) (fun x hx => absurd hx (by simp)) hi) ?_
        refine d_take 5 rfl (by kernel_rfl) (by kernel_rfl) (by kernel_rfl) (fun _ _ _ h => h) rfl (.inl rfl) (x_load1 ag_3 rfl (by first | assumption | exact Cell.own 0 rfl rfl | exact Cell.own 1 rfl rfl | exact Cell.own 2 rfl rfl | exact Cell.own 3 rfl rfl | exact Cell.own 4 rfl rfl | exact Cell.own 5 rfl rfl | exact Cell.own 6 rfl rfl | exact Cell.own 7 rfl rfl | exact Cell.own 8 rfl rfl | exact Cell.own 9 rfl rfl | exact Cell.ofRo (by assumption))) (fun w hi => by first | exact hi.j | exact J.of_le (Ro.le.refl _) (fun x hx => List.mem_append_right _ hx) hi | exact J.of_le (Ro.le.refl _) (fun x hx => List.mem_append_right _ (List.mem_append_right _ hx)) hi | exact J.of_le (Ro.le.refl _) (fun x hx => absurd hx (by simp)) hi | exact J.of_le (by assumption) (fun x hx => absurd hx (by simp)) hi) ?_
        refine d_take 6 rfl (by kernel_rfl) (by kernel_rfl) (by kernel_rfl) (fun _ _ _ h => h) rfl (.inl rfl) (x_lookupH2 (v := .pointer ((fid G e.tx).map adr)) (b := (fid G e.tx).isSome) Tryd.underlying85 keI zc_88 rfl rfl (HasMap.own (by simp)) heb (by rw [hhb]; cases fid G e.tx <;> rfl) (by rw [hhb]; cases fid G e.tx <;> rfl)) (fun w hi => by first | exact hi.j | exact J.of_le (Ro.le.refl _) (fun x hx => List.mem_append_right _ hx) hi | exact J.of_le (Ro.le.refl _) (fun x hx => List.mem_append_right _ (List.mem_append_right _ hx)) hi | exact J.of_le (Ro.le.refl _) (fun x hx => absurd hx (by simp)) hi | exact J.of_le (by assumption) (fun x hx => absurd hx (by simp)) hi) ?_
        refine d_take 7 rfl (by kernel_rfl) (by kernel_rfl) (by kernel_rfl) (fun _ _ _ h => h) rfl (.inl rfl) (x_move rfl) (fun w hi => by first | exact hi.j | exact J.of_le (Ro.le.refl _) (fun x hx => List.mem_append_right _ hx) hi | exact J.of_le (Ro.le.refl _) (fun x hx => List.mem_append_right _ (List.mem_append_right _ hx)) hi | exact J.of_le (Ro.le.refl _) (fun x hx => absurd hx (by simp)) hi | exact J.of_le (by assumption) (fun x hx => absurd hx (by simp)) hi) ?_
        refine d_take 8 rfl (by kernel_rfl) (by kernel_rfl) (by kernel_rfl) (fun _ _ _ h => h) rfl (.inl rfl) (x_extract rfl rfl) (fun w hi => by first | exact hi.j | exact J.of_le (Ro.le.refl _) (fun x hx => List.mem_append_right _ hx) hi | exact J.of_le (Ro.le.refl _) (fun x hx => List.mem_append_right _ (List.mem_append_right _ hx)) hi | exact J.of_le (Ro.le.refl _) (fun x hx => absurd hx (by simp)) hi | exact J.of_le (by assumption) (fun x hx => absurd hx (by simp)) hi) ?_
        refine d_take 9 rfl (by kernel_rfl) (by kernel_rfl) (by kernel_rfl) (fun _ _ _ h => h) rfl (.inl rfl) (x_extract rfl rfl) (fun w hi => by first | exact hi.j | exact J.of_le (Ro.le.refl _) (fun x hx => List.mem_append_right _ hx) hi | exact J.of_le (Ro.le.refl _) (fun x hx => List.mem_append_right _ (List.mem_append_right _ hx)) hi | exact J.of_le (Ro.le.refl _) (fun x hx => absurd hx (by simp)) hi | exact J.of_le (by assumption) (fun x hx => absurd hx (by simp)) hi) ?_
        refine d_take 10 rfl (by kernel_rfl) (by kernel_rfl) (by kernel_rfl) (fun _ _ _ h => h) rfl (.inl rfl) (x_assign rfl) (fun w hi => by first | exact hi.j | exact J.of_le (Ro.le.refl _) (fun x hx => List.mem_append_right _ hx) hi | exact J.of_le (Ro.le.refl _) (fun x hx => List.mem_append_right _ (List.mem_append_right _ hx)) hi | exact J.of_le (Ro.le.refl _) (fun x hx => absurd hx (by simp)) hi | exact J.of_le (by assumption) (fun x hx => absurd hx (by simp)) hi) ?_
        refine d_take 11 rfl (by kernel_rfl) (by kernel_rfl) (by kernel_rfl) (fun _ _ _ h => h) rfl (.inl rfl) (x_assign rfl) (fun w hi => by first | exact hi.j | exact J.of_le (Ro.le.refl _) (fun x hx => List.mem_append_right _ hx) hi | exact J.of_le (Ro.le.refl _) (fun x hx => List.mem_append_right _ (List.mem_append_right _ hx)) hi | exact J.of_le (Ro.le.refl _) (fun x hx => absurd hx (by simp)) hi | exact J.of_le (by assumption) (fun x hx => absurd hx (by simp)) hi) ?_
        refine d_end (by kernel_rfl) ?_
        refine n_then ?_
        refine seq ?_
        refine seq ?_
        refine region ?_
        refine op (y (x_fieldAddr fo_34_0 rfl) rfl ?_)
        refine op (y (x_load1 ag_3 rfl (by first | assumption | exact Cell.own 0 rfl rfl | exact Cell.own 1 rfl rfl | exact Cell.own 2 rfl rfl | exact Cell.own 3 rfl rfl | exact Cell.own 4 rfl rfl | exact Cell.own 5 rfl rfl | exact Cell.own 6 rfl rfl | exact Cell.own 7 rfl rfl | exact Cell.own 8 rfl rfl | exact Cell.own 9 rfl rfl | exact Cell.ofRo (by assumption))) rfl ?_)
        refine op (y (x_eql rfl rfl) rfl ?_)
        refine nil ?_
        refine n_then ?_
        refine cond rfl (fun h12 => ?_) (fun h12 => ?_)
        · try simp only [decide_eq_true_eq, decide_eq_false_iff_not, beq_iff_eq, bne_iff_ne, ne_eq, beq_eq_false_iff_ne, bne_eq_false_iff_eq, Bool.not_eq_true', Bool.not_eq_false', Bool.not_eq_true, Bool.not_eq_false, Decidable.not_not, Int.not_lt, Int.not_le] at h12
          refine seq ?_
          refine block ?_
          refine seq ?_
          refine region ?_
          refine op (y (x_move rfl) rfl ?_)
          refine op (y (x_assign rfl) rfl ?_)
          refine nil ?_
          refine n_then ?_
          refine cond rfl (fun h13 => ?_) (fun h13 => ?_)
          · try simp only [decide_eq_true_eq, decide_eq_false_iff_not, beq_iff_eq, bne_iff_ne, ne_eq, beq_eq_false_iff_ne, bne_eq_false_iff_eq, Bool.not_eq_true', Bool.not_eq_false', Bool.not_eq_true, Bool.not_eq_false, Decidable.not_not, Int.not_lt, Int.not_le] at h13
            refine seq ?_
            have hGc := hG1.err 5 (by omega)
            refine region ?_
            refine op (y (x_load1 ag_43 rfl (Cell.ofRo hGc)) rfl ?_)
            refine op (y (x_assign rfl) rfl ?_)
            refine nil ?_
            refine n_then ?_
            refine ret ?_
            refine r_in ?_
            refine r_then ?_
            refine r_then ?_
            exact done rfl (.tmp rfl (.nil)) (hle17) (L) (subF (by (repeat (first | exact List.Sublist.refl _ | apply List.Sublist.cons_cons | apply List.Sublist.cons)); done)) (⟨IfV.mk _ _, .inr ⟨rfl, by rw [feedM_beg hn4 hok hin h12, if_pos (.inl (Classical.byContradiction fun hx => by rw [← fid_none, h13] at hx; cases hx))], rfl⟩⟩)
          · try simp only [decide_eq_true_eq, decide_eq_false_iff_not, beq_iff_eq, bne_iff_ne, ne_eq, beq_eq_false_iff_ne, bne_eq_false_iff_eq, Bool.not_eq_true', Bool.not_eq_false', Bool.not_eq_true, Bool.not_eq_false, Decidable.not_not, Int.not_lt, Int.not_le] at h13
            refine seq ?_
            refine drawL (by kernel_rfl) ?_
            refine d_take 0 rfl (by kernel_rfl) (by kernel_rfl) (by kernel_rfl) (fun _ _ _ h => h) rfl (.inl rfl) (x_move rfl) (fun w hi => by first | exact hi.j | exact J.of_le (Ro.le.refl _) (fun x hx => List.mem_append_right _ hx) hi | exact J.of_le (Ro.le.refl _) (fun x hx => List.mem_append_right _ (List.mem_append_right _ hx)) hi | exact J.of_le (Ro.le.refl _) (fun x hx => absurd hx (by simp)) hi | exact J.of_le (by assumption) (fun x hx => absurd hx (by simp)) hi) ?_
            refine d_take 1 rfl (by kernel_rfl) (by kernel_rfl) (by kernel_rfl) (fun _ _ _ h => h) rfl (.inl rfl) (x_nilPtr rfl) (fun w hi => by first | exact hi.j | exact J.of_le (Ro.le.refl _) (fun x hx => List.mem_append_right _ hx) hi | exact J.of_le (Ro.le.refl _) (fun x hx => List.mem_append_right _ (List.mem_append_right _ hx)) hi | exact J.of_le (Ro.le.refl _) (fun x hx => absurd hx (by simp)) hi | exact J.of_le (by assumption) (fun x hx => absurd hx (by simp)) hi) ?_
            refine d_take 2 rfl (by kernel_rfl) (by kernel_rfl) (by kernel_rfl) (fun _ _ _ h => h) rfl (.inl rfl) (x_fieldAddr fo_87_4 rfl) (fun w hi => by first | exact hi.j | exact J.of_le (Ro.le.refl _) (fun x hx => List.mem_append_right _ hx) hi | exact J.of_le (Ro.le.refl _) (fun x hx => List.mem_append_right _ (List.mem_append_right _ hx)) hi | exact J.of_le (Ro.le.refl _) (fun x hx => absurd hx (by simp)) hi | exact J.of_le (by assumption) (fun x hx => absurd hx (by simp)) hi) ?_
            refine d_take 3 rfl (by kernel_rfl) (by kernel_rfl) (by kernel_rfl) (fun _ _ _ h => h) rfl (.inl rfl) (x_load1 ag_85 rfl (by first | assumption | exact Cell.own 0 rfl rfl | exact Cell.own 1 rfl rfl | exact Cell.own 2 rfl rfl | exact Cell.own 3 rfl rfl | exact Cell.own 4 rfl rfl | exact Cell.own 5 rfl rfl | exact Cell.own 6 rfl rfl | exact Cell.own 7 rfl rfl | exact Cell.own 8 rfl rfl | exact Cell.own 9 rfl rfl | exact Cell.ofRo (by assumption))) (fun w hi => by first | exact hi.j | exact J.of_le (Ro.le.refl _) (fun x hx => List.mem_append_right _ hx) hi | exact J.of_le (Ro.le.refl _) (fun x hx => List.mem_append_right _ (List.mem_append_right _ hx)) hi | exact J.of_le (Ro.le.refl _) (fun x hx => absurd hx (by simp)) hi | exact J.of_le (by assumption) (fun x hx => absurd hx (by simp)) hi) ?_
            refine d_take 4 rfl (by kernel_rfl) (by kernel_rfl) (by kernel_rfl) (fun _ _ _ h => h) rfl (.inl rfl) (x_fieldAddr fo_34_2 rfl) (fun w hi => by first | exact hi.j | exact J.of_le (Ro.le.refl _) (fun x hx => List.mem_append_right _ hx) hi | exact J.of_le (Ro.le.refl _) (fun x hx => List.mem_append_right _ (List.mem_append_right _ hx)) hi | exact J.of_le (Ro.le.refl _) (fun x hx => absurd hx (by simp)) hi | exact J.of_le (by assumption) (fun x hx => absurd hx (by simp)) hi) ?_
            refine d_take 5 rfl (by kernel_rfl) (by kernel_rfl) (by kernel_rfl) (fun _ _ _ h => h) rfl (.inl rfl) (x_load1 ag_3 rfl (by first | assumption | exact Cell.own 0 rfl rfl | exact Cell.own 1 rfl rfl | exact Cell.own 2 rfl rfl | exact Cell.own 3 rfl rfl | exact Cell.own 4 rfl rfl | exact Cell.own 5 rfl rfl | exact Cell.own 6 rfl rfl | exact Cell.own 7 rfl rfl | exact Cell.own 8 rfl rfl | exact Cell.own 9 rfl rfl | exact Cell.ofRo (by assumption))) (fun w hi => by first | exact hi.j | exact J.of_le (Ro.le.refl _) (fun x hx => List.mem_append_right _ hx) hi | exact J.of_le (Ro.le.refl _) (fun x hx => List.mem_append_right _ (List.mem_append_right _ hx)) hi | exact J.of_le (Ro.le.refl _) (fun x hx => absurd hx (by simp)) hi | exact J.of_le (by assumption) (fun x hx => absurd hx (by simp)) hi) ?_
            refine d_take 6 rfl (by kernel_rfl) (by kernel_rfl) (by kernel_rfl) (fun _ _ _ h => h) rfl (.inl rfl) (x_lookupH (v := .pointer ((fbz G e.thread).map adr)) Tryd.underlying85 keI zc_88 rfl rfl (HasMap.own (by simp)) heu (by rw [hhu]; cases fbz G e.thread <;> rfl)) (fun w hi => by first | exact hi.j | exact J.of_le (Ro.le.refl _) (fun x hx => List.mem_append_right _ hx) hi | exact J.of_le (Ro.le.refl _) (fun x hx => List.mem_append_right _ (List.mem_append_right _ hx)) hi | exact J.of_le (Ro.le.refl _) (fun x hx => absurd hx (by simp)) hi | exact J.of_le (by assumption) (fun x hx => absurd hx (by simp)) hi) ?_
            refine d_take 7 rfl (by kernel_rfl) (by kernel_rfl) (by kernel_rfl) (fun _ _ _ h => h) rfl (.inl rfl) (x_ptrNeO Tryd.underlying88 rfl rfl) (fun w hi => by first | exact hi.j | exact J.of_le (Ro.le.refl _) (fun x hx => List.mem_append_right _ hx) hi | exact J.of_le (Ro.le.refl _) (fun x hx => List.mem_append_right _ (List.mem_append_right _ hx)) hi | exact J.of_le (Ro.le.refl _) (fun x hx => absurd hx (by simp)) hi | exact J.of_le (by assumption) (fun x hx => absurd hx (by simp)) hi) ?_
            refine d_take 8 rfl (by kernel_rfl) (by kernel_rfl) (by kernel_rfl) (fun _ _ _ h => h) rfl (.inl rfl) (x_assign rfl) (fun w hi => by first | exact hi.j | exact J.of_le (Ro.le.refl _) (fun x hx => List.mem_append_right _ hx) hi | exact J.of_le (Ro.le.refl _) (fun x hx => List.mem_append_right _ (List.mem_append_right _ hx)) hi | exact J.of_le (Ro.le.refl _) (fun x hx => absurd hx (by simp)) hi | exact J.of_le (by assumption) (fun x hx => absurd hx (by simp)) hi) ?_
            refine d_end (by kernel_rfl) ?_
            refine n_then ?_
            refine cond rfl (fun h15 => ?_) (fun h15 => ?_)
            · try simp only [decide_eq_true_eq, decide_eq_false_iff_not, beq_iff_eq, bne_iff_ne, ne_eq, beq_eq_false_iff_ne, bne_eq_false_iff_eq, Bool.not_eq_true', Bool.not_eq_false', Bool.not_eq_true, Bool.not_eq_false, Decidable.not_not, Int.not_lt, Int.not_le] at h15
              refine seq ?_
              have hGc := hG1.err 6 (by omega)
              refine region ?_
              refine op (y (x_load1 ag_43 rfl (Cell.ofRo hGc)) rfl ?_)
              refine op (y (x_assign rfl) rfl ?_)
              refine nil ?_
              refine n_then ?_
              refine ret ?_
              refine r_in ?_
              refine r_then ?_
              refine r_then ?_
              exact done rfl (.tmp rfl (.nil)) (hle17) (L) (subF (by (repeat (first | exact List.Sublist.refl _ | apply List.Sublist.cons_cons | apply List.Sublist.cons)); done)) (⟨IfV.mk _ _, .inr ⟨rfl, by rw [feedM_beg hn4 hok hin h12, if_pos (.inr (Classical.byContradiction fun hx => by rw [← fbz_none] at hx; rw [Option.isSome_map, hx] at h15; cases h15))], rfl⟩⟩)
            · try simp only [decide_eq_true_eq, decide_eq_false_iff_not, beq_iff_eq, bne_iff_ne, ne_eq, beq_eq_false_iff_ne, bne_eq_false_iff_eq, Bool.not_eq_true', Bool.not_eq_false', Bool.not_eq_true, Bool.not_eq_false, Decidable.not_not, Int.not_lt, Int.not_le] at h15
              refine skip ?_
              refine n_in ?_
              refine n_then ?_
              refine seq ?_
              have hno1 : (fid G e.tx).isSome = false := h13
              have hno2 : (fbz G e.thread).isSome = false := by rw [Option.isSome_map] at h15; exact h15
              have hfeed : feedM os n (G.map (·.s)) e = some (G.map (·.s) ++ [⟨⟨e.tx, e.thread, 1, n, -1, -1, []⟩, 1⟩]) := by
                rw [feedM_beg hn4 hok hin h12, if_neg]
                rintro (hx | hx)
                · exact fid_none.1 hno1 hx
                · exact fbz_none.1 hno2 hx
              have hGl : G.length ≤ 400 := by have := hinv.len; simp at this; omega
              refine drawL (by kernel_rfl) ?_
              refine d_take 0 rfl (by kernel_rfl) (by kernel_rfl) (by kernel_rfl) (fun _ _ _ h => h) rfl (.inl rfl) (x_fieldAddr fo_34_1 rfl) (fun w hi => by first | exact hi.j | exact J.of_le (Ro.le.refl _) (fun x hx => List.mem_append_right _ hx) hi | exact J.of_le (Ro.le.refl _) (fun x hx => List.mem_append_right _ (List.mem_append_right _ hx)) hi | exact J.of_le (Ro.le.refl _) (fun x hx => absurd hx (by simp)) hi | exact J.of_le (by assumption) (fun x hx => absurd hx (by simp)) hi) ?_
              refine d_take 1 rfl (by kernel_rfl) (by kernel_rfl) (by kernel_rfl) (fun _ _ _ h => h) rfl (.inl rfl) (x_load1 ag_3 rfl (by first | assumption | exact Cell.own 0 rfl rfl | exact Cell.own 1 rfl rfl | exact Cell.own 2 rfl rfl | exact Cell.own 3 rfl rfl | exact Cell.own 4 rfl rfl | exact Cell.own 5 rfl rfl | exact Cell.own 6 rfl rfl | exact Cell.own 7 rfl rfl | exact Cell.own 8 rfl rfl | exact Cell.own 9 rfl rfl | exact Cell.ofRo (by assumption))) (fun w hi => by first | exact hi.j | exact J.of_le (Ro.le.refl _) (fun x hx => List.mem_append_right _ hx) hi | exact J.of_le (Ro.le.refl _) (fun x hx => List.mem_append_right _ (List.mem_append_right _ hx)) hi | exact J.of_le (Ro.le.refl _) (fun x hx => absurd hx (by simp)) hi | exact J.of_le (by assumption) (fun x hx => absurd hx (by simp)) hi) ?_
              refine d_take 2 rfl (by kernel_rfl) (by kernel_rfl) (by kernel_rfl) (fun _ _ _ h => h) rfl (.inl rfl) (x_fieldAddr fo_34_2 rfl) (fun w hi => by first | exact hi.j | exact J.of_le (Ro.le.refl _) (fun x hx => List.mem_append_right _ hx) hi | exact J.of_le (Ro.le.refl _) (fun x hx => List.mem_append_right _ (List.mem_append_right _ hx)) hi | exact J.of_le (Ro.le.refl _) (fun x hx => absurd hx (by simp)) hi | exact J.of_le (by assumption) (fun x hx => absurd hx (by simp)) hi) ?_
              refine d_take 3 rfl (by kernel_rfl) (by kernel_rfl) (by kernel_rfl) (fun _ _ _ h => h) rfl (.inl rfl) (x_load1 ag_3 rfl (by first | assumption | exact Cell.own 0 rfl rfl | exact Cell.own 1 rfl rfl | exact Cell.own 2 rfl rfl | exact Cell.own 3 rfl rfl | exact Cell.own 4 rfl rfl | exact Cell.own 5 rfl rfl | exact Cell.own 6 rfl rfl | exact Cell.own 7 rfl rfl | exact Cell.own 8 rfl rfl | exact Cell.own 9 rfl rfl | exact Cell.ofRo (by assumption))) (fun w hi => by first | exact hi.j | exact J.of_le (Ro.le.refl _) (fun x hx => List.mem_append_right _ hx) hi | exact J.of_le (Ro.le.refl _) (fun x hx => List.mem_append_right _ (List.mem_append_right _ hx)) hi | exact J.of_le (Ro.le.refl _) (fun x hx => absurd hx (by simp)) hi | exact J.of_le (by assumption) (fun x hx => absurd hx (by simp)) hi) ?_
              refine d_take 4 rfl (by kernel_rfl) (by kernel_rfl) (by kernel_rfl) (fun _ _ _ h => h) rfl (.inl rfl) (x_move rfl) (fun w hi => by first | exact hi.j | exact J.of_le (Ro.le.refl _) (fun x hx => List.mem_append_right _ hx) hi | exact J.of_le (Ro.le.refl _) (fun x hx => List.mem_append_right _ (List.mem_append_right _ hx)) hi | exact J.of_le (Ro.le.refl _) (fun x hx => absurd hx (by simp)) hi | exact J.of_le (by assumption) (fun x hx => absurd hx (by simp)) hi) ?_
              refine d_take 5 rfl (by kernel_rfl) (by kernel_rfl) (by kernel_rfl) (fun _ _ _ h => h) rfl (.inl rfl) (x_nilPtr rfl) (fun w hi => by first | exact hi.j | exact J.of_le (Ro.le.refl _) (fun x hx => List.mem_append_right _ hx) hi | exact J.of_le (Ro.le.refl _) (fun x hx => List.mem_append_right _ (List.mem_append_right _ hx)) hi | exact J.of_le (Ro.le.refl _) (fun x hx => absurd hx (by simp)) hi | exact J.of_le (by assumption) (fun x hx => absurd hx (by simp)) hi) ?_
              refine d_take 6 rfl (by kernel_rfl) (by kernel_rfl) (by kernel_rfl) (fun _ _ _ h => h) rfl (.inl rfl) (x_fieldAddr fo_87_1 rfl) (fun w hi => by first | exact hi.j | exact J.of_le (Ro.le.refl _) (fun x hx => List.mem_append_right _ hx) hi | exact J.of_le (Ro.le.refl _) (fun x hx => List.mem_append_right _ (List.mem_append_right _ hx)) hi | exact J.of_le (Ro.le.refl _) (fun x hx => absurd hx (by simp)) hi | exact J.of_le (by assumption) (fun x hx => absurd hx (by simp)) hi) ?_
              refine d_take 7 rfl (by kernel_rfl) (by kernel_rfl) (by kernel_rfl) (fun _ _ _ h => h) rfl (.inl rfl) (x_load1 ag_3 rfl (by first | assumption | exact Cell.own 0 rfl rfl | exact Cell.own 1 rfl rfl | exact Cell.own 2 rfl rfl | exact Cell.own 3 rfl rfl | exact Cell.own 4 rfl rfl | exact Cell.own 5 rfl rfl | exact Cell.own 6 rfl rfl | exact Cell.own 7 rfl rfl | exact Cell.own 8 rfl rfl | exact Cell.own 9 rfl rfl | exact Cell.ofRo (by assumption))) (fun w hi => by first | exact hi.j | exact J.of_le (Ro.le.refl _) (fun x hx => List.mem_append_right _ hx) hi | exact J.of_le (Ro.le.refl _) (fun x hx => List.mem_append_right _ (List.mem_append_right _ hx)) hi | exact J.of_le (Ro.le.refl _) (fun x hx => absurd hx (by simp)) hi | exact J.of_le (by assumption) (fun x hx => absurd hx (by simp)) hi) ?_
              refine d_take 8 rfl (by kernel_rfl) (by kernel_rfl) (by kernel_rfl) (fun _ _ _ h => h) rfl (.inl rfl) (x_build bu_61 rfl rfl) (fun w hi => by first | exact hi.j | exact J.of_le (Ro.le.refl _) (fun x hx => List.mem_append_right _ hx) hi | exact J.of_le (Ro.le.refl _) (fun x hx => List.mem_append_right _ (List.mem_append_right _ hx)) hi | exact J.of_le (Ro.le.refl _) (fun x hx => absurd hx (by simp)) hi | exact J.of_le (by assumption) (fun x hx => absurd hx (by simp)) hi) ?_
              refine d_take 9 rfl (by kernel_rfl) (by kernel_rfl) (by kernel_rfl) (fun _ _ _ h => h) rfl (.inl rfl) (x_build bu_90 rfl rfl) (fun w hi => by first | exact hi.j | exact J.of_le (Ro.le.refl _) (fun x hx => List.mem_append_right _ hx) hi | exact J.of_le (Ro.le.refl _) (fun x hx => List.mem_append_right _ (List.mem_append_right _ hx)) hi | exact J.of_le (Ro.le.refl _) (fun x hx => absurd hx (by simp)) hi | exact J.of_le (by assumption) (fun x hx => absurd hx (by simp)) hi) ?_
              refine d_one 10 rfl (by kernel_rfl) (.inl rfl) (e_box rfl rfl rfl fun b83 => ?_)
              refine d_next (fun w hi => by first | exact hi.j | exact J.of_le (Ro.le.refl _) (fun x hx => List.mem_append_right _ hx) hi | exact J.of_le (Ro.le.refl _) (fun x hx => List.mem_append_right _ (List.mem_append_right _ hx)) hi | exact J.of_le (Ro.le.refl _) (fun x hx => absurd hx (by simp)) hi | exact J.of_le (by assumption) (fun x hx => absurd hx (by simp)) hi) ?_
              refine d_take 11 rfl (by kernel_rfl) (by kernel_rfl) (by kernel_rfl) (fun _ _ _ h => h) rfl (.inl rfl) (x_assign rfl) (fun w hi => by first | exact hi.j | exact J.of_le (Ro.le.refl _) (fun x hx => List.mem_append_right _ hx) hi | exact J.of_le (Ro.le.refl _) (fun x hx => List.mem_append_right _ (List.mem_append_right _ hx)) hi | exact J.of_le (Ro.le.refl _) (fun x hx => absurd hx (by simp)) hi | exact J.of_le (by assumption) (fun x hx => absurd hx (by simp)) hi) ?_
              refine d_end (by kernel_rfl) ?_
              refine n_then ?_
              refine seq ?_
              refine region ?_
              refine op (y (x_move rfl) rfl ?_)
              refine op (y (x_move rfl) rfl ?_)
              refine op (y (x_nilPtr rfl) rfl ?_)
              refine op (y (x_fieldAddr fo_87_2 rfl) rfl ?_)
              refine op (y (x_load1 ag_84 rfl (by first | assumption | exact Cell.own 0 rfl rfl | exact Cell.own 1 rfl rfl | exact Cell.own 2 rfl rfl | exact Cell.own 3 rfl rfl | exact Cell.own 4 rfl rfl | exact Cell.own 5 rfl rfl | exact Cell.own 6 rfl rfl | exact Cell.own 7 rfl rfl | exact Cell.own 8 rfl rfl | exact Cell.own 9 rfl rfl | exact Cell.ofRo (by assumption))) rfl ?_)
              refine op (y (x_move rfl) rfl ?_)
              refine op (e_slice1 rfl Tryd.underlying84 ti_88 rfl rfl (by decide) (by decide) rfl rfl rfl fun b90 => ?_)
              refine op (e_append1 3 rfl st_84 rfl rfl rfl ht rfl rfl (by omega) (by omega) (fun _ => rfl) fun A91 cap91 R91 hO91 => ?_)
              refine said 91 (.slice A91 (G ++ [(⟨b83, none, 0, [], ⟨⟨e.tx, e.thread, 1, n, -1, -1, []⟩, 1⟩⟩ : SG)]).length cap91) rfl (by simp) ?_
              refine op (y (x_nilPtr rfl) rfl ?_)
              refine op (y (x_fieldAddr fo_87_2 rfl) rfl ?_)
              first | refine op (e_store 0 rfl rfl ts_84 rfl rfl rfl rfl rfl rfl ?_) | refine op (e_store 1 rfl rfl ts_84 rfl rfl rfl rfl rfl rfl ?_) | refine op (e_store 2 rfl rfl ts_84 rfl rfl rfl rfl rfl rfl ?_) | refine op (e_store 3 rfl rfl ts_84 rfl rfl rfl rfl rfl rfl ?_) | refine op (e_store 4 rfl rfl ts_84 rfl rfl rfl rfl rfl rfl ?_) | refine op (e_store 5 rfl rfl ts_84 rfl rfl rfl rfl rfl rfl ?_) | refine op (e_store 6 rfl rfl ts_84 rfl rfl rfl rfl rfl rfl ?_) | refine op (e_store 7 rfl rfl ts_84 rfl rfl rfl rfl rfl rfl ?_) | refine op (e_store 8 rfl rfl ts_84 rfl rfl rfl rfl rfl rfl ?_) | refine op (e_store 9 rfl rfl ts_84 rfl rfl rfl rfl rfl rfl ?_)
              refine nil ?_
              refine n_then ?_
              refine seq ?_
              refine draw (List.flatten [[(b3, Obj.cells (encEv e).toArray 34 (0, 0))], [(a, Obj.cells [Value.slice oA os.length oc, Value.int .i64 (n : Nat), Value.slice A91 (G ++ [(⟨b83, none, 0, [], ⟨⟨e.tx, e.thread, 1, n, -1, -1, []⟩, 1⟩⟩ : SG)]).length cap91, Value.map (some rb), Value.map (some ru)].toArray 87 (0, 0))]]) (by kernel_rfl) ?_
              refine d_take 0 rfl (by kernel_rfl) (by kernel_rfl) (by kernel_rfl) (fun _ _ _ h => h) rfl (.inl rfl) (x_move rfl) (fun w hi => J.of_le (by first | exact Ro.le.refl _ ) (fun x hx => by simp only [List.flatten_cons, List.flatten_nil, List.append_nil, List.nil_append, List.cons_append, List.mem_cons, List.mem_singleton, List.not_mem_nil, or_false] at hx; rcases hx with rfl | rfl | rfl <;> simp) hi) ?_
              refine d_take 1 rfl (by kernel_rfl) (by kernel_rfl) (by kernel_rfl) (fun _ _ _ h => h) rfl (.inl rfl) (x_nilPtr rfl) (fun w hi => J.of_le (by first | exact Ro.le.refl _ ) (fun x hx => by simp only [List.flatten_cons, List.flatten_nil, List.append_nil, List.nil_append, List.cons_append, List.mem_cons, List.mem_singleton, List.not_mem_nil, or_false] at hx; rcases hx with rfl | rfl | rfl <;> simp) hi) ?_
              refine d_take 2 rfl (by kernel_rfl) (by kernel_rfl) (by kernel_rfl) (fun _ _ _ h => h) rfl (.inl rfl) (x_fieldAddr fo_87_3 rfl) (fun w hi => J.of_le (by first | exact Ro.le.refl _ ) (fun x hx => by simp only [List.flatten_cons, List.flatten_nil, List.append_nil, List.nil_append, List.cons_append, List.mem_cons, List.mem_singleton, List.not_mem_nil, or_false] at hx; rcases hx with rfl | rfl | rfl <;> simp) hi) ?_
              refine d_take 3 rfl (by kernel_rfl) (by kernel_rfl) (by kernel_rfl) (fun _ _ _ h => h) rfl (.inl rfl) (x_load1 ag_85 rfl (by first | assumption | exact Cell.own 0 rfl rfl | exact Cell.own 1 rfl rfl | exact Cell.own 2 rfl rfl | exact Cell.own 3 rfl rfl | exact Cell.own 4 rfl rfl | exact Cell.own 5 rfl rfl | exact Cell.own 6 rfl rfl | exact Cell.own 7 rfl rfl | exact Cell.own 8 rfl rfl | exact Cell.own 9 rfl rfl | exact Cell.ofRo (by assumption))) (fun w hi => J.of_le (by first | exact Ro.le.refl _ ) (fun x hx => by simp only [List.flatten_cons, List.flatten_nil, List.append_nil, List.nil_append, List.cons_append, List.mem_cons, List.mem_singleton, List.not_mem_nil, or_false] at hx; rcases hx with rfl | rfl | rfl <;> simp) hi) ?_
              refine d_take 4 rfl (by kernel_rfl) (by kernel_rfl) (by kernel_rfl) (fun _ _ _ h => h) rfl (.inl rfl) (x_fieldAddr fo_34_1 rfl) (fun w hi => J.of_le (by first | exact Ro.le.refl _ ) (fun x hx => by simp only [List.flatten_cons, List.flatten_nil, List.append_nil, List.nil_append, List.cons_append, List.mem_cons, List.mem_singleton, List.not_mem_nil, or_false] at hx; rcases hx with rfl | rfl | rfl <;> simp) hi) ?_
              refine d_take 5 rfl (by kernel_rfl) (by kernel_rfl) (by kernel_rfl) (fun _ _ _ h => h) rfl (.inl rfl) (x_load1 ag_3 rfl (by first | assumption | exact Cell.own 0 rfl rfl | exact Cell.own 1 rfl rfl | exact Cell.own 2 rfl rfl | exact Cell.own 3 rfl rfl | exact Cell.own 4 rfl rfl | exact Cell.own 5 rfl rfl | exact Cell.own 6 rfl rfl | exact Cell.own 7 rfl rfl | exact Cell.own 8 rfl rfl | exact Cell.own 9 rfl rfl | exact Cell.ofRo (by assumption))) (fun w hi => J.of_le (by first | exact Ro.le.refl _ ) (fun x hx => by simp only [List.flatten_cons, List.flatten_nil, List.append_nil, List.nil_append, List.cons_append, List.mem_cons, List.mem_singleton, List.not_mem_nil, or_false] at hx; rcases hx with rfl | rfl | rfl <;> simp) hi) ?_
              refine d_take 6 rfl (by kernel_rfl) (by kernel_rfl) (by kernel_rfl) (fun _ _ _ h => h) rfl (.inl rfl) (x_move rfl) (fun w hi => J.of_le (by first | exact Ro.le.refl _ ) (fun x hx => by simp only [List.flatten_cons, List.flatten_nil, List.append_nil, List.nil_append, List.cons_append, List.mem_cons, List.mem_singleton, List.not_mem_nil, or_false] at hx; rcases hx with rfl | rfl | rfl <;> simp) hi) ?_
              refine d_take 7 rfl (by kernel_rfl) (by kernel_rfl) (by kernel_rfl) (fun _ _ _ h => h) rfl (.inl rfl) (x_nilPtr rfl) (fun w hi => J.of_le (by first | exact Ro.le.refl _ ) (fun x hx => by simp only [List.flatten_cons, List.flatten_nil, List.append_nil, List.nil_append, List.cons_append, List.mem_cons, List.mem_singleton, List.not_mem_nil, or_false] at hx; rcases hx with rfl | rfl | rfl <;> simp) hi) ?_
              refine d_take 8 rfl (by kernel_rfl) (by kernel_rfl) (by kernel_rfl) (fun _ _ _ h => h) rfl (.inl rfl) (x_fieldAddr fo_87_4 rfl) (fun w hi => J.of_le (by first | exact Ro.le.refl _ ) (fun x hx => by simp only [List.flatten_cons, List.flatten_nil, List.append_nil, List.nil_append, List.cons_append, List.mem_cons, List.mem_singleton, List.not_mem_nil, or_false] at hx; rcases hx with rfl | rfl | rfl <;> simp) hi) ?_
              refine d_take 9 rfl (by kernel_rfl) (by kernel_rfl) (by kernel_rfl) (fun _ _ _ h => h) rfl (.inl rfl) (x_load1 ag_85 rfl (by first | assumption | exact Cell.own 0 rfl rfl | exact Cell.own 1 rfl rfl | exact Cell.own 2 rfl rfl | exact Cell.own 3 rfl rfl | exact Cell.own 4 rfl rfl | exact Cell.own 5 rfl rfl | exact Cell.own 6 rfl rfl | exact Cell.own 7 rfl rfl | exact Cell.own 8 rfl rfl | exact Cell.own 9 rfl rfl | exact Cell.ofRo (by assumption))) (fun w hi => J.of_le (by first | exact Ro.le.refl _ ) (fun x hx => by simp only [List.flatten_cons, List.flatten_nil, List.append_nil, List.nil_append, List.cons_append, List.mem_cons, List.mem_singleton, List.not_mem_nil, or_false] at hx; rcases hx with rfl | rfl | rfl <;> simp) hi) ?_
              refine d_take 10 rfl (by kernel_rfl) (by kernel_rfl) (by kernel_rfl) (fun _ _ _ h => h) rfl (.inl rfl) (x_fieldAddr fo_34_2 rfl) (fun w hi => J.of_le (by first | exact Ro.le.refl _ ) (fun x hx => by simp only [List.flatten_cons, List.flatten_nil, List.append_nil, List.nil_append, List.cons_append, List.mem_cons, List.mem_singleton, List.not_mem_nil, or_false] at hx; rcases hx with rfl | rfl | rfl <;> simp) hi) ?_
              refine d_take 11 rfl (by kernel_rfl) (by kernel_rfl) (by kernel_rfl) (fun _ _ _ h => h) rfl (.inl rfl) (x_load1 ag_3 rfl (by first | assumption | exact Cell.own 0 rfl rfl | exact Cell.own 1 rfl rfl | exact Cell.own 2 rfl rfl | exact Cell.own 3 rfl rfl | exact Cell.own 4 rfl rfl | exact Cell.own 5 rfl rfl | exact Cell.own 6 rfl rfl | exact Cell.own 7 rfl rfl | exact Cell.own 8 rfl rfl | exact Cell.own 9 rfl rfl | exact Cell.ofRo (by assumption))) (fun w hi => J.of_le (by first | exact Ro.le.refl _ ) (fun x hx => by simp only [List.flatten_cons, List.flatten_nil, List.append_nil, List.nil_append, List.cons_append, List.mem_cons, List.mem_singleton, List.not_mem_nil, or_false] at hx; rcases hx with rfl | rfl | rfl <;> simp) hi) ?_
              refine d_take 12 rfl (by kernel_rfl) (by kernel_rfl) (by kernel_rfl) (fun _ _ _ h => h) rfl (.inl rfl) (x_move rfl) (fun w hi => J.of_le (by first | exact Ro.le.refl _ ) (fun x hx => by simp only [List.flatten_cons, List.flatten_nil, List.append_nil, List.nil_append, List.cons_append, List.mem_cons, List.mem_singleton, List.not_mem_nil, or_false] at hx; rcases hx with rfl | rfl | rfl <;> simp) hi) ?_
              refine d_take 13 rfl (by kernel_rfl) (by kernel_rfl) (by kernel_rfl) (fun _ _ _ h => h) rfl (.inl rfl) (x_move rfl) (fun w hi => J.of_le (by first | exact Ro.le.refl _ ) (fun x hx => by simp only [List.flatten_cons, List.flatten_nil, List.append_nil, List.nil_append, List.cons_append, List.mem_cons, List.mem_singleton, List.not_mem_nil, or_false] at hx; rcases hx with rfl | rfl | rfl <;> simp) hi) ?_
              refine d_one 14 rfl (by kernel_rfl) (.inl rfl) (e_mapEntry 4 rfl Tryd.underlying85 keI zc_88 rfl rfl rfl heb (fun _ _ => rfl) fun es108 clk108 v108 s108 hE108 hS108 => ?_)
              refine d_next (fun w hi => J.of_le (by first | exact Ro.le.refl _ ) (fun x hx => by simp only [List.flatten_cons, List.flatten_nil, List.append_nil, List.nil_append, List.cons_append, List.mem_cons, List.mem_singleton, List.not_mem_nil, or_false] at hx; rcases hx with rfl | rfl | rfl <;> simp) hi) ?_
              refine d_take 15 rfl (by kernel_rfl) (by kernel_rfl) (by kernel_rfl) (fun _ _ _ h => h) rfl (.inl rfl) (x_extract rfl rfl) (fun w hi => J.of_le (by first | exact Ro.le.refl _ ) (fun x hx => by simp only [List.flatten_cons, List.flatten_nil, List.append_nil, List.nil_append, List.cons_append, List.mem_cons, List.mem_singleton, List.not_mem_nil, or_false] at hx; rcases hx with rfl | rfl | rfl <;> simp) hi) ?_
              refine d_one 16 rfl (by kernel_rfl) (.inl rfl) (e_entryStore 4 rfl rfl rfl rfl hE108 hS108 (fun _ _ => rfl) fun es16 clk16 hE16 => ?_)
              refine d_next (fun w hi => J.of_le (by first | exact Ro.le.refl _ ) (fun x hx => by simp only [List.flatten_cons, List.flatten_nil, List.append_nil, List.nil_append, List.cons_append, List.mem_cons, List.mem_singleton, List.not_mem_nil, or_false] at hx; rcases hx with rfl | rfl | rfl <;> simp) hi) ?_
              refine d_one 17 rfl (by kernel_rfl) (.inl rfl) (e_mapEntry 5 rfl Tryd.underlying85 keI zc_88 rfl rfl rfl heu (fun _ _ => rfl) fun es110 clk110 v110 s110 hE110 hS110 => ?_)
              refine d_next (fun w hi => J.of_le (by first | exact Ro.le.refl _ ) (fun x hx => by simp only [List.flatten_cons, List.flatten_nil, List.append_nil, List.nil_append, List.cons_append, List.mem_cons, List.mem_singleton, List.not_mem_nil, or_false] at hx; rcases hx with rfl | rfl | rfl <;> simp) hi) ?_
              refine d_take 18 rfl (by kernel_rfl) (by kernel_rfl) (by kernel_rfl) (fun _ _ _ h => h) rfl (.inl rfl) (x_extract rfl rfl) (fun w hi => J.of_le (by first | exact Ro.le.refl _ ) (fun x hx => by simp only [List.flatten_cons, List.flatten_nil, List.append_nil, List.nil_append, List.cons_append, List.mem_cons, List.mem_singleton, List.not_mem_nil, or_false] at hx; rcases hx with rfl | rfl | rfl <;> simp) hi) ?_
              refine d_one 19 rfl (by kernel_rfl) (.inl rfl) (e_entryStore 5 rfl rfl rfl rfl hE110 hS110 (fun _ _ => rfl) fun es19 clk19 hE19 => ?_)
              refine d_next (fun w hi => J.of_le (by first | exact Ro.le.refl _ ) (fun x hx => by simp only [List.flatten_cons, List.flatten_nil, List.append_nil, List.nil_append, List.cons_append, List.mem_cons, List.mem_singleton, List.not_mem_nil, or_false] at hx; rcases hx with rfl | rfl | rfl <;> simp) hi) ?_
              refine d_end (by kernel_rfl) ?_
              refine n_then ?_
              refine seq ?_
              refine region ?_
              refine op (y (x_move rfl) rfl ?_)
              refine op (y (x_nilPtr rfl) rfl ?_)
              refine op (y (x_fieldAddr fo_87_1 rfl) rfl ?_)
              refine op (y (x_load1 ag_3 rfl (by first | assumption | exact Cell.own 0 rfl rfl | exact Cell.own 1 rfl rfl | exact Cell.own 2 rfl rfl | exact Cell.own 3 rfl rfl | exact Cell.own 4 rfl rfl | exact Cell.own 5 rfl rfl | exact Cell.own 6 rfl rfl | exact Cell.own 7 rfl rfl | exact Cell.own 8 rfl rfl | exact Cell.own 9 rfl rfl | exact Cell.ofRo (by assumption))) rfl ?_)
              refine op (y (x_add rfl rfl _ (wr (by omega) (by omega))) rfl ?_)
              refine said 116 (.int .i64 ((n + 1 : Nat) : Int)) rfl (by simp) ?_
              refine op (y (x_nilPtr rfl) rfl ?_)
              refine op (y (x_fieldAddr fo_87_1 rfl) rfl ?_)
              first | refine op (e_store 0 rfl rfl ts_3 rfl rfl rfl rfl rfl rfl ?_) | refine op (e_store 1 rfl rfl ts_3 rfl rfl rfl rfl rfl rfl ?_) | refine op (e_store 2 rfl rfl ts_3 rfl rfl rfl rfl rfl rfl ?_) | refine op (e_store 3 rfl rfl ts_3 rfl rfl rfl rfl rfl rfl ?_) | refine op (e_store 4 rfl rfl ts_3 rfl rfl rfl rfl rfl rfl ?_) | refine op (e_store 5 rfl rfl ts_3 rfl rfl rfl rfl rfl rfl ?_) | refine op (e_store 6 rfl rfl ts_3 rfl rfl rfl rfl rfl rfl ?_) | refine op (e_store 7 rfl rfl ts_3 rfl rfl rfl rfl rfl rfl ?_) | refine op (e_store 8 rfl rfl ts_3 rfl rfl rfl rfl rfl rfl ?_) | refine op (e_store 9 rfl rfl ts_3 rfl rfl rfl rfl rfl rfl ?_)
              refine nil ?_
              refine n_then ?_
              refine seq ?_
              refine region ?_
              refine op (y (x_assign rfl) rfl ?_)
              refine nil ?_
              refine n_then ?_
              refine ret ?_
              refine r_then ?_
              refine done rfl (.tmp rfl (.nil)) (hle17) ([(a, Obj.cells [Value.slice oA os.length oc, Value.int .i64 (n + 1 : Nat), Value.slice A91 (G ++ [(⟨b83, none, 0, [], ⟨⟨e.tx, e.thread, 1, n, -1, -1, []⟩, 1⟩⟩ : SG)]).length cap91, Value.map (some rb), Value.map (some ru)].toArray 87 (0, 0))] :: R91 :: [(rb, Obj.map es16 clk16)] :: [(ru, Obj.map es19 clk19)] :: (G ++ [(⟨b83, none, 0, [], ⟨⟨e.tx, e.thread, 1, n, -1, -1, []⟩, 1⟩⟩ : SG)]).flatMap SG.blks :: L) (begin_sub (g := (⟨b83, none, 0, [], ⟨⟨e.tx, e.thread, 1, n, -1, -1, []⟩, 1⟩⟩ : SG)) rfl) (⟨IfV.nil, .inl ⟨rfl, ⟨a, oA, oc, A91, cap91, R91, rb, es16, clk16, mset (mset mb e.tx ((mget mb e.tx).getD (.pointer none))) e.tx (.pointer (some ⟨b83, 0, none⟩)), ru, es19, clk19, mset (mset mu e.thread ((mget mu e.thread).getD (.pointer none))) e.thread (.pointer (some ⟨b83, 0, none⟩)), G ++ [(⟨b83, none, 0, [], ⟨⟨e.tx, e.thread, 1, n, -1, -1, []⟩, 1⟩⟩ : SG)]⟩, rfl, by rw [hfeed]; simp, ?_, rfl⟩⟩)
              exact ⟨ho.mono hle17, (hO91.snoc (enc := encSG) (x := (⟨b83, none, 0, [], ⟨⟨e.tx, e.thread, 1, n, -1, -1, []⟩, 1⟩⟩ : SG))).cast (by simp) rfl, hE16, fun id => by
                rw [mget_mset, mget_mset, fid_snoc]
                by_cases h : e.tx = id
                · subst h
                  have : fid G e.tx = none := by simpa using hno1
                  simp [this, adr]
                · simp [h, hhb], hE19, fun th => by
                rw [mget_mset, mget_mset, fbz_snoc]
                by_cases h : e.thread = th
                · subst h
                  have : fbz G e.thread = none := by simpa using hno2
                  simp [this, adr]
                · simp [h, hhu], fun g hgm => by
                rcases List.mem_append.1 hgm with h | h
                · exact hg g h
                · rw [List.mem_singleton] at h; subst h; exact OwnS.none_ 72 8, by have := hinv.feed hfeed; simpa using this, by show n + 1 ≤ 400; omega, hos⟩
        · try simp only [decide_eq_true_eq, decide_eq_false_iff_not, beq_iff_eq, bne_iff_ne, ne_eq, beq_eq_false_iff_ne, bne_eq_false_iff_eq, Bool.not_eq_true', Bool.not_eq_false', Bool.not_eq_true, Bool.not_eq_false, Decidable.not_not, Int.not_lt, Int.not_le] at h12
          refine skip ?_
          refine n_then ?_
          refine seq ?_
          refine seq ?_
          refine region ?_
          refine op (y (x_move rfl) rfl ?_)
          refine op (y (x_not rfl) rfl ?_)
          refine nil ?_
          refine n_then ?_
          refine cond rfl (fun h22 => ?_) (fun h22 => ?_)
          · try simp only [decide_eq_true_eq, decide_eq_false_iff_not, beq_iff_eq, bne_iff_ne, ne_eq, beq_eq_false_iff_ne, bne_eq_false_iff_eq, Bool.not_eq_true', Bool.not_eq_false', Bool.not_eq_true, Bool.not_eq_false, Decidable.not_not, Int.not_lt, Int.not_le] at h22
            refine seq ?_
            have hGc := hG1.err 0 (by omega)
            refine region ?_
            refine op (y (x_load1 ag_43 rfl (Cell.ofRo hGc)) rfl ?_)
            refine op (y (x_assign rfl) rfl ?_)
            refine nil ?_
            refine n_then ?_
            refine ret ?_
            refine r_then ?_
            exact done rfl (.tmp rfl (.nil)) (hle17) (L) (subF (by (repeat (first | exact List.Sublist.refl _ | apply List.Sublist.cons_cons | apply List.Sublist.cons)); done)) (⟨IfV.mk _ _, .inr ⟨rfl, by
              rw [feedM_oth hn4 hok hin h12]
              have : (G.map (·.s)).find? (fun s => decide (s.tx.id = e.tx)) = none := by
                have hx := fid_none.1 h22
                rw [List.find?_eq_none]
                intro s hs
                simp only [decide_eq_true_eq]
                exact fun h => hx ⟨s, hs, h⟩
              rw [this], rfl⟩⟩)
          · try simp only [decide_eq_true_eq, decide_eq_false_iff_not, beq_iff_eq, bne_iff_ne, ne_eq, beq_eq_false_iff_ne, bne_eq_false_iff_eq, Bool.not_eq_true', Bool.not_eq_false', Bool.not_eq_true, Bool.not_eq_false, Decidable.not_not, Int.not_lt, Int.not_le] at h22
            obtain ⟨g, hfg⟩ := Option.isSome_iff_exists.1 h22
            obtain ⟨G1, G2, rfl, hgid⟩ := fid_at hfg
            refine said 6 (.pointer (some ⟨g.p, 0, none⟩)) rfl (by rw [hfg]; rfl) ?_
            have hkin : e.kind ∈ ([6, 5, 7, 4, 3, 2] : List Int) := by have := hok.1; simp; omega
            refine skip ?_
            refine n_then ?_
            refine seqM (fun F ro8' L8' => ∃ (b8 : Nat) (fA : Option Addr) (fc : Nat) (fk : FuncId) (caps : List Value), (F = [(0, .pointer (some ⟨a, 0, none⟩)), (3, .pointer (some ⟨b3, 0, none⟩)), (6, .pointer (some ⟨g.p, 0, none⟩)), (8, .pointer (some ⟨b8, 0, none⟩))]) ∧ (L8' = [(b8, Obj.cells [Value.slice fA (fromM e.kind).length fc, Value.func (.func fk) #[] caps.toArray].toArray 97 (0, 0))] :: [(b3, Obj.cells (encEv e).toArray 34 (0, 0))] :: [(a, Obj.cells [Value.slice oA os.length oc, Value.int .i64 (n : Nat), Value.slice tA (G1 ++ g :: G2).length tc, Value.map (some rb), Value.map (some ru)].toArray 87 (0, 0))] :: Rt :: [(rb, Obj.map eb cb)] :: [(ru, Obj.map eu cu)] :: (G1 ++ g :: G2).flatMap SG.blks :: L) ∧ (ro17.le ro8') ∧ (Fun Tryd.prog fk) ∧ (MoveC er fk caps e.kind ro8') ∧ (Sl ro8' 1 encInt fA fc (fromM e.kind))) ?_ ?_
            · skip
              refine draw (List.flatten [[(b3, Obj.cells (encEv e).toArray 34 (0, 0))]]) (by kernel_rfl) ?_
              refine d_take 1 rfl (by kernel_rfl) (by kernel_rfl) (by kernel_rfl) (fun _ _ _ h => h) rfl (.inl rfl) (x_fieldAddr fo_34_0 rfl) (fun w hi => J.of_le (by first | exact Ro.le.refl _ | exact hle122) (fun x hx => by simp only [List.flatten_cons, List.flatten_nil, List.append_nil, List.nil_append, List.cons_append, List.mem_cons, List.mem_singleton, List.not_mem_nil, or_false] at hx; rcases hx with rfl | rfl | rfl <;> simp) hi) ?_
              refine d_take 2 rfl (by kernel_rfl) (by kernel_rfl) (by kernel_rfl) (fun _ _ _ h => h) rfl (.inl rfl) (x_load1 ag_3 rfl (by first | assumption | exact Cell.own 0 rfl rfl | exact Cell.own 1 rfl rfl | exact Cell.own 2 rfl rfl | exact Cell.own 3 rfl rfl | exact Cell.own 4 rfl rfl | exact Cell.own 5 rfl rfl | exact Cell.own 6 rfl rfl | exact Cell.own 7 rfl rfl | exact Cell.own 8 rfl rfl | exact Cell.own 9 rfl rfl | exact Cell.ofRo (by assumption))) (fun w hi => J.of_le (by first | exact Ro.le.refl _ | exact hle122) (fun x hx => by simp only [List.flatten_cons, List.flatten_nil, List.append_nil, List.nil_append, List.cons_append, List.mem_cons, List.mem_singleton, List.not_mem_nil, or_false] at hx; rcases hx with rfl | rfl | rfl <;> simp) hi) ?_
              refine d_two 0 4 (by kernel_rfl) ?_ ?_
              · skip
                refine d_the rfl (.inl rfl) (e_call rfl fn_59 rfl rfl (moves_c er _ _) fun v122 ro122 L122 hle122 hp122 => ?_)
                obtain ⟨rm, em, cm, mm, rfl, hcr, hE, hM, rfl⟩ := hp122
                obtain ⟨fk, caps, fA, fc, hmg, hfn, hmc, hsl⟩ := (hM e.kind).1 hkin
                refine d_next (fun w hi => J.of_le (by first | exact Ro.le.refl _ | exact hle122) (fun x hx => by simp only [List.flatten_cons, List.flatten_nil, List.append_nil, List.nil_append, List.cons_append, List.mem_cons, List.mem_singleton, List.not_mem_nil, or_false] at hx; rcases hx with rfl | rfl | rfl <;> simp) hi) ?_
                refine d_two 3 4 (by kernel_rfl) ?_ ?_
                · skip
                  refine d_the rfl (.inl rfl) (y (x_lookupH (v := .agg [.slice fA (fromM e.kind).length fc, .func (.func fk) #[] caps.toArray].toArray) Tryd.underlying98 keI zc_97 rfl rfl (HasMap.ofRo hcr) hE (by rw [hmg]; rfl)) rfl ?_)
                  refine d_next (fun w hi => J.of_le (by first | exact Ro.le.refl _ | exact hle122) (fun x hx => by simp only [List.flatten_cons, List.flatten_nil, List.append_nil, List.nil_append, List.cons_append, List.mem_cons, List.mem_singleton, List.not_mem_nil, or_false] at hx; rcases hx with rfl | rfl | rfl <;> simp) hi) ?_
                  refine d_one 4 rfl (by kernel_rfl) (.inl rfl) (e_alloc rfl zc_97 rfl fun b8 => ?_)
                  refine d_next (fun w hi => J.of_le (by first | exact Ro.le.refl _ | exact hle122) (fun x hx => by simp only [List.flatten_cons, List.flatten_nil, List.append_nil, List.nil_append, List.cons_append, List.mem_cons, List.mem_singleton, List.not_mem_nil, or_false] at hx; rcases hx with rfl | rfl | rfl <;> simp) hi) ?_
                  first | refine d_one 5 rfl (by kernel_rfl) (.inl rfl) (e_store 0 rfl rfl ts_97 rfl rfl rfl rfl rfl rfl ?_) | refine d_one 5 rfl (by kernel_rfl) (.inl rfl) (e_store 1 rfl rfl ts_97 rfl rfl rfl rfl rfl rfl ?_) | refine d_one 5 rfl (by kernel_rfl) (.inl rfl) (e_store 2 rfl rfl ts_97 rfl rfl rfl rfl rfl rfl ?_) | refine d_one 5 rfl (by kernel_rfl) (.inl rfl) (e_store 3 rfl rfl ts_97 rfl rfl rfl rfl rfl rfl ?_) | refine d_one 5 rfl (by kernel_rfl) (.inl rfl) (e_store 4 rfl rfl ts_97 rfl rfl rfl rfl rfl rfl ?_) | refine d_one 5 rfl (by kernel_rfl) (.inl rfl) (e_store 5 rfl rfl ts_97 rfl rfl rfl rfl rfl rfl ?_) | refine d_one 5 rfl (by kernel_rfl) (.inl rfl) (e_store 6 rfl rfl ts_97 rfl rfl rfl rfl rfl rfl ?_) | refine d_one 5 rfl (by kernel_rfl) (.inl rfl) (e_store 7 rfl rfl ts_97 rfl rfl rfl rfl rfl rfl ?_) | refine d_one 5 rfl (by kernel_rfl) (.inl rfl) (e_store 8 rfl rfl ts_97 rfl rfl rfl rfl rfl rfl ?_) | refine d_one 5 rfl (by kernel_rfl) (.inl rfl) (e_store 9 rfl rfl ts_97 rfl rfl rfl rfl rfl rfl ?_)
                  refine d_next (fun w hi => J.of_le (by first | exact Ro.le.refl _ | exact hle122) (fun x hx => by simp only [List.flatten_cons, List.flatten_nil, List.append_nil, List.nil_append, List.cons_append, List.mem_cons, List.mem_singleton, List.not_mem_nil, or_false] at hx; rcases hx with rfl | rfl | rfl <;> simp) hi) ?_
                  refine d_end (by kernel_rfl) ?_
                  exact mid [(0, .pointer (some ⟨a, 0, none⟩)), (3, .pointer (some ⟨b3, 0, none⟩)), (6, .pointer (some ⟨g.p, 0, none⟩)), (8, .pointer (some ⟨b8, 0, none⟩))] ⟨rfl, rfl, rfl, rfl, trivial⟩ ⟨b8, fA, fc, fk, caps, rfl, rfl, hle122, hfn, hmc, hsl⟩
                · skip
                  refine d_the rfl (.inl rfl) (e_alloc rfl zc_97 rfl fun b8 => ?_)
                  refine d_next (fun w hi => J.of_le (by first | exact Ro.le.refl _ | exact hle122) (fun x hx => by simp only [List.flatten_cons, List.flatten_nil, List.append_nil, List.nil_append, List.cons_append, List.mem_cons, List.mem_singleton, List.not_mem_nil, or_false] at hx; rcases hx with rfl | rfl | rfl <;> simp) hi) ?_
                  refine d_one 3 rfl (by kernel_rfl) (.inl rfl) (y (x_lookupH (v := .agg [.slice fA (fromM e.kind).length fc, .func (.func fk) #[] caps.toArray].toArray) Tryd.underlying98 keI zc_97 rfl rfl (HasMap.ofRo hcr) hE (by rw [hmg]; rfl)) rfl ?_)
                  refine d_next (fun w hi => J.of_le (by first | exact Ro.le.refl _ | exact hle122) (fun x hx => by simp only [List.flatten_cons, List.flatten_nil, List.append_nil, List.nil_append, List.cons_append, List.mem_cons, List.mem_singleton, List.not_mem_nil, or_false] at hx; rcases hx with rfl | rfl | rfl <;> simp) hi) ?_
                  first | refine d_one 5 rfl (by kernel_rfl) (.inl rfl) (e_store 0 rfl rfl ts_97 rfl rfl rfl rfl rfl rfl ?_) | refine d_one 5 rfl (by kernel_rfl) (.inl rfl) (e_store 1 rfl rfl ts_97 rfl rfl rfl rfl rfl rfl ?_) | refine d_one 5 rfl (by kernel_rfl) (.inl rfl) (e_store 2 rfl rfl ts_97 rfl rfl rfl rfl rfl rfl ?_) | refine d_one 5 rfl (by kernel_rfl) (.inl rfl) (e_store 3 rfl rfl ts_97 rfl rfl rfl rfl rfl rfl ?_) | refine d_one 5 rfl (by kernel_rfl) (.inl rfl) (e_store 4 rfl rfl ts_97 rfl rfl rfl rfl rfl rfl ?_) | refine d_one 5 rfl (by kernel_rfl) (.inl rfl) (e_store 5 rfl rfl ts_97 rfl rfl rfl rfl rfl rfl ?_) | refine d_one 5 rfl (by kernel_rfl) (.inl rfl) (e_store 6 rfl rfl ts_97 rfl rfl rfl rfl rfl rfl ?_) | refine d_one 5 rfl (by kernel_rfl) (.inl rfl) (e_store 7 rfl rfl ts_97 rfl rfl rfl rfl rfl rfl ?_) | refine d_one 5 rfl (by kernel_rfl) (.inl rfl) (e_store 8 rfl rfl ts_97 rfl rfl rfl rfl rfl rfl ?_) | refine d_one 5 rfl (by kernel_rfl) (.inl rfl) (e_store 9 rfl rfl ts_97 rfl rfl rfl rfl rfl rfl ?_)
                  refine d_next (fun w hi => J.of_le (by first | exact Ro.le.refl _ | exact hle122) (fun x hx => by simp only [List.flatten_cons, List.flatten_nil, List.append_nil, List.nil_append, List.cons_append, List.mem_cons, List.mem_singleton, List.not_mem_nil, or_false] at hx; rcases hx with rfl | rfl | rfl <;> simp) hi) ?_
                  refine d_end (by kernel_rfl) ?_
                  exact mid [(0, .pointer (some ⟨a, 0, none⟩)), (3, .pointer (some ⟨b3, 0, none⟩)), (6, .pointer (some ⟨g.p, 0, none⟩)), (8, .pointer (some ⟨b8, 0, none⟩))] ⟨rfl, rfl, rfl, rfl, trivial⟩ ⟨b8, fA, fc, fk, caps, rfl, rfl, hle122, hfn, hmc, hsl⟩
              · skip
                refine d_the rfl (.inl rfl) (e_alloc rfl zc_97 rfl fun b8 => ?_)
                refine d_next (fun w hi => J.of_le (by first | exact Ro.le.refl _ | exact hle122) (fun x hx => by simp only [List.flatten_cons, List.flatten_nil, List.append_nil, List.nil_append, List.cons_append, List.mem_cons, List.mem_singleton, List.not_mem_nil, or_false] at hx; rcases hx with rfl | rfl | rfl <;> simp) hi) ?_
                refine d_one 0 rfl (by kernel_rfl) (.inl rfl) (e_call rfl fn_59 rfl rfl (moves_c er _ _) fun v122 ro122 L122 hle122 hp122 => ?_)
                obtain ⟨rm, em, cm, mm, rfl, hcr, hE, hM, rfl⟩ := hp122
                obtain ⟨fk, caps, fA, fc, hmg, hfn, hmc, hsl⟩ := (hM e.kind).1 hkin
                refine d_next (fun w hi => J.of_le (by first | exact Ro.le.refl _ | exact hle122) (fun x hx => by simp only [List.flatten_cons, List.flatten_nil, List.append_nil, List.nil_append, List.cons_append, List.mem_cons, List.mem_singleton, List.not_mem_nil, or_false] at hx; rcases hx with rfl | rfl | rfl <;> simp) hi) ?_
                refine d_one 3 rfl (by kernel_rfl) (.inl rfl) (y (x_lookupH (v := .agg [.slice fA (fromM e.kind).length fc, .func (.func fk) #[] caps.toArray].toArray) Tryd.underlying98 keI zc_97 rfl rfl (HasMap.ofRo hcr) hE (by rw [hmg]; rfl)) rfl ?_)
                refine d_next (fun w hi => J.of_le (by first | exact Ro.le.refl _ | exact hle122) (fun x hx => by simp only [List.flatten_cons, List.flatten_nil, List.append_nil, List.nil_append, List.cons_append, List.mem_cons, List.mem_singleton, List.not_mem_nil, or_false] at hx; rcases hx with rfl | rfl | rfl <;> simp) hi) ?_
                first | refine d_one 5 rfl (by kernel_rfl) (.inl rfl) (e_store 0 rfl rfl ts_97 rfl rfl rfl rfl rfl rfl ?_) | refine d_one 5 rfl (by kernel_rfl) (.inl rfl) (e_store 1 rfl rfl ts_97 rfl rfl rfl rfl rfl rfl ?_) | refine d_one 5 rfl (by kernel_rfl) (.inl rfl) (e_store 2 rfl rfl ts_97 rfl rfl rfl rfl rfl rfl ?_) | refine d_one 5 rfl (by kernel_rfl) (.inl rfl) (e_store 3 rfl rfl ts_97 rfl rfl rfl rfl rfl rfl ?_) | refine d_one 5 rfl (by kernel_rfl) (.inl rfl) (e_store 4 rfl rfl ts_97 rfl rfl rfl rfl rfl rfl ?_) | refine d_one 5 rfl (by kernel_rfl) (.inl rfl) (e_store 5 rfl rfl ts_97 rfl rfl rfl rfl rfl rfl ?_) | refine d_one 5 rfl (by kernel_rfl) (.inl rfl) (e_store 6 rfl rfl ts_97 rfl rfl rfl rfl rfl rfl ?_) | refine d_one 5 rfl (by kernel_rfl) (.inl rfl) (e_store 7 rfl rfl ts_97 rfl rfl rfl rfl rfl rfl ?_) | refine d_one 5 rfl (by kernel_rfl) (.inl rfl) (e_store 8 rfl rfl ts_97 rfl rfl rfl rfl rfl rfl ?_) | refine d_one 5 rfl (by kernel_rfl) (.inl rfl) (e_store 9 rfl rfl ts_97 rfl rfl rfl rfl rfl rfl ?_)
                refine d_next (fun w hi => J.of_le (by first | exact Ro.le.refl _ | exact hle122) (fun x hx => by simp only [List.flatten_cons, List.flatten_nil, List.append_nil, List.nil_append, List.cons_append, List.mem_cons, List.mem_singleton, List.not_mem_nil, or_false] at hx; rcases hx with rfl | rfl | rfl <;> simp) hi) ?_
                refine d_end (by kernel_rfl) ?_
                exact mid [(0, .pointer (some ⟨a, 0, none⟩)), (3, .pointer (some ⟨b3, 0, none⟩)), (6, .pointer (some ⟨g.p, 0, none⟩)), (8, .pointer (some ⟨b8, 0, none⟩))] ⟨rfl, rfl, rfl, rfl, trivial⟩ ⟨b8, fA, fc, fk, caps, rfl, rfl, hle122, hfn, hmc, hsl⟩
            · rintro F ro8' L8' ⟨b8, fA, fc, fk, caps, rfl, rfl, hro8, hfn, hmc, hsl⟩
              have hgm : stB g.p g.A g.cap g.s ∈ (G1 ++ g :: G2).flatMap SG.blks := by simp [SG.blks]
              have hG8 := hG1.mono hro8
              have hgs : g.s ∈ (G1 ++ g :: G2).map (·.s) := by simp
              have hgd := hinv.ds _ hgs
              have hfat := feedM_at (s := g.s) (S1 := G1.map (·.s)) (S2 := G2.map (·.s)) (by rw [← map_set]; exact hinv) hn4 hok hin h12 hgid
              refine seq ?_
              refine seq ?_
              refine drawL (by kernel_rfl) ?_
              refine d_take 0 rfl (by kernel_rfl) (by kernel_rfl) (by kernel_rfl) (fun _ _ _ h => h) rfl (.inl rfl) (x_fieldAddr fo_97_0 rfl) (fun w hi => by first | exact hi.j | exact J.of_le (Ro.le.refl _) (fun x hx => List.mem_append_right _ hx) hi | exact J.of_le (Ro.le.refl _) (fun x hx => List.mem_append_right _ (List.mem_append_right _ hx)) hi | exact J.of_le (Ro.le.refl _) (fun x hx => absurd hx (by simp)) hi | exact J.of_le (by assumption) (fun x hx => absurd hx (by simp)) hi) ?_
              refine d_take 1 rfl (by kernel_rfl) (by kernel_rfl) (by kernel_rfl) (fun _ _ _ h => h) rfl (.inl rfl) (x_load1 ag_26 rfl (by first | assumption | exact Cell.own 0 rfl rfl | exact Cell.own 1 rfl rfl | exact Cell.own 2 rfl rfl | exact Cell.own 3 rfl rfl | exact Cell.own 4 rfl rfl | exact Cell.own 5 rfl rfl | exact Cell.own 6 rfl rfl | exact Cell.own 7 rfl rfl | exact Cell.own 8 rfl rfl | exact Cell.own 9 rfl rfl | exact Cell.ofRo (by assumption))) (fun w hi => by first | exact hi.j | exact J.of_le (Ro.le.refl _) (fun x hx => List.mem_append_right _ hx) hi | exact J.of_le (Ro.le.refl _) (fun x hx => List.mem_append_right _ (List.mem_append_right _ hx)) hi | exact J.of_le (Ro.le.refl _) (fun x hx => absurd hx (by simp)) hi | exact J.of_le (by assumption) (fun x hx => absurd hx (by simp)) hi) ?_
              refine d_take 2 rfl (by kernel_rfl) (by kernel_rfl) (by kernel_rfl) (fun _ _ _ h => h) rfl (.inl rfl) (x_move rfl) (fun w hi => by first | exact hi.j | exact J.of_le (Ro.le.refl _) (fun x hx => List.mem_append_right _ hx) hi | exact J.of_le (Ro.le.refl _) (fun x hx => List.mem_append_right _ (List.mem_append_right _ hx)) hi | exact J.of_le (Ro.le.refl _) (fun x hx => absurd hx (by simp)) hi | exact J.of_le (by assumption) (fun x hx => absurd hx (by simp)) hi) ?_
              refine d_take 3 rfl (by kernel_rfl) (by kernel_rfl) (by kernel_rfl) (fun _ _ _ h => h) rfl (.inl rfl) (x_nilPtr rfl) (fun w hi => by first | exact hi.j | exact J.of_le (Ro.le.refl _) (fun x hx => List.mem_append_right _ hx) hi | exact J.of_le (Ro.le.refl _) (fun x hx => List.mem_append_right _ (List.mem_append_right _ hx)) hi | exact J.of_le (Ro.le.refl _) (fun x hx => absurd hx (by simp)) hi | exact J.of_le (by assumption) (fun x hx => absurd hx (by simp)) hi) ?_
              refine d_take 4 rfl (by kernel_rfl) (by kernel_rfl) (by kernel_rfl) (fun _ _ _ h => h) rfl (.inl rfl) (x_fieldAddr fo_90_1 rfl) (fun w hi => by first | exact hi.j | exact J.of_le (Ro.le.refl _) (fun x hx => List.mem_append_right _ hx) hi | exact J.of_le (Ro.le.refl _) (fun x hx => List.mem_append_right _ (List.mem_append_right _ hx)) hi | exact J.of_le (Ro.le.refl _) (fun x hx => absurd hx (by simp)) hi | exact J.of_le (by assumption) (fun x hx => absurd hx (by simp)) hi) ?_
              refine d_take 5 rfl (by kernel_rfl) (by kernel_rfl) (by kernel_rfl) (fun _ _ _ h => h) rfl (.inl rfl) (x_load1 ag_3 rfl (Cell.blk (mem1 (mem1 (mem1 (mem1 (mem1 (mem1 (mem0 hgm))))))) rfl)) (fun w hi => by first | exact hi.j | exact J.of_le (Ro.le.refl _) (fun x hx => List.mem_append_right _ hx) hi | exact J.of_le (Ro.le.refl _) (fun x hx => List.mem_append_right _ (List.mem_append_right _ hx)) hi | exact J.of_le (Ro.le.refl _) (fun x hx => absurd hx (by simp)) hi | exact J.of_le (by assumption) (fun x hx => absurd hx (by simp)) hi) ?_
              refine d_one 6 rfl (by kernel_rfl) (.inl rfl) (e_call rfl fn_60 rfl rfl (Contains_c (fromM e.kind) fA fc g.s.stand _ _ hsl) fun v132 ro132 L132 hle132 hp132 => ?_)
              obtain ⟨rfl, rfl, rfl⟩ := hp132
              refine d_next (fun w hi => by first | exact hi.j | exact J.of_le (Ro.le.refl _) (fun x hx => List.mem_append_right _ hx) hi | exact J.of_le (Ro.le.refl _) (fun x hx => List.mem_append_right _ (List.mem_append_right _ hx)) hi | exact J.of_le (Ro.le.refl _) (fun x hx => absurd hx (by simp)) hi | exact J.of_le (by assumption) (fun x hx => absurd hx (by simp)) hi) ?_
              refine d_take 7 rfl (by kernel_rfl) (by kernel_rfl) (by kernel_rfl) (fun _ _ _ h => h) rfl (.inl rfl) (x_not rfl) (fun w hi => by first | exact hi.j | exact J.of_le (Ro.le.refl _) (fun x hx => List.mem_append_right _ hx) hi | exact J.of_le (Ro.le.refl _) (fun x hx => List.mem_append_right _ (List.mem_append_right _ hx)) hi | exact J.of_le (Ro.le.refl _) (fun x hx => absurd hx (by simp)) hi | exact J.of_le (by assumption) (fun x hx => absurd hx (by simp)) hi) ?_
              refine d_end (by kernel_rfl) ?_
              refine n_then ?_
              refine cond rfl (fun h25 => ?_) (fun h25 => ?_)
              · try simp only [decide_eq_true_eq, decide_eq_false_iff_not, beq_iff_eq, bne_iff_ne, ne_eq, beq_eq_false_iff_ne, bne_eq_false_iff_eq, Bool.not_eq_true', Bool.not_eq_false', Bool.not_eq_true, Bool.not_eq_false, Decidable.not_not, Int.not_lt, Int.not_le] at h25
                refine seq ?_
                have hGc := hG8.err 7 (by omega)
                refine region ?_
                refine op (y (x_load1 ag_43 rfl (Cell.ofRo hGc)) rfl ?_)
                refine op (y (x_assign rfl) rfl ?_)
                refine nil ?_
                refine n_then ?_
                refine ret ?_
                refine r_then ?_
                exact done rfl (.tmp rfl (.nil)) (hle17.trans hro8) (L) (subF (by (repeat (first | exact List.Sublist.refl _ | apply List.Sublist.cons_cons | apply List.Sublist.cons)); done)) (⟨IfV.mk _ _, .inr ⟨rfl, by rw [map_set, hfat, if_neg (by simpa using h25)], rfl⟩⟩)
              · try simp only [decide_eq_true_eq, decide_eq_false_iff_not, beq_iff_eq, bne_iff_ne, ne_eq, beq_eq_false_iff_ne, bne_eq_false_iff_eq, Bool.not_eq_true', Bool.not_eq_false', Bool.not_eq_true, Bool.not_eq_false, Decidable.not_not, Int.not_lt, Int.not_le] at h25
                refine skip ?_
                refine n_then ?_
                refine seq ?_
                refine seq ?_
                have hst : g.s.stand ∈ fromM e.kind := by simpa using h25
                refine draw (List.flatten [[(b8, Obj.cells [Value.slice fA (fromM e.kind).length fc, Value.func (.func fk) #[] caps.toArray].toArray 97 (0, 0))], [(b3, Obj.cells (encEv e).toArray 34 (0, 0))], [(a, Obj.cells [Value.slice oA os.length oc, Value.int .i64 (n : Nat), Value.slice tA (G1 ++ g :: G2).length tc, Value.map (some rb), Value.map (some ru)].toArray 87 (0, 0))]]) (by kernel_rfl) ?_
                refine d_take 0 rfl (by kernel_rfl) (by kernel_rfl) (by kernel_rfl) (fun _ _ _ h => h) rfl (.inl rfl) (x_fieldAddr fo_97_1 rfl) (fun w hi => J.of_le (by first | exact Ro.le.refl _ | exact hle143) (fun x hx => by simp only [List.flatten_cons, List.flatten_nil, List.append_nil, List.nil_append, List.cons_append, List.mem_cons, List.mem_singleton, List.not_mem_nil, or_false] at hx; rcases hx with rfl | rfl | rfl <;> simp) hi) ?_
                refine d_take 1 rfl (by kernel_rfl) (by kernel_rfl) (by kernel_rfl) (fun _ _ _ h => h) rfl (.inl rfl) (x_load1 ag_95 rfl (by first | assumption | exact Cell.own 0 rfl rfl | exact Cell.own 1 rfl rfl | exact Cell.own 2 rfl rfl | exact Cell.own 3 rfl rfl | exact Cell.own 4 rfl rfl | exact Cell.own 5 rfl rfl | exact Cell.own 6 rfl rfl | exact Cell.own 7 rfl rfl | exact Cell.own 8 rfl rfl | exact Cell.own 9 rfl rfl | exact Cell.ofRo (by assumption))) (fun w hi => J.of_le (by first | exact Ro.le.refl _ | exact hle143) (fun x hx => by simp only [List.flatten_cons, List.flatten_nil, List.append_nil, List.nil_append, List.cons_append, List.mem_cons, List.mem_singleton, List.not_mem_nil, or_false] at hx; rcases hx with rfl | rfl | rfl <;> simp) hi) ?_
                refine d_take 2 rfl (by kernel_rfl) (by kernel_rfl) (by kernel_rfl) (fun _ _ _ h => h) rfl (.inl rfl) (x_move rfl) (fun w hi => J.of_le (by first | exact Ro.le.refl _ | exact hle143) (fun x hx => by simp only [List.flatten_cons, List.flatten_nil, List.append_nil, List.nil_append, List.cons_append, List.mem_cons, List.mem_singleton, List.not_mem_nil, or_false] at hx; rcases hx with rfl | rfl | rfl <;> simp) hi) ?_
                refine d_take 3 rfl (by kernel_rfl) (by kernel_rfl) (by kernel_rfl) (fun _ _ _ h => h) rfl (.inl rfl) ((by first | exact x_loadOwn 0 _ ag_34 rfl rfl rfl rfl | exact x_loadOwn 1 _ ag_34 rfl rfl rfl rfl | exact x_loadOwn 2 _ ag_34 rfl rfl rfl rfl | exact x_loadOwn 3 _ ag_34 rfl rfl rfl rfl | exact x_loadOwn 4 _ ag_34 rfl rfl rfl rfl | exact x_loadOwn 5 _ ag_34 rfl rfl rfl rfl | exact x_loadOwn 6 _ ag_34 rfl rfl rfl rfl | exact x_loadOwn 7 _ ag_34 rfl rfl rfl rfl | exact x_loadOwn 8 _ ag_34 rfl rfl rfl rfl | exact x_loadOwn 9 _ ag_34 rfl rfl rfl rfl | exact x_loadOwn 10 _ ag_34 rfl rfl rfl rfl | exact x_loadOwn 11 _ ag_34 rfl rfl rfl rfl)) (fun w hi => J.of_le (by first | exact Ro.le.refl _ | exact hle143) (fun x hx => by simp only [List.flatten_cons, List.flatten_nil, List.append_nil, List.nil_append, List.cons_append, List.mem_cons, List.mem_singleton, List.not_mem_nil, or_false] at hx; rcases hx with rfl | rfl | rfl <;> simp) hi) ?_
                refine d_take 4 rfl (by kernel_rfl) (by kernel_rfl) (by kernel_rfl) (fun _ _ _ h => h) rfl (.inl rfl) (x_move rfl) (fun w hi => J.of_le (by first | exact Ro.le.refl _ | exact hle143) (fun x hx => by simp only [List.flatten_cons, List.flatten_nil, List.append_nil, List.nil_append, List.cons_append, List.mem_cons, List.mem_singleton, List.not_mem_nil, or_false] at hx; rcases hx with rfl | rfl | rfl <;> simp) hi) ?_
                refine d_take 5 rfl (by kernel_rfl) (by kernel_rfl) (by kernel_rfl) (fun _ _ _ h => h) rfl (.inl rfl) (x_nilPtr rfl) (fun w hi => J.of_le (by first | exact Ro.le.refl _ | exact hle143) (fun x hx => by simp only [List.flatten_cons, List.flatten_nil, List.append_nil, List.nil_append, List.cons_append, List.mem_cons, List.mem_singleton, List.not_mem_nil, or_false] at hx; rcases hx with rfl | rfl | rfl <;> simp) hi) ?_
                refine d_take 6 rfl (by kernel_rfl) (by kernel_rfl) (by kernel_rfl) (fun _ _ _ h => h) rfl (.inl rfl) (x_fieldAddr fo_87_1 rfl) (fun w hi => J.of_le (by first | exact Ro.le.refl _ | exact hle143) (fun x hx => by simp only [List.flatten_cons, List.flatten_nil, List.append_nil, List.nil_append, List.cons_append, List.mem_cons, List.mem_singleton, List.not_mem_nil, or_false] at hx; rcases hx with rfl | rfl | rfl <;> simp) hi) ?_
                refine d_take 7 rfl (by kernel_rfl) (by kernel_rfl) (by kernel_rfl) (fun _ _ _ h => h) rfl (.inl rfl) (x_load1 ag_3 rfl (by first | assumption | exact Cell.own 0 rfl rfl | exact Cell.own 1 rfl rfl | exact Cell.own 2 rfl rfl | exact Cell.own 3 rfl rfl | exact Cell.own 4 rfl rfl | exact Cell.own 5 rfl rfl | exact Cell.own 6 rfl rfl | exact Cell.own 7 rfl rfl | exact Cell.own 8 rfl rfl | exact Cell.own 9 rfl rfl | exact Cell.ofRo (by assumption))) (fun w hi => J.of_le (by first | exact Ro.le.refl _ | exact hle143) (fun x hx => by simp only [List.flatten_cons, List.flatten_nil, List.append_nil, List.nil_append, List.cons_append, List.mem_cons, List.mem_singleton, List.not_mem_nil, or_false] at hx; rcases hx with rfl | rfl | rfl <;> simp) hi) ?_
                refine subL _ out_sub ?_
                refine d_one 8 rfl (by kernel_rfl) (.inl rfl) (e_call rfl (hfn) rfl rfl (hmc ro8' g.p g.A g.cap g.R g.s e n _ (Ro.le.refl _) hG8 rfl hn (hg g (by simp)) (by omega) hst (fun hk3 => hgd.2 (by rw [hk3] at hst; simpa [fromM] using hst))) fun v143 ro143 L143 hle143 hp143 => ?_)
                obtain ⟨A2, cap2, R2, s2, rfl, hv143, hcase⟩ := hp143.form
                refine d_next (fun w hi => J.of_le (by first | exact Ro.le.refl _ | exact hle143) (fun x hx => by simp only [List.flatten_cons, List.flatten_nil, List.append_nil, List.nil_append, List.cons_append, List.mem_cons, List.mem_singleton, List.not_mem_nil, or_false] at hx; rcases hx with rfl | rfl | rfl <;> simp) hi) ?_
                refine d_take 9 rfl (by kernel_rfl) (by kernel_rfl) (by kernel_rfl) (fun _ _ _ h => h) rfl (.inl rfl) (x_assign rfl) (fun w hi => J.of_le (by first | exact Ro.le.refl _ | exact hle143) (fun x hx => by simp only [List.flatten_cons, List.flatten_nil, List.append_nil, List.nil_append, List.cons_append, List.mem_cons, List.mem_singleton, List.not_mem_nil, or_false] at hx; rcases hx with rfl | rfl | rfl <;> simp) hi) ?_
                refine d_end (by kernel_rfl) ?_
                refine n_then ?_
                refine seq ?_
                refine region ?_
                refine op (y (x_move rfl) rfl ?_)
                refine op (y (x_ifNeNil Tryd.underlying43 rfl (by assumption)) rfl ?_)
                refine nil ?_
                refine n_then ?_
                refine cond rfl (fun h28 => ?_) (fun h28 => ?_)
                · try simp only [decide_eq_true_eq, decide_eq_false_iff_not, beq_iff_eq, bne_iff_ne, ne_eq, beq_eq_false_iff_ne, bne_eq_false_iff_eq, Bool.not_eq_true', Bool.not_eq_false', Bool.not_eq_true, Bool.not_eq_false, Decidable.not_not, Int.not_lt, Int.not_le] at h28
                  refine seq ?_
                  refine region ?_
                  refine op (y (x_move rfl) rfl ?_)
                  refine op (y (x_assign rfl) rfl ?_)
                  refine nil ?_
                  refine n_then ?_
                  refine ret ?_
                  refine r_then ?_
                  exact done rfl (.tmp rfl (.nil)) (hle17.trans (hro8.trans hle143)) (L) (subF (by (repeat (first | exact List.Sublist.refl _ | apply List.Sublist.cons_cons | apply List.Sublist.cons)); done)) (⟨hv143, .inr ⟨h28, Or.elim hcase (fun h => by have := h.1; rw [this] at h28; cases h28) (fun h => by rw [map_set, hfat, if_pos hst, h.2]; rfl), rfl⟩⟩)
                · try simp only [decide_eq_true_eq, decide_eq_false_iff_not, beq_iff_eq, bne_iff_ne, ne_eq, beq_eq_false_iff_ne, bne_eq_false_iff_eq, Bool.not_eq_true', Bool.not_eq_false', Bool.not_eq_true, Bool.not_eq_false, Decidable.not_not, Int.not_lt, Int.not_le] at h28
                  refine skip ?_
                  refine n_then ?_
                  refine seq ?_
                  refine seq ?_
                  obtain ⟨hms, hO2⟩ : moveM g.s e n = some s2 ∧ OwnD A2 cap2 s2.tx.ds R2 := by
                    rcases hcase with ⟨_, h1, h2⟩ | ⟨h, _⟩
                    · exact ⟨h1, h2⟩
                    · rw [h] at h28; cases h28
                  obtain ⟨f1, f2, _, f3, f4⟩ := moveM_facts hms
                  have hfeed : feedM os n ((G1 ++ g :: G2).map (·.s)) e = some ((G1 ++ ⟨g.p, A2, cap2, R2, s2⟩ :: G2).map (·.s)) := by rw [map_set, map_set, hfat, if_pos hst, hms]; rfl
                  have hinv2 := hinv.feed hfeed
                  have hfid := fid_set (G1 := G1) (G2 := G2) (g := g) (g' := ⟨g.p, A2, cap2, R2, s2⟩) f1 rfl
                  have ht2 : OwnS 88 1 tA (G1 ++ ⟨g.p, A2, cap2, R2, s2⟩ :: G2).length tc ((G1 ++ ⟨g.p, A2, cap2, R2, s2⟩ :: G2).flatMap encSG) Rt := ht.cast (by simp) (by simp [encSG, adr])
                  have hg2 : ∀ x ∈ G1 ++ (⟨g.p, A2, cap2, R2, s2⟩ : SG) :: G2, OwnD x.A x.cap x.s.tx.ds x.R := fun x hx => by
                    simp only [List.mem_append, List.mem_cons] at hx
                    rcases hx with hx | rfl | hx
                    · exact hg x (by simp [hx])
                    · exact hO2
                    · exact hg x (by simp [hx])
                  refine region ?_
                  refine op (y (x_move rfl) rfl ?_)
                  refine op (y (x_nilPtr rfl) rfl ?_)
                  refine op (y (x_fieldAddr fo_90_1 rfl) rfl ?_)
                  refine op (y (x_load1 ag_3 rfl (by first | assumption | exact Cell.own 0 rfl rfl | exact Cell.own 1 rfl rfl | exact Cell.own 2 rfl rfl | exact Cell.own 3 rfl rfl | exact Cell.own 4 rfl rfl | exact Cell.own 5 rfl rfl | exact Cell.own 6 rfl rfl | exact Cell.own 7 rfl rfl | exact Cell.own 8 rfl rfl | exact Cell.own 9 rfl rfl | exact Cell.ofRo (by assumption))) rfl ?_)
                  refine op (y (x_eql rfl rfl) rfl ?_)
                  refine nil ?_
                  refine n_then ?_
                  refine cond rfl (fun h30 => ?_) (fun h30 => ?_)
                  · try simp only [decide_eq_true_eq, decide_eq_false_iff_not, beq_iff_eq, bne_iff_ne, ne_eq, beq_eq_false_iff_ne, bne_eq_false_iff_eq, Bool.not_eq_true', Bool.not_eq_false', Bool.not_eq_true, Bool.not_eq_false, Decidable.not_not, Int.not_lt, Int.not_le] at h30
                    refine draw (List.flatten [[stB g.p A2 cap2 s2], [(a, Obj.cells [Value.slice oA os.length oc, Value.int .i64 (n : Nat), Value.slice tA (G1 ++ g :: G2).length tc, Value.map (some rb), Value.map (some ru)].toArray 87 (0, 0))]]) (by kernel_rfl) ?_
                    refine d_take 0 rfl (by kernel_rfl) (by kernel_rfl) (by kernel_rfl) (fun _ _ _ h => h) rfl (.inl rfl) (x_move rfl) (fun w hi => J.of_le (by first | exact Ro.le.refl _ ) (fun x hx => by simp only [List.flatten_cons, List.flatten_nil, List.append_nil, List.nil_append, List.cons_append, List.mem_cons, List.mem_singleton, List.not_mem_nil, or_false] at hx; rcases hx with rfl | rfl | rfl <;> simp) hi) ?_
                    refine d_take 1 rfl (by kernel_rfl) (by kernel_rfl) (by kernel_rfl) (fun _ _ _ h => h) rfl (.inl rfl) (x_nilPtr rfl) (fun w hi => J.of_le (by first | exact Ro.le.refl _ ) (fun x hx => by simp only [List.flatten_cons, List.flatten_nil, List.append_nil, List.nil_append, List.cons_append, List.mem_cons, List.mem_singleton, List.not_mem_nil, or_false] at hx; rcases hx with rfl | rfl | rfl <;> simp) hi) ?_
                    refine d_take 2 rfl (by kernel_rfl) (by kernel_rfl) (by kernel_rfl) (fun _ _ _ h => h) rfl (.inl rfl) (x_fieldAddr fo_87_4 rfl) (fun w hi => J.of_le (by first | exact Ro.le.refl _ ) (fun x hx => by simp only [List.flatten_cons, List.flatten_nil, List.append_nil, List.nil_append, List.cons_append, List.mem_cons, List.mem_singleton, List.not_mem_nil, or_false] at hx; rcases hx with rfl | rfl | rfl <;> simp) hi) ?_
                    refine d_take 3 rfl (by kernel_rfl) (by kernel_rfl) (by kernel_rfl) (fun _ _ _ h => h) rfl (.inl rfl) (x_load1 ag_85 rfl (by first | assumption | exact Cell.own 0 rfl rfl | exact Cell.own 1 rfl rfl | exact Cell.own 2 rfl rfl | exact Cell.own 3 rfl rfl | exact Cell.own 4 rfl rfl | exact Cell.own 5 rfl rfl | exact Cell.own 6 rfl rfl | exact Cell.own 7 rfl rfl | exact Cell.own 8 rfl rfl | exact Cell.own 9 rfl rfl | exact Cell.ofRo (by assumption))) (fun w hi => J.of_le (by first | exact Ro.le.refl _ ) (fun x hx => by simp only [List.flatten_cons, List.flatten_nil, List.append_nil, List.nil_append, List.cons_append, List.mem_cons, List.mem_singleton, List.not_mem_nil, or_false] at hx; rcases hx with rfl | rfl | rfl <;> simp) hi) ?_
                    refine d_take 4 rfl (by kernel_rfl) (by kernel_rfl) (by kernel_rfl) (fun _ _ _ h => h) rfl (.inl rfl) (x_move rfl) (fun w hi => J.of_le (by first | exact Ro.le.refl _ ) (fun x hx => by simp only [List.flatten_cons, List.flatten_nil, List.append_nil, List.nil_append, List.cons_append, List.mem_cons, List.mem_singleton, List.not_mem_nil, or_false] at hx; rcases hx with rfl | rfl | rfl <;> simp) hi) ?_
                    refine d_take 5 rfl (by kernel_rfl) (by kernel_rfl) (by kernel_rfl) (fun _ _ _ h => h) rfl (.inl rfl) (x_nilPtr rfl) (fun w hi => J.of_le (by first | exact Ro.le.refl _ ) (fun x hx => by simp only [List.flatten_cons, List.flatten_nil, List.append_nil, List.nil_append, List.cons_append, List.mem_cons, List.mem_singleton, List.not_mem_nil, or_false] at hx; rcases hx with rfl | rfl | rfl <;> simp) hi) ?_
                    refine d_take 6 rfl (by kernel_rfl) (by kernel_rfl) (by kernel_rfl) (fun _ _ _ h => h) rfl (.inl rfl) (x_fieldAddr fo_90_0 rfl) (fun w hi => J.of_le (by first | exact Ro.le.refl _ ) (fun x hx => by simp only [List.flatten_cons, List.flatten_nil, List.append_nil, List.nil_append, List.cons_append, List.mem_cons, List.mem_singleton, List.not_mem_nil, or_false] at hx; rcases hx with rfl | rfl | rfl <;> simp) hi) ?_
                    refine d_take 7 rfl (by kernel_rfl) (by kernel_rfl) (by kernel_rfl) (fun _ _ _ h => h) rfl (.inl rfl) (x_fieldAddr fo_61_1 rfl) (fun w hi => J.of_le (by first | exact Ro.le.refl _ ) (fun x hx => by simp only [List.flatten_cons, List.flatten_nil, List.append_nil, List.nil_append, List.cons_append, List.mem_cons, List.mem_singleton, List.not_mem_nil, or_false] at hx; rcases hx with rfl | rfl | rfl <;> simp) hi) ?_
                    refine d_take 8 rfl (by kernel_rfl) (by kernel_rfl) (by kernel_rfl) (fun _ _ _ h => h) rfl (.inl rfl) (x_load1 ag_3 rfl (by first | assumption | exact Cell.own 0 rfl rfl | exact Cell.own 1 rfl rfl | exact Cell.own 2 rfl rfl | exact Cell.own 3 rfl rfl | exact Cell.own 4 rfl rfl | exact Cell.own 5 rfl rfl | exact Cell.own 6 rfl rfl | exact Cell.own 7 rfl rfl | exact Cell.own 8 rfl rfl | exact Cell.own 9 rfl rfl | exact Cell.ofRo (by assumption))) (fun w hi => J.of_le (by first | exact Ro.le.refl _ ) (fun x hx => by simp only [List.flatten_cons, List.flatten_nil, List.append_nil, List.nil_append, List.cons_append, List.mem_cons, List.mem_singleton, List.not_mem_nil, or_false] at hx; rcases hx with rfl | rfl | rfl <;> simp) hi) ?_
                    refine d_one 9 rfl (by kernel_rfl) (.inl rfl) (e_delete 7 Tryd.underlying85 keI rfl rfl rfl heu (fun _ => rfl) fun eu2 hE2 => ?_)
                    refine d_next (fun w hi => J.of_le (by first | exact Ro.le.refl _ ) (fun x hx => by simp only [List.flatten_cons, List.flatten_nil, List.append_nil, List.nil_append, List.cons_append, List.mem_cons, List.mem_singleton, List.not_mem_nil, or_false] at hx; rcases hx with rfl | rfl | rfl <;> simp) hi) ?_
                    refine d_end (by kernel_rfl) ?_
                    refine n_then ?_
                    refine seq ?_
                    refine region ?_
                    refine op (y (x_move rfl) rfl ?_)
                    refine op (y (x_nilPtr rfl) rfl ?_)
                    refine op (y (x_fieldAddr fo_87_1 rfl) rfl ?_)
                    refine op (y (x_load1 ag_3 rfl (by first | assumption | exact Cell.own 0 rfl rfl | exact Cell.own 1 rfl rfl | exact Cell.own 2 rfl rfl | exact Cell.own 3 rfl rfl | exact Cell.own 4 rfl rfl | exact Cell.own 5 rfl rfl | exact Cell.own 6 rfl rfl | exact Cell.own 7 rfl rfl | exact Cell.own 8 rfl rfl | exact Cell.own 9 rfl rfl | exact Cell.ofRo (by assumption))) rfl ?_)
                    refine op (y (x_add rfl rfl _ (wr (by omega) (by omega))) rfl ?_)
                    refine said 165 (.int .i64 ((n + 1 : Nat) : Int)) rfl (by simp) ?_
                    refine op (y (x_nilPtr rfl) rfl ?_)
                    refine op (y (x_fieldAddr fo_87_1 rfl) rfl ?_)
                    first | refine op (e_store 0 rfl rfl ts_3 rfl rfl rfl rfl rfl rfl ?_) | refine op (e_store 1 rfl rfl ts_3 rfl rfl rfl rfl rfl rfl ?_) | refine op (e_store 2 rfl rfl ts_3 rfl rfl rfl rfl rfl rfl ?_) | refine op (e_store 3 rfl rfl ts_3 rfl rfl rfl rfl rfl rfl ?_) | refine op (e_store 4 rfl rfl ts_3 rfl rfl rfl rfl rfl rfl ?_) | refine op (e_store 5 rfl rfl ts_3 rfl rfl rfl rfl rfl rfl ?_) | refine op (e_store 6 rfl rfl ts_3 rfl rfl rfl rfl rfl rfl ?_) | refine op (e_store 7 rfl rfl ts_3 rfl rfl rfl rfl rfl rfl ?_) | refine op (e_store 8 rfl rfl ts_3 rfl rfl rfl rfl rfl rfl ?_) | refine op (e_store 9 rfl rfl ts_3 rfl rfl rfl rfl rfl rfl ?_)
                    refine nil ?_
                    refine n_then ?_
                    refine seq ?_
                    refine region ?_
                    refine op (y (x_assign rfl) rfl ?_)
                    refine nil ?_
                    refine n_then ?_
                    refine ret ?_
                    first | exact done rfl (.tmp rfl (.nil)) (hle17.trans (hro8.trans hle143)) ([(a, Obj.cells [Value.slice oA os.length oc, Value.int .i64 (n + 1 : Nat), Value.slice tA (G1 ++ g :: G2).length tc, Value.map (some rb), Value.map (some ru)].toArray 87 (0, 0))] :: Rt :: [(rb, Obj.map eb cb)] :: [(ru, Obj.map eu2 cu)] :: (G1 ++ ⟨g.p, A2, cap2, R2, s2⟩ :: G2).flatMap SG.blks :: L) (back_sub (g := ⟨g.p, A2, cap2, R2, s2⟩)) (⟨IfV.nil, .inl ⟨rfl, ⟨a, oA, oc, tA, tc, Rt, rb, eb, cb, mb, ru, eu2, cu, _, G1 ++ ⟨g.p, A2, cap2, R2, s2⟩ :: G2⟩, rfl, hfeed, ⟨ho.mono (hle17.trans (hro8.trans hle143)), ht2, heb, fun id => by rw [hfid]; exact hhb id, hE2, fun th => by show mget (mdel mu s2.tx.thread) th = ((fbz (G1 ++ (⟨g.p, A2, cap2, R2, s2⟩ : SG) :: G2) th).map adr).map (fun a => Value.pointer (some a)); rw [mget_mdel, fbz_del (g := g) (g' := ⟨g.p, A2, cap2, R2, s2⟩) hinv.thr (fromM_live hst) h30]; show (if s2.tx.thread = th then none else _) = _; rw [f2]; exact (if h : g.s.tx.thread = th then (by rw [if_pos h, if_pos h]; rfl) else (by rw [if_neg h, if_neg h]; exact hhu th)), hg2, hinv2, (by show n + 1 ≤ 400; omega), hos⟩, by simp [AX.L]⟩⟩) | exact done rfl (.tmp rfl (.nil)) (hle17.trans (hro8.trans hle143)) ([(a, Obj.cells [Value.slice oA os.length oc, Value.int .i64 (n + 1 : Nat), Value.slice tA (G1 ++ g :: G2).length tc, Value.map (some rb), Value.map (some ru)].toArray 87 (0, 0))] :: Rt :: [(rb, Obj.map eb cb)] :: [(ru, Obj.map eu cu)] :: (G1 ++ ⟨g.p, A2, cap2, R2, s2⟩ :: G2).flatMap SG.blks :: L) (back_sub (g := ⟨g.p, A2, cap2, R2, s2⟩)) (⟨IfV.nil, .inl ⟨rfl, ⟨a, oA, oc, tA, tc, Rt, rb, eb, cb, mb, ru, eu, cu, _, G1 ++ ⟨g.p, A2, cap2, R2, s2⟩ :: G2⟩, rfl, hfeed, ⟨ho.mono (hle17.trans (hro8.trans hle143)), ht2, heb, fun id => by rw [hfid]; exact hhb id, heu, fun th => by rw [fbz_set (g := g) (g' := ⟨g.p, A2, cap2, R2, s2⟩) f2 rfl (fromM_live hst) h30]; exact hhu th, hg2, hinv2, (by show n + 1 ≤ 400; omega), hos⟩, by simp [AX.L]⟩⟩)
                  · try simp only [decide_eq_true_eq, decide_eq_false_iff_not, beq_iff_eq, bne_iff_ne, ne_eq, beq_eq_false_iff_ne, bne_eq_false_iff_eq, Bool.not_eq_true', Bool.not_eq_false', Bool.not_eq_true, Bool.not_eq_false, Decidable.not_not, Int.not_lt, Int.not_le] at h30
                    refine skip ?_
                    refine n_then ?_
                    refine seq ?_
                    refine region ?_
                    refine op (y (x_move rfl) rfl ?_)
                    refine op (y (x_nilPtr rfl) rfl ?_)
                    refine op (y (x_fieldAddr fo_87_1 rfl) rfl ?_)
                    refine op (y (x_load1 ag_3 rfl (by first | assumption | exact Cell.own 0 rfl rfl | exact Cell.own 1 rfl rfl | exact Cell.own 2 rfl rfl | exact Cell.own 3 rfl rfl | exact Cell.own 4 rfl rfl | exact Cell.own 5 rfl rfl | exact Cell.own 6 rfl rfl | exact Cell.own 7 rfl rfl | exact Cell.own 8 rfl rfl | exact Cell.own 9 rfl rfl | exact Cell.ofRo (by assumption))) rfl ?_)
                    refine op (y (x_add rfl rfl _ (wr (by omega) (by omega))) rfl ?_)
                    refine said 165 (.int .i64 ((n + 1 : Nat) : Int)) rfl (by simp) ?_
                    refine op (y (x_nilPtr rfl) rfl ?_)
                    refine op (y (x_fieldAddr fo_87_1 rfl) rfl ?_)
                    first | refine op (e_store 0 rfl rfl ts_3 rfl rfl rfl rfl rfl rfl ?_) | refine op (e_store 1 rfl rfl ts_3 rfl rfl rfl rfl rfl rfl ?_) | refine op (e_store 2 rfl rfl ts_3 rfl rfl rfl rfl rfl rfl ?_) | refine op (e_store 3 rfl rfl ts_3 rfl rfl rfl rfl rfl rfl ?_) | refine op (e_store 4 rfl rfl ts_3 rfl rfl rfl rfl rfl rfl ?_) | refine op (e_store 5 rfl rfl ts_3 rfl rfl rfl rfl rfl rfl ?_) | refine op (e_store 6 rfl rfl ts_3 rfl rfl rfl rfl rfl rfl ?_) | refine op (e_store 7 rfl rfl ts_3 rfl rfl rfl rfl rfl rfl ?_) | refine op (e_store 8 rfl rfl ts_3 rfl rfl rfl rfl rfl rfl ?_) | refine op (e_store 9 rfl rfl ts_3 rfl rfl rfl rfl rfl rfl ?_)
                    refine nil ?_
                    refine n_then ?_
                    refine seq ?_
                    refine region ?_
                    refine op (y (x_assign rfl) rfl ?_)
                    refine nil ?_
                    refine n_then ?_
                    refine ret ?_
                    first | exact done rfl (.tmp rfl (.nil)) (hle17.trans (hro8.trans hle143)) ([(a, Obj.cells [Value.slice oA os.length oc, Value.int .i64 (n + 1 : Nat), Value.slice tA (G1 ++ g :: G2).length tc, Value.map (some rb), Value.map (some ru)].toArray 87 (0, 0))] :: Rt :: [(rb, Obj.map eb cb)] :: [(ru, Obj.map eu2 cu)] :: (G1 ++ ⟨g.p, A2, cap2, R2, s2⟩ :: G2).flatMap SG.blks :: L) (back_sub (g := ⟨g.p, A2, cap2, R2, s2⟩)) (⟨IfV.nil, .inl ⟨rfl, ⟨a, oA, oc, tA, tc, Rt, rb, eb, cb, mb, ru, eu2, cu, _, G1 ++ ⟨g.p, A2, cap2, R2, s2⟩ :: G2⟩, rfl, hfeed, ⟨ho.mono (hle17.trans (hro8.trans hle143)), ht2, heb, fun id => by rw [hfid]; exact hhb id, hE2, fun th => by show mget (mdel mu s2.tx.thread) th = ((fbz (G1 ++ (⟨g.p, A2, cap2, R2, s2⟩ : SG) :: G2) th).map adr).map (fun a => Value.pointer (some a)); rw [mget_mdel, fbz_del (g := g) (g' := ⟨g.p, A2, cap2, R2, s2⟩) hinv.thr (fromM_live hst) h30]; show (if s2.tx.thread = th then none else _) = _; rw [f2]; exact (if h : g.s.tx.thread = th then (by rw [if_pos h, if_pos h]; rfl) else (by rw [if_neg h, if_neg h]; exact hhu th)), hg2, hinv2, (by show n + 1 ≤ 400; omega), hos⟩, by simp [AX.L]⟩⟩) | exact done rfl (.tmp rfl (.nil)) (hle17.trans (hro8.trans hle143)) ([(a, Obj.cells [Value.slice oA os.length oc, Value.int .i64 (n + 1 : Nat), Value.slice tA (G1 ++ g :: G2).length tc, Value.map (some rb), Value.map (some ru)].toArray 87 (0, 0))] :: Rt :: [(rb, Obj.map eb cb)] :: [(ru, Obj.map eu cu)] :: (G1 ++ ⟨g.p, A2, cap2, R2, s2⟩ :: G2).flatMap SG.blks :: L) (back_sub (g := ⟨g.p, A2, cap2, R2, s2⟩)) (⟨IfV.nil, .inl ⟨rfl, ⟨a, oA, oc, tA, tc, Rt, rb, eb, cb, mb, ru, eu, cu, _, G1 ++ ⟨g.p, A2, cap2, R2, s2⟩ :: G2⟩, rfl, hfeed, ⟨ho.mono (hle17.trans (hro8.trans hle143)), ht2, heb, fun id => by rw [hfid]; exact hhb id, heu, fun th => by rw [fbz_set (g := g) (g' := ⟨g.p, A2, cap2, R2, s2⟩) f2 rfl (fromM_live hst) h30]; exact hhu th, hg2, hinv2, (by show n + 1 ≤ 400; omega), hos⟩, by simp [AX.L]⟩⟩)

end Go.Proofs.YtijafcilfefafaaDoor
