/- Transactions as an automaton of histories keeps them; the walks of what an event does with its transaction. -/
import Derived.Test.YtijafcilfefafaaDoorV12
namespace Go.Proofs.YtijafcilfefafaaDoor
open Go Go.U
set_option maxRecDepth 20000
set_option linter.unusedSimpArgs false
set_option linter.unusedVariables false

structure De where
  obj : Int
  op : Int
  key : Int
  val : Int
  ret : Int
  got : Int
  at_ : Int
  back : Int
def encDe (d : De) : List Value := [.int .i64 d.obj, .int .i64 d.op, .int .i64 d.key, .int .i64 d.val, .int .i64 d.ret, .int .i64 d.got, .int .i64 d.at_, .int .i64 d.back]
structure Tm where
  id : Int
  thread : Int
  status : Int
  beg : Int
  fin : Int
  try_ : Int
  ds : List De
structure St where
  tx : Tm
  stand : Int
theorem enc_de {l : List De} : ∀ x ∈ l, (encDe x).length = 8 := fun _ _ => rfl
theorem ok_de (l : List De) : ∀ u ∈ l.flatMap encDe, u.oneCell' = true := fun u hu => by
  obtain ⟨o, _, h⟩ := List.mem_flatMap.1 hu
  simp [encDe] at h
  rcases h with rfl | rfl | rfl | rfl | rfl | rfl | rfl | rfl <;> rfl
/-- a transaction's cells, and where it stands -/
def tmC (A : Option Addr) (cap : Nat) (t : Tm) : List Value := [.int .i64 t.id, .int .i64 t.thread, .int .i64 t.status, .int .i64 t.beg, .int .i64 t.fin, .int .i64 t.try_, .slice A t.ds.length cap]
def stC (A : Option Addr) (cap : Nat) (s : St) : List Value := [.int .i64 s.tx.id, .int .i64 s.tx.thread, .int .i64 s.tx.status, .int .i64 s.tx.beg, .int .i64 s.tx.fin, .int .i64 s.tx.try_, .slice A s.tx.ds.length cap, .int .i64 s.stand]
def stB (p : Nat) (A : Option Addr) (cap : Nat) (s : St) : Blk := (p, Obj.cells (stC A cap s).toArray 90 (0, 0))
abbrev OwnD (A : Option Addr) (cap : Nat) (ds : List De) (R : List Blk) : Prop := OwnS 72 8 A ds.length cap (ds.flatMap encDe) R
def fromM (k : Int) : List Int := if k = 5 then [3] else if k = 6 then [1, 2, 3, 4] else if k = 3 then [2] else [1]
/-- what an event does with its transaction -/
def moveM (s : St) (e : Ev) (n : Int) : Option St :=
  if e.kind = 2 then some ⟨{ s.tx with ds := s.tx.ds ++ [⟨e.obj, e.op, e.key, e.val, 0, 0, n, -1⟩] }, 2⟩
  else if e.kind = 3 then match s.tx.ds.getLast? with
    | none => none
    | some d => if fitsK d.op e.ret = true then some ⟨{ s.tx with ds := s.tx.ds.dropLast ++ [{ d with ret := e.ret, got := e.val, back := n }] }, 1⟩ else none
  else if e.kind = 4 then some ⟨{ s.tx with try_ := n, status := 2 }, 3⟩
  else if e.kind = 7 then some ⟨s.tx, 4⟩
  else if e.kind = 5 then some ⟨{ s.tx with fin := n, status := 3 }, 5⟩
  else some ⟨{ s.tx with fin := n, status := 4 }, 5⟩
def PMove (p : Nat) (A : Option Addr) (cap : Nat) (R : List Blk) (s : St) (r : Option St) (L : List (List Blk)) : Value → Ro → List (List Blk) → Prop := fun v _ L' =>
  IfV v ∧ ((isNilI v = true ∧ ∃ s', r = some s' ∧ ∃ A' cap' R', OwnD A' cap' s'.tx.ds R' ∧ L' = [stB p A' cap' s'] :: R' :: L) ∨ (isNilI v = false ∧ r = none ∧ L' = [stB p A cap s] :: R :: L))
/-- what is asked of the function that does it -/
def MoveC (er : Nat → Addr) (fk : FuncId) (caps : List Value) (k : Int) (ro : Ro) : Prop :=
  ∀ (ro' : Ro) (p : Nat) (A : Option Addr) (cap : Nat) (R : List Blk) (s : St) (e : Ev) (n : Nat) (L : List (List Blk)), ro.le ro' → Glob er ro' → e.kind = k → n ≤ 400 → OwnD A cap s.tx.ds R → s.tx.ds.length ≤ 400 → s.stand ∈ fromM k → (k = 3 → s.tx.ds ≠ []) →
    CT Tryd.prog fk ([Value.pointer (some ⟨p, 0, none⟩), Value.agg (encEv e).toArray, Value.int .i64 (n : Nat)] ++ caps).toArray ro' ([stB p A cap s] :: R :: L) (PMove p A cap R s (moveM s e n) L)
theorem MoveC.mono {er : Nat → Addr} {fk : FuncId} {caps : List Value} {k : Int} {ro ro' : Ro} (h : MoveC er fk caps k ro) (hle : ro.le ro') : MoveC er fk caps k ro' := fun ro2 p A cap R s e n L h2 => h ro2 p A cap R s e n L (hle.trans h2)
theorem set_app (I D vs : List Value) {q0 : Nat} (j : Nat) (hI : I.length = q0) : (I ++ D).take (q0 + j) ++ vs ++ (I ++ D).drop (q0 + j + vs.length) = I ++ (D.take j ++ vs ++ D.drop (j + vs.length)) := by
  subst hI
  rw [Nat.add_assoc, List.take_length_add_append, List.drop_length_add_append]
  simp
theorem app_get (I D : List Value) {q0 : Nat} (j : Nat) (hI : I.length = q0) : (I ++ D)[q0 + j]? = D[j]? := by
  subst hI
  rw [List.getElem?_append_right (by omega)]
  congr 1; omega
theorem len_de (l : List De) : (l.flatMap encDe).length = l.length * 8 := by
  induction l with
  | nil => rfl
  | cons a l ih => rw [List.flatMap_cons, List.length_append, ih]; simp [encDe]; omega

theorem moveTry_c (p : Nat) (A : Option Addr) (cap : Nat) (R : List Blk) (s : St) (e : Ev) (n : Nat) (hn : n ≤ 400) (hO : OwnD A cap s.tx.ds R) (hds : s.tx.ds.length ≤ 400) (ro : Ro) (L : List (List Blk)) (hk : e.kind = 4) :
    CT Tryd.prog 68 [.pointer (some ⟨p, 0, none⟩), .agg (encEv e).toArray, .int .i64 (n : Nat)].toArray ro ([(p, Obj.cells [Value.int .i64 s.tx.id, Value.int .i64 s.tx.thread, Value.int .i64 s.tx.status, Value.int .i64 s.tx.beg, Value.int .i64 s.tx.fin, Value.int .i64 s.tx.try_, Value.slice A s.tx.ds.length cap, Value.int .i64 s.stand].toArray 90 (0, 0))] :: R :: L) (PMove p A cap R s (moveM s e n) L) := by
  refine enter Tryd.func68 rfl Tryd.ntmps68 rfl ?_
  refine seq ?_
  refine region ?_
  refine op (e_box rfl rfl rfl fun b4 => ?_)
  refine op (y (x_assign rfl) rfl ?_)
  refine nil ?_
  refine n_then ?_
  refine seq ?_
  refine region ?_
  refine op (y (x_move rfl) rfl ?_)
  refine op (y (x_move rfl) rfl ?_)
  refine op (y (x_move rfl) rfl ?_)
  refine op (y (x_move rfl) rfl ?_)
  refine op (y (x_nilPtr rfl) rfl ?_)
  refine op (y (x_fieldAddr fo_90_1 rfl) rfl ?_)
  first | refine op (e_store 0 rfl rfl ts_3 rfl rfl rfl rfl rfl rfl ?_) | refine op (e_store 1 rfl rfl ts_3 rfl rfl rfl rfl rfl rfl ?_) | refine op (e_store 2 rfl rfl ts_3 rfl rfl rfl rfl rfl rfl ?_) | refine op (e_store 3 rfl rfl ts_3 rfl rfl rfl rfl rfl rfl ?_) | refine op (e_store 4 rfl rfl ts_3 rfl rfl rfl rfl rfl rfl ?_) | refine op (e_store 5 rfl rfl ts_3 rfl rfl rfl rfl rfl rfl ?_) | refine op (e_store 6 rfl rfl ts_3 rfl rfl rfl rfl rfl rfl ?_) | refine op (e_store 7 rfl rfl ts_3 rfl rfl rfl rfl rfl rfl ?_) | refine op (e_store 8 rfl rfl ts_3 rfl rfl rfl rfl rfl rfl ?_) | refine op (e_store 9 rfl rfl ts_3 rfl rfl rfl rfl rfl rfl ?_)
  refine op (y (x_nilPtr rfl) rfl ?_)
  refine op (y (x_fieldAddr fo_90_0 rfl) rfl ?_)
  refine op (y (x_fieldAddr fo_61_5 rfl) rfl ?_)
  first | refine op (e_store 0 rfl rfl ts_3 rfl rfl rfl rfl rfl rfl ?_) | refine op (e_store 1 rfl rfl ts_3 rfl rfl rfl rfl rfl rfl ?_) | refine op (e_store 2 rfl rfl ts_3 rfl rfl rfl rfl rfl rfl ?_) | refine op (e_store 3 rfl rfl ts_3 rfl rfl rfl rfl rfl rfl ?_) | refine op (e_store 4 rfl rfl ts_3 rfl rfl rfl rfl rfl rfl ?_) | refine op (e_store 5 rfl rfl ts_3 rfl rfl rfl rfl rfl rfl ?_) | refine op (e_store 6 rfl rfl ts_3 rfl rfl rfl rfl rfl rfl ?_) | refine op (e_store 7 rfl rfl ts_3 rfl rfl rfl rfl rfl rfl ?_) | refine op (e_store 8 rfl rfl ts_3 rfl rfl rfl rfl rfl rfl ?_) | refine op (e_store 9 rfl rfl ts_3 rfl rfl rfl rfl rfl rfl ?_)
  refine op (y (x_nilPtr rfl) rfl ?_)
  refine op (y (x_fieldAddr fo_90_0 rfl) rfl ?_)
  refine op (y (x_fieldAddr fo_61_2 rfl) rfl ?_)
  first | refine op (e_store 0 rfl rfl ts_3 rfl rfl rfl rfl rfl rfl ?_) | refine op (e_store 1 rfl rfl ts_3 rfl rfl rfl rfl rfl rfl ?_) | refine op (e_store 2 rfl rfl ts_3 rfl rfl rfl rfl rfl rfl ?_) | refine op (e_store 3 rfl rfl ts_3 rfl rfl rfl rfl rfl rfl ?_) | refine op (e_store 4 rfl rfl ts_3 rfl rfl rfl rfl rfl rfl ?_) | refine op (e_store 5 rfl rfl ts_3 rfl rfl rfl rfl rfl rfl ?_) | refine op (e_store 6 rfl rfl ts_3 rfl rfl rfl rfl rfl rfl ?_) | refine op (e_store 7 rfl rfl ts_3 rfl rfl rfl rfl rfl rfl ?_) | refine op (e_store 8 rfl rfl ts_3 rfl rfl rfl rfl rfl rfl ?_) | refine op (e_store 9 rfl rfl ts_3 rfl rfl rfl rfl rfl rfl ?_)
  refine nil ?_
  refine n_then ?_
  refine seq ?_
  refine region ?_
  refine op (y (x_assign rfl) rfl ?_)
  refine nil ?_
  refine n_then ?_
  refine ret ?_
  exact done rfl (.tmp rfl (.nil)) (Ro.le.refl _) (_ :: R :: L) (subF (by (repeat (first | exact List.Sublist.refl _ | apply List.Sublist.cons_cons | apply List.Sublist.cons)); done)) (⟨IfV.nil, .inl ⟨rfl, ⟨{ s.tx with try_ := n, status := 2 }, 3⟩, by simp [moveM, hk], A, cap, R, hO, rfl⟩⟩)

theorem moveCancel_c (p : Nat) (A : Option Addr) (cap : Nat) (R : List Blk) (s : St) (e : Ev) (n : Nat) (hn : n ≤ 400) (hO : OwnD A cap s.tx.ds R) (hds : s.tx.ds.length ≤ 400) (ro : Ro) (L : List (List Blk)) (hk : e.kind = 7) :
    CT Tryd.prog 69 [.pointer (some ⟨p, 0, none⟩), .agg (encEv e).toArray, .int .i64 (n : Nat)].toArray ro ([(p, Obj.cells [Value.int .i64 s.tx.id, Value.int .i64 s.tx.thread, Value.int .i64 s.tx.status, Value.int .i64 s.tx.beg, Value.int .i64 s.tx.fin, Value.int .i64 s.tx.try_, Value.slice A s.tx.ds.length cap, Value.int .i64 s.stand].toArray 90 (0, 0))] :: R :: L) (PMove p A cap R s (moveM s e n) L) := by
  refine enter Tryd.func69 rfl Tryd.ntmps69 rfl ?_
  refine seq ?_
  refine region ?_
  refine op (e_box rfl rfl rfl fun b4 => ?_)
  refine op (y (x_assign rfl) rfl ?_)
  refine nil ?_
  refine n_then ?_
  refine seq ?_
  refine region ?_
  refine op (y (x_move rfl) rfl ?_)
  refine op (y (x_nilPtr rfl) rfl ?_)
  refine op (y (x_fieldAddr fo_90_1 rfl) rfl ?_)
  first | refine op (e_store 0 rfl rfl ts_3 rfl rfl rfl rfl rfl rfl ?_) | refine op (e_store 1 rfl rfl ts_3 rfl rfl rfl rfl rfl rfl ?_) | refine op (e_store 2 rfl rfl ts_3 rfl rfl rfl rfl rfl rfl ?_) | refine op (e_store 3 rfl rfl ts_3 rfl rfl rfl rfl rfl rfl ?_) | refine op (e_store 4 rfl rfl ts_3 rfl rfl rfl rfl rfl rfl ?_) | refine op (e_store 5 rfl rfl ts_3 rfl rfl rfl rfl rfl rfl ?_) | refine op (e_store 6 rfl rfl ts_3 rfl rfl rfl rfl rfl rfl ?_) | refine op (e_store 7 rfl rfl ts_3 rfl rfl rfl rfl rfl rfl ?_) | refine op (e_store 8 rfl rfl ts_3 rfl rfl rfl rfl rfl rfl ?_) | refine op (e_store 9 rfl rfl ts_3 rfl rfl rfl rfl rfl rfl ?_)
  refine nil ?_
  refine n_then ?_
  refine seq ?_
  refine region ?_
  refine op (y (x_assign rfl) rfl ?_)
  refine nil ?_
  refine n_then ?_
  refine ret ?_
  exact done rfl (.tmp rfl (.nil)) (Ro.le.refl _) (_ :: R :: L) (subF (by (repeat (first | exact List.Sublist.refl _ | apply List.Sublist.cons_cons | apply List.Sublist.cons)); done)) (⟨IfV.nil, .inl ⟨rfl, ⟨s.tx, 4⟩, by simp [moveM, hk], A, cap, R, hO, rfl⟩⟩)

theorem moveCommit_c (p : Nat) (A : Option Addr) (cap : Nat) (R : List Blk) (s : St) (e : Ev) (n : Nat) (hn : n ≤ 400) (hO : OwnD A cap s.tx.ds R) (hds : s.tx.ds.length ≤ 400) (ro : Ro) (L : List (List Blk)) (hk : e.kind = 5) (b : Nat) (hb : ro.cell b 0 = some (.int .i64 3)) :
    CT Tryd.prog 64 [.pointer (some ⟨p, 0, none⟩), .agg (encEv e).toArray, .int .i64 (n : Nat), .pointer (some ⟨b, 0, none⟩)].toArray ro ([(p, Obj.cells [Value.int .i64 s.tx.id, Value.int .i64 s.tx.thread, Value.int .i64 s.tx.status, Value.int .i64 s.tx.beg, Value.int .i64 s.tx.fin, Value.int .i64 s.tx.try_, Value.slice A s.tx.ds.length cap, Value.int .i64 s.stand].toArray 90 (0, 0))] :: R :: L) (PMove p A cap R s (moveM s e n) L) := by
  refine enter Tryd.func64 rfl Tryd.ntmps64 rfl ?_
  refine seq ?_
  refine region ?_
  refine op (e_box rfl rfl rfl fun b5 => ?_)
  refine op (y (x_assign rfl) rfl ?_)
  refine nil ?_
  refine n_then ?_
  refine seq ?_
  refine draw (([] : List Blk)) (by kernel_rfl) ?_
  refine d_take 0 rfl (by kernel_rfl) (by kernel_rfl) (by kernel_rfl) (fun _ _ _ h => h) rfl (.inl rfl) (x_move rfl) (fun w hi => J.of_le (Ro.le.refl _) (fun x hx => absurd hx (by simp)) hi) ?_
  refine d_take 1 rfl (by kernel_rfl) (by kernel_rfl) (by kernel_rfl) (fun _ _ _ h => h) rfl (.inl rfl) (x_move rfl) (fun w hi => J.of_le (Ro.le.refl _) (fun x hx => absurd hx (by simp)) hi) ?_
  refine d_take 2 rfl (by kernel_rfl) (by kernel_rfl) (by kernel_rfl) (fun _ _ _ h => h) rfl (.inl rfl) (x_move rfl) (fun w hi => J.of_le (Ro.le.refl _) (fun x hx => absurd hx (by simp)) hi) ?_
  refine d_take 3 rfl (by kernel_rfl) (by kernel_rfl) (by kernel_rfl) (fun _ _ _ h => h) rfl (.inl rfl) (x_move rfl) (fun w hi => J.of_le (Ro.le.refl _) (fun x hx => absurd hx (by simp)) hi) ?_
  refine d_take 4 rfl (by kernel_rfl) (by kernel_rfl) (by kernel_rfl) (fun _ _ _ h => h) rfl (.inl rfl) (x_load1 ag_3 rfl (Cell.ofRo hb)) (fun w hi => J.of_le (Ro.le.refl _) (fun x hx => absurd hx (by simp)) hi) ?_
  refine d_take 5 rfl (by kernel_rfl) (by kernel_rfl) (by kernel_rfl) (fun _ _ _ h => h) rfl (.inl rfl) (x_nilPtr rfl) (fun w hi => J.of_le (Ro.le.refl _) (fun x hx => absurd hx (by simp)) hi) ?_
  refine d_take 6 rfl (by kernel_rfl) (by kernel_rfl) (by kernel_rfl) (fun _ _ _ h => h) rfl (.inl rfl) (x_fieldAddr fo_90_1 rfl) (fun w hi => J.of_le (Ro.le.refl _) (fun x hx => absurd hx (by simp)) hi) ?_
  first | refine d_one 7 rfl (by kernel_rfl) (.inl rfl) (e_store 0 rfl rfl ts_3 rfl rfl rfl rfl rfl rfl ?_) | refine d_one 7 rfl (by kernel_rfl) (.inl rfl) (e_store 1 rfl rfl ts_3 rfl rfl rfl rfl rfl rfl ?_) | refine d_one 7 rfl (by kernel_rfl) (.inl rfl) (e_store 2 rfl rfl ts_3 rfl rfl rfl rfl rfl rfl ?_) | refine d_one 7 rfl (by kernel_rfl) (.inl rfl) (e_store 3 rfl rfl ts_3 rfl rfl rfl rfl rfl rfl ?_) | refine d_one 7 rfl (by kernel_rfl) (.inl rfl) (e_store 4 rfl rfl ts_3 rfl rfl rfl rfl rfl rfl ?_) | refine d_one 7 rfl (by kernel_rfl) (.inl rfl) (e_store 5 rfl rfl ts_3 rfl rfl rfl rfl rfl rfl ?_) | refine d_one 7 rfl (by kernel_rfl) (.inl rfl) (e_store 6 rfl rfl ts_3 rfl rfl rfl rfl rfl rfl ?_) | refine d_one 7 rfl (by kernel_rfl) (.inl rfl) (e_store 7 rfl rfl ts_3 rfl rfl rfl rfl rfl rfl ?_) | refine d_one 7 rfl (by kernel_rfl) (.inl rfl) (e_store 8 rfl rfl ts_3 rfl rfl rfl rfl rfl rfl ?_) | refine d_one 7 rfl (by kernel_rfl) (.inl rfl) (e_store 9 rfl rfl ts_3 rfl rfl rfl rfl rfl rfl ?_)
  refine d_next (fun w hi => J.of_le (Ro.le.refl _) (fun x hx => absurd hx (by simp)) hi) ?_
  refine d_take 8 rfl (by kernel_rfl) (by kernel_rfl) (by kernel_rfl) (fun _ _ _ h => h) rfl (.inl rfl) (x_nilPtr rfl) (fun w hi => J.of_le (Ro.le.refl _) (fun x hx => absurd hx (by simp)) hi) ?_
  refine d_take 9 rfl (by kernel_rfl) (by kernel_rfl) (by kernel_rfl) (fun _ _ _ h => h) rfl (.inl rfl) (x_fieldAddr fo_90_0 rfl) (fun w hi => J.of_le (Ro.le.refl _) (fun x hx => absurd hx (by simp)) hi) ?_
  refine d_take 10 rfl (by kernel_rfl) (by kernel_rfl) (by kernel_rfl) (fun _ _ _ h => h) rfl (.inl rfl) (x_fieldAddr fo_61_4 rfl) (fun w hi => J.of_le (Ro.le.refl _) (fun x hx => absurd hx (by simp)) hi) ?_
  first | refine d_one 11 rfl (by kernel_rfl) (.inl rfl) (e_store 0 rfl rfl ts_3 rfl rfl rfl rfl rfl rfl ?_) | refine d_one 11 rfl (by kernel_rfl) (.inl rfl) (e_store 1 rfl rfl ts_3 rfl rfl rfl rfl rfl rfl ?_) | refine d_one 11 rfl (by kernel_rfl) (.inl rfl) (e_store 2 rfl rfl ts_3 rfl rfl rfl rfl rfl rfl ?_) | refine d_one 11 rfl (by kernel_rfl) (.inl rfl) (e_store 3 rfl rfl ts_3 rfl rfl rfl rfl rfl rfl ?_) | refine d_one 11 rfl (by kernel_rfl) (.inl rfl) (e_store 4 rfl rfl ts_3 rfl rfl rfl rfl rfl rfl ?_) | refine d_one 11 rfl (by kernel_rfl) (.inl rfl) (e_store 5 rfl rfl ts_3 rfl rfl rfl rfl rfl rfl ?_) | refine d_one 11 rfl (by kernel_rfl) (.inl rfl) (e_store 6 rfl rfl ts_3 rfl rfl rfl rfl rfl rfl ?_) | refine d_one 11 rfl (by kernel_rfl) (.inl rfl) (e_store 7 rfl rfl ts_3 rfl rfl rfl rfl rfl rfl ?_) | refine d_one 11 rfl (by kernel_rfl) (.inl rfl) (e_store 8 rfl rfl ts_3 rfl rfl rfl rfl rfl rfl ?_) | refine d_one 11 rfl (by kernel_rfl) (.inl rfl) (e_store 9 rfl rfl ts_3 rfl rfl rfl rfl rfl rfl ?_)
  refine d_next (fun w hi => J.of_le (Ro.le.refl _) (fun x hx => absurd hx (by simp)) hi) ?_
  refine d_take 12 rfl (by kernel_rfl) (by kernel_rfl) (by kernel_rfl) (fun _ _ _ h => h) rfl (.inl rfl) (x_nilPtr rfl) (fun w hi => J.of_le (Ro.le.refl _) (fun x hx => absurd hx (by simp)) hi) ?_
  refine d_take 13 rfl (by kernel_rfl) (by kernel_rfl) (by kernel_rfl) (fun _ _ _ h => h) rfl (.inl rfl) (x_fieldAddr fo_90_0 rfl) (fun w hi => J.of_le (Ro.le.refl _) (fun x hx => absurd hx (by simp)) hi) ?_
  refine d_take 14 rfl (by kernel_rfl) (by kernel_rfl) (by kernel_rfl) (fun _ _ _ h => h) rfl (.inl rfl) (x_fieldAddr fo_61_2 rfl) (fun w hi => J.of_le (Ro.le.refl _) (fun x hx => absurd hx (by simp)) hi) ?_
  first | refine d_one 15 rfl (by kernel_rfl) (.inl rfl) (e_store 0 rfl rfl ts_3 rfl rfl rfl rfl rfl rfl ?_) | refine d_one 15 rfl (by kernel_rfl) (.inl rfl) (e_store 1 rfl rfl ts_3 rfl rfl rfl rfl rfl rfl ?_) | refine d_one 15 rfl (by kernel_rfl) (.inl rfl) (e_store 2 rfl rfl ts_3 rfl rfl rfl rfl rfl rfl ?_) | refine d_one 15 rfl (by kernel_rfl) (.inl rfl) (e_store 3 rfl rfl ts_3 rfl rfl rfl rfl rfl rfl ?_) | refine d_one 15 rfl (by kernel_rfl) (.inl rfl) (e_store 4 rfl rfl ts_3 rfl rfl rfl rfl rfl rfl ?_) | refine d_one 15 rfl (by kernel_rfl) (.inl rfl) (e_store 5 rfl rfl ts_3 rfl rfl rfl rfl rfl rfl ?_) | refine d_one 15 rfl (by kernel_rfl) (.inl rfl) (e_store 6 rfl rfl ts_3 rfl rfl rfl rfl rfl rfl ?_) | refine d_one 15 rfl (by kernel_rfl) (.inl rfl) (e_store 7 rfl rfl ts_3 rfl rfl rfl rfl rfl rfl ?_) | refine d_one 15 rfl (by kernel_rfl) (.inl rfl) (e_store 8 rfl rfl ts_3 rfl rfl rfl rfl rfl rfl ?_) | refine d_one 15 rfl (by kernel_rfl) (.inl rfl) (e_store 9 rfl rfl ts_3 rfl rfl rfl rfl rfl rfl ?_)
  refine d_next (fun w hi => J.of_le (Ro.le.refl _) (fun x hx => absurd hx (by simp)) hi) ?_
  refine d_end (by kernel_rfl) ?_
  refine n_then ?_
  refine seq ?_
  refine region ?_
  refine op (y (x_assign rfl) rfl ?_)
  refine nil ?_
  refine n_then ?_
  refine ret ?_
  exact done rfl (.tmp rfl (.nil)) (Ro.le.refl _) (_ :: R :: L) (subF (by (repeat (first | exact List.Sublist.refl _ | apply List.Sublist.cons_cons | apply List.Sublist.cons)); done)) (⟨IfV.nil, .inl ⟨rfl, ⟨{ s.tx with fin := n, status := 3 }, 5⟩, by simp [moveM, hk], A, cap, R, hO, rfl⟩⟩)

theorem moveAbort_c (p : Nat) (A : Option Addr) (cap : Nat) (R : List Blk) (s : St) (e : Ev) (n : Nat) (hn : n ≤ 400) (hO : OwnD A cap s.tx.ds R) (hds : s.tx.ds.length ≤ 400) (ro : Ro) (L : List (List Blk)) (hk : e.kind = 6) (b : Nat) (hb : ro.cell b 0 = some (.int .i64 4)) :
    CT Tryd.prog 64 [.pointer (some ⟨p, 0, none⟩), .agg (encEv e).toArray, .int .i64 (n : Nat), .pointer (some ⟨b, 0, none⟩)].toArray ro ([(p, Obj.cells [Value.int .i64 s.tx.id, Value.int .i64 s.tx.thread, Value.int .i64 s.tx.status, Value.int .i64 s.tx.beg, Value.int .i64 s.tx.fin, Value.int .i64 s.tx.try_, Value.slice A s.tx.ds.length cap, Value.int .i64 s.stand].toArray 90 (0, 0))] :: R :: L) (PMove p A cap R s (moveM s e n) L) := by
  refine enter Tryd.func64 rfl Tryd.ntmps64 rfl ?_
  refine seq ?_
  refine region ?_
  refine op (e_box rfl rfl rfl fun b5 => ?_)
  refine op (y (x_assign rfl) rfl ?_)
  refine nil ?_
  refine n_then ?_
  refine seq ?_
  refine draw (([] : List Blk)) (by kernel_rfl) ?_
  refine d_take 0 rfl (by kernel_rfl) (by kernel_rfl) (by kernel_rfl) (fun _ _ _ h => h) rfl (.inl rfl) (x_move rfl) (fun w hi => J.of_le (Ro.le.refl _) (fun x hx => absurd hx (by simp)) hi) ?_
  refine d_take 1 rfl (by kernel_rfl) (by kernel_rfl) (by kernel_rfl) (fun _ _ _ h => h) rfl (.inl rfl) (x_move rfl) (fun w hi => J.of_le (Ro.le.refl _) (fun x hx => absurd hx (by simp)) hi) ?_
  refine d_take 2 rfl (by kernel_rfl) (by kernel_rfl) (by kernel_rfl) (fun _ _ _ h => h) rfl (.inl rfl) (x_move rfl) (fun w hi => J.of_le (Ro.le.refl _) (fun x hx => absurd hx (by simp)) hi) ?_
  refine d_take 3 rfl (by kernel_rfl) (by kernel_rfl) (by kernel_rfl) (fun _ _ _ h => h) rfl (.inl rfl) (x_move rfl) (fun w hi => J.of_le (Ro.le.refl _) (fun x hx => absurd hx (by simp)) hi) ?_
  refine d_take 4 rfl (by kernel_rfl) (by kernel_rfl) (by kernel_rfl) (fun _ _ _ h => h) rfl (.inl rfl) (x_load1 ag_3 rfl (Cell.ofRo hb)) (fun w hi => J.of_le (Ro.le.refl _) (fun x hx => absurd hx (by simp)) hi) ?_
  refine d_take 5 rfl (by kernel_rfl) (by kernel_rfl) (by kernel_rfl) (fun _ _ _ h => h) rfl (.inl rfl) (x_nilPtr rfl) (fun w hi => J.of_le (Ro.le.refl _) (fun x hx => absurd hx (by simp)) hi) ?_
  refine d_take 6 rfl (by kernel_rfl) (by kernel_rfl) (by kernel_rfl) (fun _ _ _ h => h) rfl (.inl rfl) (x_fieldAddr fo_90_1 rfl) (fun w hi => J.of_le (Ro.le.refl _) (fun x hx => absurd hx (by simp)) hi) ?_
  first | refine d_one 7 rfl (by kernel_rfl) (.inl rfl) (e_store 0 rfl rfl ts_3 rfl rfl rfl rfl rfl rfl ?_) | refine d_one 7 rfl (by kernel_rfl) (.inl rfl) (e_store 1 rfl rfl ts_3 rfl rfl rfl rfl rfl rfl ?_) | refine d_one 7 rfl (by kernel_rfl) (.inl rfl) (e_store 2 rfl rfl ts_3 rfl rfl rfl rfl rfl rfl ?_) | refine d_one 7 rfl (by kernel_rfl) (.inl rfl) (e_store 3 rfl rfl ts_3 rfl rfl rfl rfl rfl rfl ?_) | refine d_one 7 rfl (by kernel_rfl) (.inl rfl) (e_store 4 rfl rfl ts_3 rfl rfl rfl rfl rfl rfl ?_) | refine d_one 7 rfl (by kernel_rfl) (.inl rfl) (e_store 5 rfl rfl ts_3 rfl rfl rfl rfl rfl rfl ?_) | refine d_one 7 rfl (by kernel_rfl) (.inl rfl) (e_store 6 rfl rfl ts_3 rfl rfl rfl rfl rfl rfl ?_) | refine d_one 7 rfl (by kernel_rfl) (.inl rfl) (e_store 7 rfl rfl ts_3 rfl rfl rfl rfl rfl rfl ?_) | refine d_one 7 rfl (by kernel_rfl) (.inl rfl) (e_store 8 rfl rfl ts_3 rfl rfl rfl rfl rfl rfl ?_) | refine d_one 7 rfl (by kernel_rfl) (.inl rfl) (e_store 9 rfl rfl ts_3 rfl rfl rfl rfl rfl rfl ?_)
  refine d_next (fun w hi => J.of_le (Ro.le.refl _) (fun x hx => absurd hx (by simp)) hi) ?_
  refine d_take 8 rfl (by kernel_rfl) (by kernel_rfl) (by kernel_rfl) (fun _ _ _ h => h) rfl (.inl rfl) (x_nilPtr rfl) (fun w hi => J.of_le (Ro.le.refl _) (fun x hx => absurd hx (by simp)) hi) ?_
  refine d_take 9 rfl (by kernel_rfl) (by kernel_rfl) (by kernel_rfl) (fun _ _ _ h => h) rfl (.inl rfl) (x_fieldAddr fo_90_0 rfl) (fun w hi => J.of_le (Ro.le.refl _) (fun x hx => absurd hx (by simp)) hi) ?_
  refine d_take 10 rfl (by kernel_rfl) (by kernel_rfl) (by kernel_rfl) (fun _ _ _ h => h) rfl (.inl rfl) (x_fieldAddr fo_61_4 rfl) (fun w hi => J.of_le (Ro.le.refl _) (fun x hx => absurd hx (by simp)) hi) ?_
  first | refine d_one 11 rfl (by kernel_rfl) (.inl rfl) (e_store 0 rfl rfl ts_3 rfl rfl rfl rfl rfl rfl ?_) | refine d_one 11 rfl (by kernel_rfl) (.inl rfl) (e_store 1 rfl rfl ts_3 rfl rfl rfl rfl rfl rfl ?_) | refine d_one 11 rfl (by kernel_rfl) (.inl rfl) (e_store 2 rfl rfl ts_3 rfl rfl rfl rfl rfl rfl ?_) | refine d_one 11 rfl (by kernel_rfl) (.inl rfl) (e_store 3 rfl rfl ts_3 rfl rfl rfl rfl rfl rfl ?_) | refine d_one 11 rfl (by kernel_rfl) (.inl rfl) (e_store 4 rfl rfl ts_3 rfl rfl rfl rfl rfl rfl ?_) | refine d_one 11 rfl (by kernel_rfl) (.inl rfl) (e_store 5 rfl rfl ts_3 rfl rfl rfl rfl rfl rfl ?_) | refine d_one 11 rfl (by kernel_rfl) (.inl rfl) (e_store 6 rfl rfl ts_3 rfl rfl rfl rfl rfl rfl ?_) | refine d_one 11 rfl (by kernel_rfl) (.inl rfl) (e_store 7 rfl rfl ts_3 rfl rfl rfl rfl rfl rfl ?_) | refine d_one 11 rfl (by kernel_rfl) (.inl rfl) (e_store 8 rfl rfl ts_3 rfl rfl rfl rfl rfl rfl ?_) | refine d_one 11 rfl (by kernel_rfl) (.inl rfl) (e_store 9 rfl rfl ts_3 rfl rfl rfl rfl rfl rfl ?_)
  refine d_next (fun w hi => J.of_le (Ro.le.refl _) (fun x hx => absurd hx (by simp)) hi) ?_
  refine d_take 12 rfl (by kernel_rfl) (by kernel_rfl) (by kernel_rfl) (fun _ _ _ h => h) rfl (.inl rfl) (x_nilPtr rfl) (fun w hi => J.of_le (Ro.le.refl _) (fun x hx => absurd hx (by simp)) hi) ?_
  refine d_take 13 rfl (by kernel_rfl) (by kernel_rfl) (by kernel_rfl) (fun _ _ _ h => h) rfl (.inl rfl) (x_fieldAddr fo_90_0 rfl) (fun w hi => J.of_le (Ro.le.refl _) (fun x hx => absurd hx (by simp)) hi) ?_
  refine d_take 14 rfl (by kernel_rfl) (by kernel_rfl) (by kernel_rfl) (fun _ _ _ h => h) rfl (.inl rfl) (x_fieldAddr fo_61_2 rfl) (fun w hi => J.of_le (Ro.le.refl _) (fun x hx => absurd hx (by simp)) hi) ?_
  first | refine d_one 15 rfl (by kernel_rfl) (.inl rfl) (e_store 0 rfl rfl ts_3 rfl rfl rfl rfl rfl rfl ?_) | refine d_one 15 rfl (by kernel_rfl) (.inl rfl) (e_store 1 rfl rfl ts_3 rfl rfl rfl rfl rfl rfl ?_) | refine d_one 15 rfl (by kernel_rfl) (.inl rfl) (e_store 2 rfl rfl ts_3 rfl rfl rfl rfl rfl rfl ?_) | refine d_one 15 rfl (by kernel_rfl) (.inl rfl) (e_store 3 rfl rfl ts_3 rfl rfl rfl rfl rfl rfl ?_) | refine d_one 15 rfl (by kernel_rfl) (.inl rfl) (e_store 4 rfl rfl ts_3 rfl rfl rfl rfl rfl rfl ?_) | refine d_one 15 rfl (by kernel_rfl) (.inl rfl) (e_store 5 rfl rfl ts_3 rfl rfl rfl rfl rfl rfl ?_) | refine d_one 15 rfl (by kernel_rfl) (.inl rfl) (e_store 6 rfl rfl ts_3 rfl rfl rfl rfl rfl rfl ?_) | refine d_one 15 rfl (by kernel_rfl) (.inl rfl) (e_store 7 rfl rfl ts_3 rfl rfl rfl rfl rfl rfl ?_) | refine d_one 15 rfl (by kernel_rfl) (.inl rfl) (e_store 8 rfl rfl ts_3 rfl rfl rfl rfl rfl rfl ?_) | refine d_one 15 rfl (by kernel_rfl) (.inl rfl) (e_store 9 rfl rfl ts_3 rfl rfl rfl rfl rfl rfl ?_)
  refine d_next (fun w hi => J.of_le (Ro.le.refl _) (fun x hx => absurd hx (by simp)) hi) ?_
  refine d_end (by kernel_rfl) ?_
  refine n_then ?_
  refine seq ?_
  refine region ?_
  refine op (y (x_assign rfl) rfl ?_)
  refine nil ?_
  refine n_then ?_
  refine ret ?_
  exact done rfl (.tmp rfl (.nil)) (Ro.le.refl _) (_ :: R :: L) (subF (by (repeat (first | exact List.Sublist.refl _ | apply List.Sublist.cons_cons | apply List.Sublist.cons)); done)) (⟨IfV.nil, .inl ⟨rfl, ⟨{ s.tx with fin := n, status := 4 }, 5⟩, by simp [moveM, hk], A, cap, R, hO, rfl⟩⟩)

theorem end_c (st : Int) (ro : Ro) (L : List (List Blk)) :
    CT Tryd.prog 63 [.int .i64 st].toArray ro L (fun v ro' L' => ∃ b, v = .func (.func 64) #[] [.pointer (some ⟨b, 0, none⟩)].toArray ∧ ro'.cell b 0 = some (.int .i64 st) ∧ L = L') := by
  refine enter Tryd.func63 rfl Tryd.ntmps63 rfl ?_
  refine seq ?_
  refine region ?_
  refine op (e_box rfl rfl rfl fun b1 => ?_)
  refine op (y (x_assign rfl) rfl ?_)
  refine nil ?_
  refine n_then ?_
  refine seq ?_
  refine ufreeze fun ro1 hle1 hR1 => ?_
  have hb1 : ro1.cell b1 0 = some (.int .i64 st) := by have := hR1 _ (List.mem_singleton.2 rfl); simp only at this; unfold Ro.cell; rw [this]; rfl
  refine region ?_
  refine op (y (x_makeFunc rfl rfl) rfl ?_)
  refine op (y (x_assign rfl) rfl ?_)
  refine nil ?_
  refine n_then ?_
  refine ret ?_
  exact done rfl (.tmp rfl (.nil)) (hle1) (L) (subF (by (repeat (first | exact List.Sublist.refl _ | apply List.Sublist.cons_cons | apply List.Sublist.cons)); done)) (⟨b1, rfl, hb1, rfl⟩)

theorem moveCall_c (p : Nat) (A : Option Addr) (cap : Nat) (R : List Blk) (s : St) (e : Ev) (n : Nat) (hn : n ≤ 400) (hO : OwnD A cap s.tx.ds R) (hds : s.tx.ds.length ≤ 400) (ro : Ro) (L : List (List Blk)) (hk : e.kind = 2) :
    CT Tryd.prog 65 [.pointer (some ⟨p, 0, none⟩), .agg (encEv e).toArray, .int .i64 (n : Nat)].toArray ro ([(p, Obj.cells [Value.int .i64 s.tx.id, Value.int .i64 s.tx.thread, Value.int .i64 s.tx.status, Value.int .i64 s.tx.beg, Value.int .i64 s.tx.fin, Value.int .i64 s.tx.try_, Value.slice A s.tx.ds.length cap, Value.int .i64 s.stand].toArray 90 (0, 0))] :: R :: L) (PMove p A cap R s (moveM s e n) L) := by
  refine enter Tryd.func65 rfl Tryd.ntmps65 rfl ?_
  refine seq ?_
  refine region ?_
  refine op (e_box rfl rfl rfl fun b4 => ?_)
  refine op (y (x_assign rfl) rfl ?_)
  refine nil ?_
  refine n_then ?_
  refine seq ?_
  refine region ?_
  refine op (y (x_move rfl) rfl ?_)
  refine op (y (x_nilPtr rfl) rfl ?_)
  refine op (y (x_fieldAddr fo_90_1 rfl) rfl ?_)
  first | refine op (e_store 0 rfl rfl ts_3 rfl rfl rfl rfl rfl rfl ?_) | refine op (e_store 1 rfl rfl ts_3 rfl rfl rfl rfl rfl rfl ?_) | refine op (e_store 2 rfl rfl ts_3 rfl rfl rfl rfl rfl rfl ?_) | refine op (e_store 3 rfl rfl ts_3 rfl rfl rfl rfl rfl rfl ?_) | refine op (e_store 4 rfl rfl ts_3 rfl rfl rfl rfl rfl rfl ?_) | refine op (e_store 5 rfl rfl ts_3 rfl rfl rfl rfl rfl rfl ?_) | refine op (e_store 6 rfl rfl ts_3 rfl rfl rfl rfl rfl rfl ?_) | refine op (e_store 7 rfl rfl ts_3 rfl rfl rfl rfl rfl rfl ?_) | refine op (e_store 8 rfl rfl ts_3 rfl rfl rfl rfl rfl rfl ?_) | refine op (e_store 9 rfl rfl ts_3 rfl rfl rfl rfl rfl rfl ?_)
  refine nil ?_
  refine n_then ?_
  refine seq ?_
  refine draw (List.flatten [[(b4, Obj.cells (encEv e).toArray 34 (0, 0))]]) (by kernel_rfl) ?_
  refine d_take 0 rfl (by kernel_rfl) (by kernel_rfl) (by kernel_rfl) (fun _ _ _ h => h) rfl (.inl rfl) (x_move rfl) (fun w hi => J.of_le (by first | exact Ro.le.refl _ ) (fun x hx => by simp only [List.flatten_cons, List.flatten_nil, List.append_nil, List.mem_singleton] at hx; subst hx; simp) hi) ?_
  refine d_take 1 rfl (by kernel_rfl) (by kernel_rfl) (by kernel_rfl) (fun _ _ _ h => h) rfl (.inl rfl) (x_move rfl) (fun w hi => J.of_le (by first | exact Ro.le.refl _ ) (fun x hx => by simp only [List.flatten_cons, List.flatten_nil, List.append_nil, List.mem_singleton] at hx; subst hx; simp) hi) ?_
  refine d_take 2 rfl (by kernel_rfl) (by kernel_rfl) (by kernel_rfl) (fun _ _ _ h => h) rfl (.inl rfl) (x_nilPtr rfl) (fun w hi => J.of_le (by first | exact Ro.le.refl _ ) (fun x hx => by simp only [List.flatten_cons, List.flatten_nil, List.append_nil, List.mem_singleton] at hx; subst hx; simp) hi) ?_
  refine d_take 3 rfl (by kernel_rfl) (by kernel_rfl) (by kernel_rfl) (fun _ _ _ h => h) rfl (.inl rfl) (x_fieldAddr fo_90_0 rfl) (fun w hi => J.of_le (by first | exact Ro.le.refl _ ) (fun x hx => by simp only [List.flatten_cons, List.flatten_nil, List.append_nil, List.mem_singleton] at hx; subst hx; simp) hi) ?_
  refine d_take 4 rfl (by kernel_rfl) (by kernel_rfl) (by kernel_rfl) (fun _ _ _ h => h) rfl (.inl rfl) (x_fieldAddr fo_61_6 rfl) (fun w hi => J.of_le (by first | exact Ro.le.refl _ ) (fun x hx => by simp only [List.flatten_cons, List.flatten_nil, List.append_nil, List.mem_singleton] at hx; subst hx; simp) hi) ?_
  refine d_take 6 rfl (by kernel_rfl) (by kernel_rfl) (by kernel_rfl) (fun _ _ _ h => h) rfl (.inl rfl) (x_fieldAddr fo_34_3 rfl) (fun w hi => J.of_le (by first | exact Ro.le.refl _ ) (fun x hx => by simp only [List.flatten_cons, List.flatten_nil, List.append_nil, List.mem_singleton] at hx; subst hx; simp) hi) ?_
  refine d_take 7 rfl (by kernel_rfl) (by kernel_rfl) (by kernel_rfl) (fun _ _ _ h => h) rfl (.inl rfl) (x_load1 ag_3 rfl (by first | assumption | exact Cell.own 0 rfl rfl | exact Cell.own 1 rfl rfl | exact Cell.own 2 rfl rfl | exact Cell.own 3 rfl rfl | exact Cell.own 4 rfl rfl | exact Cell.own 5 rfl rfl | exact Cell.own 6 rfl rfl | exact Cell.own 7 rfl rfl | exact Cell.own 8 rfl rfl | exact Cell.own 9 rfl rfl | exact Cell.ofRo (by assumption))) (fun w hi => J.of_le (by first | exact Ro.le.refl _ ) (fun x hx => by simp only [List.flatten_cons, List.flatten_nil, List.append_nil, List.mem_singleton] at hx; subst hx; simp) hi) ?_
  refine d_take 8 rfl (by kernel_rfl) (by kernel_rfl) (by kernel_rfl) (fun _ _ _ h => h) rfl (.inl rfl) (x_fieldAddr fo_34_4 rfl) (fun w hi => J.of_le (by first | exact Ro.le.refl _ ) (fun x hx => by simp only [List.flatten_cons, List.flatten_nil, List.append_nil, List.mem_singleton] at hx; subst hx; simp) hi) ?_
  refine d_take 9 rfl (by kernel_rfl) (by kernel_rfl) (by kernel_rfl) (fun _ _ _ h => h) rfl (.inl rfl) (x_load1 ag_3 rfl (by first | assumption | exact Cell.own 0 rfl rfl | exact Cell.own 1 rfl rfl | exact Cell.own 2 rfl rfl | exact Cell.own 3 rfl rfl | exact Cell.own 4 rfl rfl | exact Cell.own 5 rfl rfl | exact Cell.own 6 rfl rfl | exact Cell.own 7 rfl rfl | exact Cell.own 8 rfl rfl | exact Cell.own 9 rfl rfl | exact Cell.ofRo (by assumption))) (fun w hi => J.of_le (by first | exact Ro.le.refl _ ) (fun x hx => by simp only [List.flatten_cons, List.flatten_nil, List.append_nil, List.mem_singleton] at hx; subst hx; simp) hi) ?_
  refine d_take 10 rfl (by kernel_rfl) (by kernel_rfl) (by kernel_rfl) (fun _ _ _ h => h) rfl (.inl rfl) (x_fieldAddr fo_34_5 rfl) (fun w hi => J.of_le (by first | exact Ro.le.refl _ ) (fun x hx => by simp only [List.flatten_cons, List.flatten_nil, List.append_nil, List.mem_singleton] at hx; subst hx; simp) hi) ?_
  refine d_take 11 rfl (by kernel_rfl) (by kernel_rfl) (by kernel_rfl) (fun _ _ _ h => h) rfl (.inl rfl) (x_load1 ag_3 rfl (by first | assumption | exact Cell.own 0 rfl rfl | exact Cell.own 1 rfl rfl | exact Cell.own 2 rfl rfl | exact Cell.own 3 rfl rfl | exact Cell.own 4 rfl rfl | exact Cell.own 5 rfl rfl | exact Cell.own 6 rfl rfl | exact Cell.own 7 rfl rfl | exact Cell.own 8 rfl rfl | exact Cell.own 9 rfl rfl | exact Cell.ofRo (by assumption))) (fun w hi => J.of_le (by first | exact Ro.le.refl _ ) (fun x hx => by simp only [List.flatten_cons, List.flatten_nil, List.append_nil, List.mem_singleton] at hx; subst hx; simp) hi) ?_
  refine d_take 12 rfl (by kernel_rfl) (by kernel_rfl) (by kernel_rfl) (fun _ _ _ h => h) rfl (.inl rfl) (x_fieldAddr fo_34_6 rfl) (fun w hi => J.of_le (by first | exact Ro.le.refl _ ) (fun x hx => by simp only [List.flatten_cons, List.flatten_nil, List.append_nil, List.mem_singleton] at hx; subst hx; simp) hi) ?_
  refine d_take 13 rfl (by kernel_rfl) (by kernel_rfl) (by kernel_rfl) (fun _ _ _ h => h) rfl (.inl rfl) (x_load1 ag_3 rfl (by first | assumption | exact Cell.own 0 rfl rfl | exact Cell.own 1 rfl rfl | exact Cell.own 2 rfl rfl | exact Cell.own 3 rfl rfl | exact Cell.own 4 rfl rfl | exact Cell.own 5 rfl rfl | exact Cell.own 6 rfl rfl | exact Cell.own 7 rfl rfl | exact Cell.own 8 rfl rfl | exact Cell.own 9 rfl rfl | exact Cell.ofRo (by assumption))) (fun w hi => J.of_le (by first | exact Ro.le.refl _ ) (fun x hx => by simp only [List.flatten_cons, List.flatten_nil, List.append_nil, List.mem_singleton] at hx; subst hx; simp) hi) ?_
  refine d_take 14 rfl (by kernel_rfl) (by kernel_rfl) (by kernel_rfl) (fun _ _ _ h => h) rfl (.inl rfl) (x_move rfl) (fun w hi => J.of_le (by first | exact Ro.le.refl _ ) (fun x hx => by simp only [List.flatten_cons, List.flatten_nil, List.append_nil, List.mem_singleton] at hx; subst hx; simp) hi) ?_
  refine d_take 15 rfl (by kernel_rfl) (by kernel_rfl) (by kernel_rfl) (fun _ _ _ h => h) rfl (.inl rfl) (x_build bu_72 rfl rfl) (fun w hi => J.of_le (by first | exact Ro.le.refl _ ) (fun x hx => by simp only [List.flatten_cons, List.flatten_nil, List.append_nil, List.mem_singleton] at hx; subst hx; simp) hi) ?_
  refine d_two 5 16 (by kernel_rfl) ?_ ?_
  · skip
    refine d_the rfl (.inl rfl) (y (x_load1 ag_59 rfl (by first | assumption | exact Cell.own 0 rfl rfl | exact Cell.own 1 rfl rfl | exact Cell.own 2 rfl rfl | exact Cell.own 3 rfl rfl | exact Cell.own 4 rfl rfl | exact Cell.own 5 rfl rfl | exact Cell.own 6 rfl rfl | exact Cell.own 7 rfl rfl | exact Cell.own 8 rfl rfl | exact Cell.own 9 rfl rfl | exact Cell.ofRo (by assumption))) rfl ?_)
    refine d_next (fun w hi => J.of_le (by first | exact Ro.le.refl _ ) (fun x hx => by simp only [List.flatten_cons, List.flatten_nil, List.append_nil, List.mem_singleton] at hx; subst hx; simp) hi) ?_
    refine d_one 16 rfl (by kernel_rfl) (.inl rfl) (e_slice1 rfl Tryd.underlying59 ti_72 rfl rfl (by decide) (by decide) rfl rfl rfl fun b26 => ?_)
    refine d_next (fun w hi => J.of_le (by first | exact Ro.le.refl _ ) (fun x hx => by simp only [List.flatten_cons, List.flatten_nil, List.append_nil, List.mem_singleton] at hx; subst hx; simp) hi) ?_
    refine d_one 17 rfl (by kernel_rfl) (.inl rfl) (e_append1 2 rfl st_59 rfl rfl rfl hO rfl rfl (by omega) (by omega) (fun _ => rfl) fun A27 cap27 R27 hO27 => ?_)
    refine said 27 (.slice A27 (s.tx.ds ++ [(⟨e.obj, e.op, e.key, e.val, 0, 0, n, -1⟩ : De)]).length cap27) rfl (by simp) ?_
    refine d_next (fun w hi => J.of_le (by first | exact Ro.le.refl _ ) (fun x hx => by simp only [List.flatten_cons, List.flatten_nil, List.append_nil, List.mem_singleton] at hx; subst hx; simp) hi) ?_
    refine d_take 18 rfl (by kernel_rfl) (by kernel_rfl) (by kernel_rfl) (fun _ _ _ h => h) rfl (.inl rfl) (x_nilPtr rfl) (fun w hi => J.of_le (by first | exact Ro.le.refl _ ) (fun x hx => by simp only [List.flatten_cons, List.flatten_nil, List.append_nil, List.mem_singleton] at hx; subst hx; simp) hi) ?_
    refine d_take 19 rfl (by kernel_rfl) (by kernel_rfl) (by kernel_rfl) (fun _ _ _ h => h) rfl (.inl rfl) (x_fieldAddr fo_90_0 rfl) (fun w hi => J.of_le (by first | exact Ro.le.refl _ ) (fun x hx => by simp only [List.flatten_cons, List.flatten_nil, List.append_nil, List.mem_singleton] at hx; subst hx; simp) hi) ?_
    refine d_take 20 rfl (by kernel_rfl) (by kernel_rfl) (by kernel_rfl) (fun _ _ _ h => h) rfl (.inl rfl) (x_fieldAddr fo_61_6 rfl) (fun w hi => J.of_le (by first | exact Ro.le.refl _ ) (fun x hx => by simp only [List.flatten_cons, List.flatten_nil, List.append_nil, List.mem_singleton] at hx; subst hx; simp) hi) ?_
    first | refine d_one 21 rfl (by kernel_rfl) (.inl rfl) (e_store 0 rfl rfl ts_59 rfl rfl rfl rfl rfl rfl ?_) | refine d_one 21 rfl (by kernel_rfl) (.inl rfl) (e_store 1 rfl rfl ts_59 rfl rfl rfl rfl rfl rfl ?_) | refine d_one 21 rfl (by kernel_rfl) (.inl rfl) (e_store 2 rfl rfl ts_59 rfl rfl rfl rfl rfl rfl ?_) | refine d_one 21 rfl (by kernel_rfl) (.inl rfl) (e_store 3 rfl rfl ts_59 rfl rfl rfl rfl rfl rfl ?_) | refine d_one 21 rfl (by kernel_rfl) (.inl rfl) (e_store 4 rfl rfl ts_59 rfl rfl rfl rfl rfl rfl ?_) | refine d_one 21 rfl (by kernel_rfl) (.inl rfl) (e_store 5 rfl rfl ts_59 rfl rfl rfl rfl rfl rfl ?_) | refine d_one 21 rfl (by kernel_rfl) (.inl rfl) (e_store 6 rfl rfl ts_59 rfl rfl rfl rfl rfl rfl ?_) | refine d_one 21 rfl (by kernel_rfl) (.inl rfl) (e_store 7 rfl rfl ts_59 rfl rfl rfl rfl rfl rfl ?_) | refine d_one 21 rfl (by kernel_rfl) (.inl rfl) (e_store 8 rfl rfl ts_59 rfl rfl rfl rfl rfl rfl ?_) | refine d_one 21 rfl (by kernel_rfl) (.inl rfl) (e_store 9 rfl rfl ts_59 rfl rfl rfl rfl rfl rfl ?_)
    refine d_next (fun w hi => J.of_le (by first | exact Ro.le.refl _ ) (fun x hx => by simp only [List.flatten_cons, List.flatten_nil, List.append_nil, List.mem_singleton] at hx; subst hx; simp) hi) ?_
    refine d_end (by kernel_rfl) ?_
    refine n_then ?_
    refine seq ?_
    refine region ?_
    refine op (y (x_assign rfl) rfl ?_)
    refine nil ?_
    refine n_then ?_
    refine ret ?_
    exact done rfl (.tmp rfl (.nil)) (Ro.le.refl _) (_ :: R27 :: L) (subF (by (repeat (first | exact List.Sublist.refl _ | apply List.Sublist.cons_cons | apply List.Sublist.cons)); done)) (⟨IfV.nil, .inl ⟨rfl, ⟨{ s.tx with ds := s.tx.ds ++ [⟨e.obj, e.op, e.key, e.val, 0, 0, n, -1⟩] }, 2⟩, by simp [moveM, hk], A27, cap27, R27, (hO27.snoc (enc := encDe) (x := ⟨e.obj, e.op, e.key, e.val, 0, 0, n, -1⟩)).cast (by simp) rfl, rfl⟩⟩)
  · skip
    refine d_the rfl (.inl rfl) (e_slice1 rfl Tryd.underlying59 ti_72 rfl rfl (by decide) (by decide) rfl rfl rfl fun b26 => ?_)
    refine d_next (fun w hi => J.of_le (by first | exact Ro.le.refl _ ) (fun x hx => by simp only [List.flatten_cons, List.flatten_nil, List.append_nil, List.mem_singleton] at hx; subst hx; simp) hi) ?_
    refine d_one 5 rfl (by kernel_rfl) (.inl rfl) (y (x_load1 ag_59 rfl (by first | assumption | exact Cell.own 0 rfl rfl | exact Cell.own 1 rfl rfl | exact Cell.own 2 rfl rfl | exact Cell.own 3 rfl rfl | exact Cell.own 4 rfl rfl | exact Cell.own 5 rfl rfl | exact Cell.own 6 rfl rfl | exact Cell.own 7 rfl rfl | exact Cell.own 8 rfl rfl | exact Cell.own 9 rfl rfl | exact Cell.ofRo (by assumption))) rfl ?_)
    refine d_next (fun w hi => J.of_le (by first | exact Ro.le.refl _ ) (fun x hx => by simp only [List.flatten_cons, List.flatten_nil, List.append_nil, List.mem_singleton] at hx; subst hx; simp) hi) ?_
    refine d_one 17 rfl (by kernel_rfl) (.inl rfl) (e_append1 2 rfl st_59 rfl rfl rfl hO rfl rfl (by omega) (by omega) (fun _ => rfl) fun A27 cap27 R27 hO27 => ?_)
    refine said 27 (.slice A27 (s.tx.ds ++ [(⟨e.obj, e.op, e.key, e.val, 0, 0, n, -1⟩ : De)]).length cap27) rfl (by simp) ?_
    refine d_next (fun w hi => J.of_le (by first | exact Ro.le.refl _ ) (fun x hx => by simp only [List.flatten_cons, List.flatten_nil, List.append_nil, List.mem_singleton] at hx; subst hx; simp) hi) ?_
    refine d_take 18 rfl (by kernel_rfl) (by kernel_rfl) (by kernel_rfl) (fun _ _ _ h => h) rfl (.inl rfl) (x_nilPtr rfl) (fun w hi => J.of_le (by first | exact Ro.le.refl _ ) (fun x hx => by simp only [List.flatten_cons, List.flatten_nil, List.append_nil, List.mem_singleton] at hx; subst hx; simp) hi) ?_
    refine d_take 19 rfl (by kernel_rfl) (by kernel_rfl) (by kernel_rfl) (fun _ _ _ h => h) rfl (.inl rfl) (x_fieldAddr fo_90_0 rfl) (fun w hi => J.of_le (by first | exact Ro.le.refl _ ) (fun x hx => by simp only [List.flatten_cons, List.flatten_nil, List.append_nil, List.mem_singleton] at hx; subst hx; simp) hi) ?_
    refine d_take 20 rfl (by kernel_rfl) (by kernel_rfl) (by kernel_rfl) (fun _ _ _ h => h) rfl (.inl rfl) (x_fieldAddr fo_61_6 rfl) (fun w hi => J.of_le (by first | exact Ro.le.refl _ ) (fun x hx => by simp only [List.flatten_cons, List.flatten_nil, List.append_nil, List.mem_singleton] at hx; subst hx; simp) hi) ?_
    first | refine d_one 21 rfl (by kernel_rfl) (.inl rfl) (e_store 0 rfl rfl ts_59 rfl rfl rfl rfl rfl rfl ?_) | refine d_one 21 rfl (by kernel_rfl) (.inl rfl) (e_store 1 rfl rfl ts_59 rfl rfl rfl rfl rfl rfl ?_) | refine d_one 21 rfl (by kernel_rfl) (.inl rfl) (e_store 2 rfl rfl ts_59 rfl rfl rfl rfl rfl rfl ?_) | refine d_one 21 rfl (by kernel_rfl) (.inl rfl) (e_store 3 rfl rfl ts_59 rfl rfl rfl rfl rfl rfl ?_) | refine d_one 21 rfl (by kernel_rfl) (.inl rfl) (e_store 4 rfl rfl ts_59 rfl rfl rfl rfl rfl rfl ?_) | refine d_one 21 rfl (by kernel_rfl) (.inl rfl) (e_store 5 rfl rfl ts_59 rfl rfl rfl rfl rfl rfl ?_) | refine d_one 21 rfl (by kernel_rfl) (.inl rfl) (e_store 6 rfl rfl ts_59 rfl rfl rfl rfl rfl rfl ?_) | refine d_one 21 rfl (by kernel_rfl) (.inl rfl) (e_store 7 rfl rfl ts_59 rfl rfl rfl rfl rfl rfl ?_) | refine d_one 21 rfl (by kernel_rfl) (.inl rfl) (e_store 8 rfl rfl ts_59 rfl rfl rfl rfl rfl rfl ?_) | refine d_one 21 rfl (by kernel_rfl) (.inl rfl) (e_store 9 rfl rfl ts_59 rfl rfl rfl rfl rfl rfl ?_)
    refine d_next (fun w hi => J.of_le (by first | exact Ro.le.refl _ ) (fun x hx => by simp only [List.flatten_cons, List.flatten_nil, List.append_nil, List.mem_singleton] at hx; subst hx; simp) hi) ?_
    refine d_end (by kernel_rfl) ?_
    refine n_then ?_
    refine seq ?_
    refine region ?_
    refine op (y (x_assign rfl) rfl ?_)
    refine nil ?_
    refine n_then ?_
    refine ret ?_
    exact done rfl (.tmp rfl (.nil)) (Ro.le.refl _) (_ :: R27 :: L) (subF (by (repeat (first | exact List.Sublist.refl _ | apply List.Sublist.cons_cons | apply List.Sublist.cons)); done)) (⟨IfV.nil, .inl ⟨rfl, ⟨{ s.tx with ds := s.tx.ds ++ [⟨e.obj, e.op, e.key, e.val, 0, 0, n, -1⟩] }, 2⟩, by simp [moveM, hk], A27, cap27, R27, (hO27.snoc (enc := encDe) (x := ⟨e.obj, e.op, e.key, e.val, 0, 0, n, -1⟩)).cast (by simp) rfl, rfl⟩⟩)

theorem moveReturn_c (p : Nat) (A : Option Addr) (cap : Nat) (R : List Blk) (s : St) (e : Ev) (n : Nat) (hn : n ≤ 400) (hO : OwnD A cap s.tx.ds R) (hds : s.tx.ds.length ≤ 400) (ro : Ro) (L : List (List Blk)) (hk : e.kind = 3) (hne : s.tx.ds ≠ []) (er : Nat → Addr) (hG : Glob er ro) :
    CT Tryd.prog 66 [.pointer (some ⟨p, 0, none⟩), .agg (encEv e).toArray, .int .i64 (n : Nat)].toArray ro ([(p, Obj.cells [Value.int .i64 s.tx.id, Value.int .i64 s.tx.thread, Value.int .i64 s.tx.status, Value.int .i64 s.tx.beg, Value.int .i64 s.tx.fin, Value.int .i64 s.tx.try_, Value.slice A s.tx.ds.length cap, Value.int .i64 s.stand].toArray 90 (0, 0))] :: R :: L) (PMove p A cap R s (moveM s e n) L) := by
  obtain ⟨ini, d, hdl⟩ : ∃ ini d, s.tx.ds = ini ++ [d] := ⟨_, _, (List.dropLast_concat_getLast hne).symm⟩
  obtain ⟨bd, off, cur, rfl, rfl, hmc, hcur⟩ := hO.at_ (by rw [hdl]; simp)
  refine enter Tryd.func66 rfl Tryd.ntmps66 rfl ?_
  refine seq ?_
  refine region ?_
  refine op (e_box rfl rfl rfl fun b4 => ?_)
  refine op (y (x_assign rfl) rfl ?_)
  refine nil ?_
  refine n_then ?_
  refine seq ?_
  have hxs : (s.tx.ds.flatMap encDe) = ini.flatMap encDe ++ encDe d := by rw [hdl]; simp
  have hlen := len_de ini
  refine drawL (by kernel_rfl) ?_
  refine d_take 0 rfl (by kernel_rfl) (by kernel_rfl) (by kernel_rfl) (fun _ _ _ h => h) rfl (.inl rfl) (x_move rfl) (fun w hi => by first | exact hi.j | exact J.of_le (Ro.le.refl _) (fun x hx => List.mem_append_right _ hx) hi | exact J.of_le (Ro.le.refl _) (fun x hx => List.mem_append_right _ (List.mem_append_right _ hx)) hi | exact J.of_le (Ro.le.refl _) (fun x hx => absurd hx (by simp)) hi | exact J.of_le (by assumption) (fun x hx => absurd hx (by simp)) hi) ?_
  refine d_take 1 rfl (by kernel_rfl) (by kernel_rfl) (by kernel_rfl) (fun _ _ _ h => h) rfl (.inl rfl) (x_nilPtr rfl) (fun w hi => by first | exact hi.j | exact J.of_le (Ro.le.refl _) (fun x hx => List.mem_append_right _ hx) hi | exact J.of_le (Ro.le.refl _) (fun x hx => List.mem_append_right _ (List.mem_append_right _ hx)) hi | exact J.of_le (Ro.le.refl _) (fun x hx => absurd hx (by simp)) hi | exact J.of_le (by assumption) (fun x hx => absurd hx (by simp)) hi) ?_
  refine d_take 2 rfl (by kernel_rfl) (by kernel_rfl) (by kernel_rfl) (fun _ _ _ h => h) rfl (.inl rfl) (x_fieldAddr fo_90_0 rfl) (fun w hi => by first | exact hi.j | exact J.of_le (Ro.le.refl _) (fun x hx => List.mem_append_right _ hx) hi | exact J.of_le (Ro.le.refl _) (fun x hx => List.mem_append_right _ (List.mem_append_right _ hx)) hi | exact J.of_le (Ro.le.refl _) (fun x hx => absurd hx (by simp)) hi | exact J.of_le (by assumption) (fun x hx => absurd hx (by simp)) hi) ?_
  refine d_take 3 rfl (by kernel_rfl) (by kernel_rfl) (by kernel_rfl) (fun _ _ _ h => h) rfl (.inl rfl) (x_fieldAddr fo_61_6 rfl) (fun w hi => by first | exact hi.j | exact J.of_le (Ro.le.refl _) (fun x hx => List.mem_append_right _ hx) hi | exact J.of_le (Ro.le.refl _) (fun x hx => List.mem_append_right _ (List.mem_append_right _ hx)) hi | exact J.of_le (Ro.le.refl _) (fun x hx => absurd hx (by simp)) hi | exact J.of_le (by assumption) (fun x hx => absurd hx (by simp)) hi) ?_
  refine d_take 4 rfl (by kernel_rfl) (by kernel_rfl) (by kernel_rfl) (fun _ _ _ h => h) rfl (.inl rfl) (x_load1 ag_59 rfl (by first | assumption | exact Cell.own 0 rfl rfl | exact Cell.own 1 rfl rfl | exact Cell.own 2 rfl rfl | exact Cell.own 3 rfl rfl | exact Cell.own 4 rfl rfl | exact Cell.own 5 rfl rfl | exact Cell.own 6 rfl rfl | exact Cell.own 7 rfl rfl | exact Cell.own 8 rfl rfl | exact Cell.own 9 rfl rfl | exact Cell.ofRo (by assumption))) (fun w hi => by first | exact hi.j | exact J.of_le (Ro.le.refl _) (fun x hx => List.mem_append_right _ hx) hi | exact J.of_le (Ro.le.refl _) (fun x hx => List.mem_append_right _ (List.mem_append_right _ hx)) hi | exact J.of_le (Ro.le.refl _) (fun x hx => absurd hx (by simp)) hi | exact J.of_le (by assumption) (fun x hx => absurd hx (by simp)) hi) ?_
  refine d_take 5 rfl (by kernel_rfl) (by kernel_rfl) (by kernel_rfl) (fun _ _ _ h => h) rfl (.inl rfl) (x_move rfl) (fun w hi => by first | exact hi.j | exact J.of_le (Ro.le.refl _) (fun x hx => List.mem_append_right _ hx) hi | exact J.of_le (Ro.le.refl _) (fun x hx => List.mem_append_right _ (List.mem_append_right _ hx)) hi | exact J.of_le (Ro.le.refl _) (fun x hx => absurd hx (by simp)) hi | exact J.of_le (by assumption) (fun x hx => absurd hx (by simp)) hi) ?_
  refine d_take 6 rfl (by kernel_rfl) (by kernel_rfl) (by kernel_rfl) (fun _ _ _ h => h) rfl (.inl rfl) (x_nilPtr rfl) (fun w hi => by first | exact hi.j | exact J.of_le (Ro.le.refl _) (fun x hx => List.mem_append_right _ hx) hi | exact J.of_le (Ro.le.refl _) (fun x hx => List.mem_append_right _ (List.mem_append_right _ hx)) hi | exact J.of_le (Ro.le.refl _) (fun x hx => absurd hx (by simp)) hi | exact J.of_le (by assumption) (fun x hx => absurd hx (by simp)) hi) ?_
  refine d_take 7 rfl (by kernel_rfl) (by kernel_rfl) (by kernel_rfl) (fun _ _ _ h => h) rfl (.inl rfl) (x_fieldAddr fo_90_0 rfl) (fun w hi => by first | exact hi.j | exact J.of_le (Ro.le.refl _) (fun x hx => List.mem_append_right _ hx) hi | exact J.of_le (Ro.le.refl _) (fun x hx => List.mem_append_right _ (List.mem_append_right _ hx)) hi | exact J.of_le (Ro.le.refl _) (fun x hx => absurd hx (by simp)) hi | exact J.of_le (by assumption) (fun x hx => absurd hx (by simp)) hi) ?_
  refine d_take 8 rfl (by kernel_rfl) (by kernel_rfl) (by kernel_rfl) (fun _ _ _ h => h) rfl (.inl rfl) (x_fieldAddr fo_61_6 rfl) (fun w hi => by first | exact hi.j | exact J.of_le (Ro.le.refl _) (fun x hx => List.mem_append_right _ hx) hi | exact J.of_le (Ro.le.refl _) (fun x hx => List.mem_append_right _ (List.mem_append_right _ hx)) hi | exact J.of_le (Ro.le.refl _) (fun x hx => absurd hx (by simp)) hi | exact J.of_le (by assumption) (fun x hx => absurd hx (by simp)) hi) ?_
  refine d_take 9 rfl (by kernel_rfl) (by kernel_rfl) (by kernel_rfl) (fun _ _ _ h => h) rfl (.inl rfl) (x_load1 ag_59 rfl (by first | assumption | exact Cell.own 0 rfl rfl | exact Cell.own 1 rfl rfl | exact Cell.own 2 rfl rfl | exact Cell.own 3 rfl rfl | exact Cell.own 4 rfl rfl | exact Cell.own 5 rfl rfl | exact Cell.own 6 rfl rfl | exact Cell.own 7 rfl rfl | exact Cell.own 8 rfl rfl | exact Cell.own 9 rfl rfl | exact Cell.ofRo (by assumption))) (fun w hi => by first | exact hi.j | exact J.of_le (Ro.le.refl _) (fun x hx => List.mem_append_right _ hx) hi | exact J.of_le (Ro.le.refl _) (fun x hx => List.mem_append_right _ (List.mem_append_right _ hx)) hi | exact J.of_le (Ro.le.refl _) (fun x hx => absurd hx (by simp)) hi | exact J.of_le (by assumption) (fun x hx => absurd hx (by simp)) hi) ?_
  refine d_take 10 rfl (by kernel_rfl) (by kernel_rfl) (by kernel_rfl) (fun _ _ _ h => h) rfl (.inl rfl) (x_lenSl sz_59 rfl) (fun w hi => by first | exact hi.j | exact J.of_le (Ro.le.refl _) (fun x hx => List.mem_append_right _ hx) hi | exact J.of_le (Ro.le.refl _) (fun x hx => List.mem_append_right _ (List.mem_append_right _ hx)) hi | exact J.of_le (Ro.le.refl _) (fun x hx => absurd hx (by simp)) hi | exact J.of_le (by assumption) (fun x hx => absurd hx (by simp)) hi) ?_
  refine d_take 11 rfl (by kernel_rfl) (by kernel_rfl) (by kernel_rfl) (fun _ _ _ h => h) rfl (.inl rfl) (x_sub rfl rfl _ (wr (by omega) (by omega))) (fun w hi => by first | exact hi.j | exact J.of_le (Ro.le.refl _) (fun x hx => List.mem_append_right _ hx) hi | exact J.of_le (Ro.le.refl _) (fun x hx => List.mem_append_right _ (List.mem_append_right _ hx)) hi | exact J.of_le (Ro.le.refl _) (fun x hx => absurd hx (by simp)) hi | exact J.of_le (by assumption) (fun x hx => absurd hx (by simp)) hi) ?_
  refine said 19 (.int .i64 ((ini.length : Nat) : Int)) rfl (by rw [hdl]; simp) ?_
  refine d_take 12 rfl (by kernel_rfl) (by kernel_rfl) (by kernel_rfl) (fun _ _ _ h => h) rfl (.inl rfl) (x_indexNat sz_59 rfl rfl (by rw [hdl]; simp)) (fun w hi => by first | exact hi.j | exact J.of_le (Ro.le.refl _) (fun x hx => List.mem_append_right _ hx) hi | exact J.of_le (Ro.le.refl _) (fun x hx => List.mem_append_right _ (List.mem_append_right _ hx)) hi | exact J.of_le (Ro.le.refl _) (fun x hx => absurd hx (by simp)) hi | exact J.of_le (by assumption) (fun x hx => absurd hx (by simp)) hi) ?_
  refine d_take 13 rfl (by kernel_rfl) (by kernel_rfl) (by kernel_rfl) (fun _ _ _ h => h) rfl (.inl rfl) (x_assign rfl) (fun w hi => by first | exact hi.j | exact J.of_le (Ro.le.refl _) (fun x hx => List.mem_append_right _ hx) hi | exact J.of_le (Ro.le.refl _) (fun x hx => List.mem_append_right _ (List.mem_append_right _ hx)) hi | exact J.of_le (Ro.le.refl _) (fun x hx => absurd hx (by simp)) hi | exact J.of_le (by assumption) (fun x hx => absurd hx (by simp)) hi) ?_
  refine d_end (by kernel_rfl) ?_
  refine n_then ?_
  refine seq ?_
  refine seq ?_
  refine drawL (by kernel_rfl) ?_
  refine d_take 0 rfl (by kernel_rfl) (by kernel_rfl) (by kernel_rfl) (fun _ _ _ h => h) rfl (.inl rfl) (x_move rfl) (fun w hi => by first | exact hi.j | exact J.of_le (Ro.le.refl _) (fun x hx => List.mem_append_right _ hx) hi | exact J.of_le (Ro.le.refl _) (fun x hx => List.mem_append_right _ (List.mem_append_right _ hx)) hi | exact J.of_le (Ro.le.refl _) (fun x hx => absurd hx (by simp)) hi | exact J.of_le (by assumption) (fun x hx => absurd hx (by simp)) hi) ?_
  refine d_take 1 rfl (by kernel_rfl) (by kernel_rfl) (by kernel_rfl) (fun _ _ _ h => h) rfl (.inl rfl) (x_nilPtr rfl) (fun w hi => by first | exact hi.j | exact J.of_le (Ro.le.refl _) (fun x hx => List.mem_append_right _ hx) hi | exact J.of_le (Ro.le.refl _) (fun x hx => List.mem_append_right _ (List.mem_append_right _ hx)) hi | exact J.of_le (Ro.le.refl _) (fun x hx => absurd hx (by simp)) hi | exact J.of_le (by assumption) (fun x hx => absurd hx (by simp)) hi) ?_
  refine d_take 2 rfl (by kernel_rfl) (by kernel_rfl) (by kernel_rfl) (fun _ _ _ h => h) rfl (.inl rfl) (x_fieldAddr fo_72_1 rfl) (fun w hi => by first | exact hi.j | exact J.of_le (Ro.le.refl _) (fun x hx => List.mem_append_right _ hx) hi | exact J.of_le (Ro.le.refl _) (fun x hx => List.mem_append_right _ (List.mem_append_right _ hx)) hi | exact J.of_le (Ro.le.refl _) (fun x hx => absurd hx (by simp)) hi | exact J.of_le (by assumption) (fun x hx => absurd hx (by simp)) hi) ?_
  refine d_take 3 rfl (by kernel_rfl) (by kernel_rfl) (by kernel_rfl) (fun _ _ _ h => h) rfl (.inl rfl) (x_load1 ag_3 rfl (Cell.own 2 rfl (hcur (ini.length * 8 + 1) _ (by rw [hxs, app_get _ _ 1 hlen]; rfl)))) (fun w hi => by first | exact hi.j | exact J.of_le (Ro.le.refl _) (fun x hx => List.mem_append_right _ hx) hi | exact J.of_le (Ro.le.refl _) (fun x hx => List.mem_append_right _ (List.mem_append_right _ hx)) hi | exact J.of_le (Ro.le.refl _) (fun x hx => absurd hx (by simp)) hi | exact J.of_le (by assumption) (fun x hx => absurd hx (by simp)) hi) ?_
  refine d_take 4 rfl (by kernel_rfl) (by kernel_rfl) (by kernel_rfl) (fun _ _ _ h => h) rfl (.inl rfl) (x_fieldAddr fo_34_7 rfl) (fun w hi => by first | exact hi.j | exact J.of_le (Ro.le.refl _) (fun x hx => List.mem_append_right _ hx) hi | exact J.of_le (Ro.le.refl _) (fun x hx => List.mem_append_right _ (List.mem_append_right _ hx)) hi | exact J.of_le (Ro.le.refl _) (fun x hx => absurd hx (by simp)) hi | exact J.of_le (by assumption) (fun x hx => absurd hx (by simp)) hi) ?_
  refine d_take 5 rfl (by kernel_rfl) (by kernel_rfl) (by kernel_rfl) (fun _ _ _ h => h) rfl (.inl rfl) (x_load1 ag_3 rfl (by first | assumption | exact Cell.own 0 rfl rfl | exact Cell.own 1 rfl rfl | exact Cell.own 2 rfl rfl | exact Cell.own 3 rfl rfl | exact Cell.own 4 rfl rfl | exact Cell.own 5 rfl rfl | exact Cell.own 6 rfl rfl | exact Cell.own 7 rfl rfl | exact Cell.own 8 rfl rfl | exact Cell.own 9 rfl rfl | exact Cell.ofRo (by assumption))) (fun w hi => by first | exact hi.j | exact J.of_le (Ro.le.refl _) (fun x hx => List.mem_append_right _ hx) hi | exact J.of_le (Ro.le.refl _) (fun x hx => List.mem_append_right _ (List.mem_append_right _ hx)) hi | exact J.of_le (Ro.le.refl _) (fun x hx => absurd hx (by simp)) hi | exact J.of_le (by assumption) (fun x hx => absurd hx (by simp)) hi) ?_
  refine d_one 6 rfl (by kernel_rfl) (.inl rfl) (e_call rfl fn_67 rfl rfl (Fits_c _ _ _ _) fun v27 ro27 L27 hle27 hp27 => ?_)
  obtain ⟨rfl, rfl, rfl⟩ := hp27
  refine d_next (fun w hi => by first | exact hi.j | exact J.of_le (Ro.le.refl _) (fun x hx => List.mem_append_right _ hx) hi | exact J.of_le (Ro.le.refl _) (fun x hx => List.mem_append_right _ (List.mem_append_right _ hx)) hi | exact J.of_le (Ro.le.refl _) (fun x hx => absurd hx (by simp)) hi | exact J.of_le (by assumption) (fun x hx => absurd hx (by simp)) hi) ?_
  refine d_take 7 rfl (by kernel_rfl) (by kernel_rfl) (by kernel_rfl) (fun _ _ _ h => h) rfl (.inl rfl) (x_not rfl) (fun w hi => by first | exact hi.j | exact J.of_le (Ro.le.refl _) (fun x hx => List.mem_append_right _ hx) hi | exact J.of_le (Ro.le.refl _) (fun x hx => List.mem_append_right _ (List.mem_append_right _ hx)) hi | exact J.of_le (Ro.le.refl _) (fun x hx => absurd hx (by simp)) hi | exact J.of_le (by assumption) (fun x hx => absurd hx (by simp)) hi) ?_
  refine d_end (by kernel_rfl) ?_
  refine n_then ?_
  refine cond rfl (fun h2 => ?_) (fun h2 => ?_)
  · try simp only [decide_eq_true_eq, decide_eq_false_iff_not, beq_iff_eq, bne_iff_ne, ne_eq, beq_eq_false_iff_ne, bne_eq_false_iff_eq, Bool.not_eq_true', Bool.not_eq_false', Bool.not_eq_true, Bool.not_eq_false, Decidable.not_not, Int.not_lt, Int.not_le] at h2
    refine seq ?_
    have hGc := hG.err 10 (by omega)
    refine region ?_
    refine op (y (x_load1 ag_43 rfl (Cell.ofRo hGc)) rfl ?_)
    refine op (y (x_assign rfl) rfl ?_)
    refine nil ?_
    refine n_then ?_
    refine ret ?_
    refine r_then ?_
    exact done rfl (.tmp rfl (.nil)) (Ro.le.refl _) (_ :: _ :: L) (subF (by (repeat (first | exact List.Sublist.refl _ | apply List.Sublist.cons_cons | apply List.Sublist.cons)); done)) (⟨IfV.mk _ _, .inr ⟨rfl, by simp [moveM, hk, hdl]; grind, rfl⟩⟩)
  · try simp only [decide_eq_true_eq, decide_eq_false_iff_not, beq_iff_eq, bne_iff_ne, ne_eq, beq_eq_false_iff_ne, bne_eq_false_iff_eq, Bool.not_eq_true', Bool.not_eq_false', Bool.not_eq_true, Bool.not_eq_false, Decidable.not_not, Int.not_lt, Int.not_le] at h2
    refine skip ?_
    refine n_then ?_
    refine seq ?_
    have hO1 : OwnS 72 8 _ s.tx.ds.length cap (s.tx.ds.flatMap encDe) _ := hO
    rw [hxs] at hO1
    refine draw (List.flatten [[(b4, Obj.cells (encEv e).toArray 34 (0, 0))]]) (by kernel_rfl) ?_
    refine d_take 0 rfl (by kernel_rfl) (by kernel_rfl) (by kernel_rfl) (fun _ _ _ h => h) rfl (.inl rfl) (x_move rfl) (fun w hi => J.of_le (by first | exact Ro.le.refl _ ) (fun x hx => by simp only [List.flatten_cons, List.flatten_nil, List.append_nil, List.mem_singleton] at hx; subst hx; simp) hi) ?_
    refine d_take 1 rfl (by kernel_rfl) (by kernel_rfl) (by kernel_rfl) (fun _ _ _ h => h) rfl (.inl rfl) (x_move rfl) (fun w hi => J.of_le (by first | exact Ro.le.refl _ ) (fun x hx => by simp only [List.flatten_cons, List.flatten_nil, List.append_nil, List.mem_singleton] at hx; subst hx; simp) hi) ?_
    refine d_take 2 rfl (by kernel_rfl) (by kernel_rfl) (by kernel_rfl) (fun _ _ _ h => h) rfl (.inl rfl) (x_move rfl) (fun w hi => J.of_le (by first | exact Ro.le.refl _ ) (fun x hx => by simp only [List.flatten_cons, List.flatten_nil, List.append_nil, List.mem_singleton] at hx; subst hx; simp) hi) ?_
    refine d_take 3 rfl (by kernel_rfl) (by kernel_rfl) (by kernel_rfl) (fun _ _ _ h => h) rfl (.inl rfl) (x_move rfl) (fun w hi => J.of_le (by first | exact Ro.le.refl _ ) (fun x hx => by simp only [List.flatten_cons, List.flatten_nil, List.append_nil, List.mem_singleton] at hx; subst hx; simp) hi) ?_
    refine d_take 4 rfl (by kernel_rfl) (by kernel_rfl) (by kernel_rfl) (fun _ _ _ h => h) rfl (.inl rfl) (x_fieldAddr fo_34_7 rfl) (fun w hi => J.of_le (by first | exact Ro.le.refl _ ) (fun x hx => by simp only [List.flatten_cons, List.flatten_nil, List.append_nil, List.mem_singleton] at hx; subst hx; simp) hi) ?_
    refine d_take 5 rfl (by kernel_rfl) (by kernel_rfl) (by kernel_rfl) (fun _ _ _ h => h) rfl (.inl rfl) (x_load1 ag_3 rfl (by first | assumption | exact Cell.own 0 rfl rfl | exact Cell.own 1 rfl rfl | exact Cell.own 2 rfl rfl | exact Cell.own 3 rfl rfl | exact Cell.own 4 rfl rfl | exact Cell.own 5 rfl rfl | exact Cell.own 6 rfl rfl | exact Cell.own 7 rfl rfl | exact Cell.own 8 rfl rfl | exact Cell.own 9 rfl rfl | exact Cell.ofRo (by assumption))) (fun w hi => J.of_le (by first | exact Ro.le.refl _ ) (fun x hx => by simp only [List.flatten_cons, List.flatten_nil, List.append_nil, List.mem_singleton] at hx; subst hx; simp) hi) ?_
    refine d_take 6 rfl (by kernel_rfl) (by kernel_rfl) (by kernel_rfl) (fun _ _ _ h => h) rfl (.inl rfl) (x_fieldAddr fo_34_6 rfl) (fun w hi => J.of_le (by first | exact Ro.le.refl _ ) (fun x hx => by simp only [List.flatten_cons, List.flatten_nil, List.append_nil, List.mem_singleton] at hx; subst hx; simp) hi) ?_
    refine d_take 7 rfl (by kernel_rfl) (by kernel_rfl) (by kernel_rfl) (fun _ _ _ h => h) rfl (.inl rfl) (x_load1 ag_3 rfl (by first | assumption | exact Cell.own 0 rfl rfl | exact Cell.own 1 rfl rfl | exact Cell.own 2 rfl rfl | exact Cell.own 3 rfl rfl | exact Cell.own 4 rfl rfl | exact Cell.own 5 rfl rfl | exact Cell.own 6 rfl rfl | exact Cell.own 7 rfl rfl | exact Cell.own 8 rfl rfl | exact Cell.own 9 rfl rfl | exact Cell.ofRo (by assumption))) (fun w hi => J.of_le (by first | exact Ro.le.refl _ ) (fun x hx => by simp only [List.flatten_cons, List.flatten_nil, List.append_nil, List.mem_singleton] at hx; subst hx; simp) hi) ?_
    refine d_take 8 rfl (by kernel_rfl) (by kernel_rfl) (by kernel_rfl) (fun _ _ _ h => h) rfl (.inl rfl) (x_move rfl) (fun w hi => J.of_le (by first | exact Ro.le.refl _ ) (fun x hx => by simp only [List.flatten_cons, List.flatten_nil, List.append_nil, List.mem_singleton] at hx; subst hx; simp) hi) ?_
    refine d_take 9 rfl (by kernel_rfl) (by kernel_rfl) (by kernel_rfl) (fun _ _ _ h => h) rfl (.inl rfl) (x_nilPtr rfl) (fun w hi => J.of_le (by first | exact Ro.le.refl _ ) (fun x hx => by simp only [List.flatten_cons, List.flatten_nil, List.append_nil, List.mem_singleton] at hx; subst hx; simp) hi) ?_
    refine d_take 10 rfl (by kernel_rfl) (by kernel_rfl) (by kernel_rfl) (fun _ _ _ h => h) rfl (.inl rfl) (x_fieldAddr fo_90_1 rfl) (fun w hi => J.of_le (by first | exact Ro.le.refl _ ) (fun x hx => by simp only [List.flatten_cons, List.flatten_nil, List.append_nil, List.mem_singleton] at hx; subst hx; simp) hi) ?_
    first | refine d_one 11 rfl (by kernel_rfl) (.inl rfl) (e_store 0 rfl rfl ts_3 rfl rfl rfl rfl rfl rfl ?_) | refine d_one 11 rfl (by kernel_rfl) (.inl rfl) (e_store 1 rfl rfl ts_3 rfl rfl rfl rfl rfl rfl ?_) | refine d_one 11 rfl (by kernel_rfl) (.inl rfl) (e_store 2 rfl rfl ts_3 rfl rfl rfl rfl rfl rfl ?_) | refine d_one 11 rfl (by kernel_rfl) (.inl rfl) (e_store 3 rfl rfl ts_3 rfl rfl rfl rfl rfl rfl ?_) | refine d_one 11 rfl (by kernel_rfl) (.inl rfl) (e_store 4 rfl rfl ts_3 rfl rfl rfl rfl rfl rfl ?_) | refine d_one 11 rfl (by kernel_rfl) (.inl rfl) (e_store 5 rfl rfl ts_3 rfl rfl rfl rfl rfl rfl ?_) | refine d_one 11 rfl (by kernel_rfl) (.inl rfl) (e_store 6 rfl rfl ts_3 rfl rfl rfl rfl rfl rfl ?_) | refine d_one 11 rfl (by kernel_rfl) (.inl rfl) (e_store 7 rfl rfl ts_3 rfl rfl rfl rfl rfl rfl ?_) | refine d_one 11 rfl (by kernel_rfl) (.inl rfl) (e_store 8 rfl rfl ts_3 rfl rfl rfl rfl rfl rfl ?_) | refine d_one 11 rfl (by kernel_rfl) (.inl rfl) (e_store 9 rfl rfl ts_3 rfl rfl rfl rfl rfl rfl ?_)
    refine d_next (fun w hi => J.of_le (by first | exact Ro.le.refl _ ) (fun x hx => by simp only [List.flatten_cons, List.flatten_nil, List.append_nil, List.mem_singleton] at hx; subst hx; simp) hi) ?_
    refine d_take 12 rfl (by kernel_rfl) (by kernel_rfl) (by kernel_rfl) (fun _ _ _ h => h) rfl (.inl rfl) (x_nilPtr rfl) (fun w hi => J.of_le (by first | exact Ro.le.refl _ ) (fun x hx => by simp only [List.flatten_cons, List.flatten_nil, List.append_nil, List.mem_singleton] at hx; subst hx; simp) hi) ?_
    refine d_take 13 rfl (by kernel_rfl) (by kernel_rfl) (by kernel_rfl) (fun _ _ _ h => h) rfl (.inl rfl) (x_fieldAddr fo_72_4 rfl) (fun w hi => J.of_le (by first | exact Ro.le.refl _ ) (fun x hx => by simp only [List.flatten_cons, List.flatten_nil, List.append_nil, List.mem_singleton] at hx; subst hx; simp) hi) ?_
    refine d_one 14 rfl (by kernel_rfl) (.inl rfl) (e_storeS 2 (q := ini.length * 8 + 4) rfl rfl ts_3 rfl rfl rfl rfl hO1 (by rw [hdl]; simp; omega) (fun _ => rfl) fun R14 hO14 => ?_)
    rw [set_app _ _ _ 4 hlen] at hO14
    refine d_next (fun w hi => J.of_le (by first | exact Ro.le.refl _ ) (fun x hx => by simp only [List.flatten_cons, List.flatten_nil, List.append_nil, List.mem_singleton] at hx; subst hx; simp) hi) ?_
    refine d_take 15 rfl (by kernel_rfl) (by kernel_rfl) (by kernel_rfl) (fun _ _ _ h => h) rfl (.inl rfl) (x_nilPtr rfl) (fun w hi => J.of_le (by first | exact Ro.le.refl _ ) (fun x hx => by simp only [List.flatten_cons, List.flatten_nil, List.append_nil, List.mem_singleton] at hx; subst hx; simp) hi) ?_
    refine d_take 16 rfl (by kernel_rfl) (by kernel_rfl) (by kernel_rfl) (fun _ _ _ h => h) rfl (.inl rfl) (x_fieldAddr fo_72_5 rfl) (fun w hi => J.of_le (by first | exact Ro.le.refl _ ) (fun x hx => by simp only [List.flatten_cons, List.flatten_nil, List.append_nil, List.mem_singleton] at hx; subst hx; simp) hi) ?_
    refine d_one 17 rfl (by kernel_rfl) (.inl rfl) (e_storeS 2 (q := ini.length * 8 + 5) rfl rfl ts_3 rfl rfl rfl rfl hO14 (by rw [hdl]; simp; omega) (fun _ => rfl) fun R17 hO17 => ?_)
    rw [set_app _ _ _ 5 hlen] at hO17
    refine d_next (fun w hi => J.of_le (by first | exact Ro.le.refl _ ) (fun x hx => by simp only [List.flatten_cons, List.flatten_nil, List.append_nil, List.mem_singleton] at hx; subst hx; simp) hi) ?_
    refine d_take 18 rfl (by kernel_rfl) (by kernel_rfl) (by kernel_rfl) (fun _ _ _ h => h) rfl (.inl rfl) (x_nilPtr rfl) (fun w hi => J.of_le (by first | exact Ro.le.refl _ ) (fun x hx => by simp only [List.flatten_cons, List.flatten_nil, List.append_nil, List.mem_singleton] at hx; subst hx; simp) hi) ?_
    refine d_take 19 rfl (by kernel_rfl) (by kernel_rfl) (by kernel_rfl) (fun _ _ _ h => h) rfl (.inl rfl) (x_fieldAddr fo_72_7 rfl) (fun w hi => J.of_le (by first | exact Ro.le.refl _ ) (fun x hx => by simp only [List.flatten_cons, List.flatten_nil, List.append_nil, List.mem_singleton] at hx; subst hx; simp) hi) ?_
    refine d_one 20 rfl (by kernel_rfl) (.inl rfl) (e_storeS 2 (q := ini.length * 8 + 7) rfl rfl ts_3 rfl rfl rfl rfl hO17 (by rw [hdl]; simp; omega) (fun _ => rfl) fun R20 hO20 => ?_)
    rw [set_app _ _ _ 7 hlen] at hO20
    refine d_next (fun w hi => J.of_le (by first | exact Ro.le.refl _ ) (fun x hx => by simp only [List.flatten_cons, List.flatten_nil, List.append_nil, List.mem_singleton] at hx; subst hx; simp) hi) ?_
    refine d_end (by kernel_rfl) ?_
    refine n_then ?_
    refine seq ?_
    refine region ?_
    refine op (y (x_assign rfl) rfl ?_)
    refine nil ?_
    refine n_then ?_
    refine ret ?_
    exact done rfl (.tmp rfl (.nil)) (Ro.le.refl _) ([(p, Obj.cells [Value.int .i64 s.tx.id, Value.int .i64 s.tx.thread, Value.int .i64 s.tx.status, Value.int .i64 s.tx.beg, Value.int .i64 s.tx.fin, Value.int .i64 s.tx.try_, Value.slice (some ⟨bd, off, none⟩) s.tx.ds.length cap, Value.int .i64 1].toArray 90 (0, 0))] :: R20 :: L) (subF (by (repeat (first | exact List.Sublist.refl _ | apply List.Sublist.cons_cons | apply List.Sublist.cons)); done)) (⟨IfV.nil, .inl ⟨rfl, ⟨{ s.tx with ds := ini ++ [{ d with ret := e.ret, got := e.val, back := n }] }, 1⟩, by simp [moveM, hk, hdl]; grind, _, cap, R20, hO20.cast (by rw [hdl]; simp) (by simp [encDe, encEv]), by simp [stB, stC, hdl]⟩⟩)

end Go.Proofs.YtijafcilfefafaaDoor
