/- The walks of what events are: kinds, operations, fields. -/
import Derived.Test.YtijafcilfefafaaDoorV6
namespace Go.Proofs.YtijafcilfefafaaDoor
open Go Go.U
set_option maxRecDepth 20000
set_option linter.unusedSimpArgs false
set_option linter.unusedVariables false

def ofK (op : Int) : Int := if op = 1 ∨ op = 2 then 1 else if op = 3 ∨ op = 4 then 2 else if op = 5 ∨ op = 6 then 3 else if op = 7 ∨ op = 8 ∨ op = 9 then 4 else 0
def keyed (op : Int) : Bool := decide (op = 7 ∨ op = 8 ∨ op = 9)
def valued (op : Int) : Bool := decide (op = 2 ∨ op = 3 ∨ op = 5 ∨ op = 7)
def fitsK (op ret : Int) : Bool := if valued op then decide (ret = 1) else if op = 1 ∨ op = 4 then decide (ret = 3) else if op = 6 ∨ op = 8 ∨ op = 9 then decide (ret = 2 ∨ ret = 3) else false
/-- the fields' tables, bounds -/
def tabJ (j : Nat) : Int := match j with | 4 => 3 | 7 => 4 | _ => 0
def minJ (j : Nat) : Int := match j with | 1 => 1 | 4 => 1 | 6 => -1000000000 | 7 => 1 | _ => 0
def maxJ (j : Nat) : Int := match j with | 1 => 1000 | 2 => 7 | 3 => 7 | 4 => 9 | 5 => 1000 | 6 => 1000000000 | _ => 3
def fldV (j : Nat) : List Value := [.func (.func (91 + j)) #[] #[], .int .i64 (tabJ j), .int .i64 (minJ j), .int .i64 (maxJ j)]
def evGet (e : Ev) (j : Nat) : Int := match j with | 0 => e.kind | 1 => e.tx | 2 => e.thread | 3 => e.obj | 4 => e.op | 5 => e.key | 6 => e.val | _ => e.ret
theorem enc_get (e : Ev) {j : Nat} (hj : j < 8) : (encEv e)[j]? = some (.int .i64 (evGet e j)) := by
  match j, hj with
  | 0, _ | 1, _ | 2, _ | 3, _ | 4, _ | 5, _ | 6, _ | 7, _ => rfl
/-- the fields that an event has, by their places -/
def flds (e : Ev) : List Nat :=
  if e.kind = 1 then [1, 2] else if e.kind = 2 then [1, 3, 4] ++ (if keyed e.op then [5] else []) ++ (if valued e.op then [6] else []) else if e.kind = 3 then [1, 7] ++ (if e.ret = 3 then [6] else []) else [1]
theorem enc_fld {l : List Nat} : ∀ x ∈ l, (fldV x).length = 4 := fun _ _ => rfl
theorem ok_fld (j : Nat) : okAll (fldV j) = true := rfl
/-- what the next field is -/
def nextV (l : List Nat) (i : Nat) : Value := match l[i]? with
  | some j => .tuple [.agg (fldV j).toArray, .bool true].toArray
  | none => .tuple [.agg [.nilFunc, .int .i64 0, .int .i64 0, .int .i64 0].toArray, .bool false].toArray

theorem Of_c (o : Int) (ro : Ro) (L : List (List Blk)) : CT Tryd.prog 57 [.int .i64 o].toArray ro L (PQ (.int .i64 (ofK o)) ro L) := by
  refine enter Tryd.func57 rfl Tryd.ntmps57 rfl ?_
  refine seq ?_
  refine region ?_
  refine op (y (x_assign rfl) rfl ?_)
  refine nil ?_
  refine n_then ?_
  refine seq ?_
  refine seq ?_
  refine region ?_
  refine op (y (x_move rfl) rfl ?_)
  refine nil ?_
  refine n_then ?_
  refine block ?_
  refine seq ?_
  refine seq ?_
  refine region ?_
  refine op (y (x_eql rfl rfl) rfl ?_)
  refine op (y (x_assign rfl) rfl ?_)
  refine nil ?_
  refine n_then ?_
  refine cond rfl (fun h2 => ?_) (fun h2 => ?_)
  · try simp only [decide_eq_true_eq, decide_eq_false_iff_not, beq_iff_eq, bne_iff_ne, ne_eq, beq_eq_false_iff_ne, bne_eq_false_iff_eq, Bool.not_eq_true', Bool.not_eq_false', Bool.not_eq_true, Bool.not_eq_false, Decidable.not_not, Int.not_lt, Int.not_le] at h2
    refine skip ?_
    refine n_then ?_
    refine cond rfl (fun h2 => ?_) (fun h2 => ?_)
    · try simp only [decide_eq_true_eq, decide_eq_false_iff_not, beq_iff_eq, bne_iff_ne, ne_eq, beq_eq_false_iff_ne, bne_eq_false_iff_eq, Bool.not_eq_true', Bool.not_eq_false', Bool.not_eq_true, Bool.not_eq_false, Decidable.not_not, Int.not_lt, Int.not_le] at h2
      refine seq ?_
      refine region ?_
      refine op (y (x_assign rfl) rfl ?_)
      refine nil ?_
      refine n_then ?_
      refine ret ?_
      refine r_in ?_
      refine r_then ?_
      exact done rfl (.tmp rfl (.nil)) (Ro.le.refl _) (L) (subF (by (repeat (first | exact List.Sublist.refl _ | apply List.Sublist.cons_cons | apply List.Sublist.cons)); done)) (⟨by simp only [tupled, ofK]; congr 1; grind, rfl, rfl⟩)
    · try simp only [decide_eq_true_eq, decide_eq_false_iff_not, beq_iff_eq, bne_iff_ne, ne_eq, beq_eq_false_iff_ne, bne_eq_false_iff_eq, Bool.not_eq_true', Bool.not_eq_false', Bool.not_eq_true, Bool.not_eq_false, Decidable.not_not, Int.not_lt, Int.not_le] at h2
      refine seq ?_
      refine seq ?_
      refine region ?_
      refine op (y (x_eql rfl rfl) rfl ?_)
      refine op (y (x_assign rfl) rfl ?_)
      refine nil ?_
      refine n_then ?_
      refine cond rfl (fun h5 => ?_) (fun h5 => ?_)
      · try simp only [decide_eq_true_eq, decide_eq_false_iff_not, beq_iff_eq, bne_iff_ne, ne_eq, beq_eq_false_iff_ne, bne_eq_false_iff_eq, Bool.not_eq_true', Bool.not_eq_false', Bool.not_eq_true, Bool.not_eq_false, Decidable.not_not, Int.not_lt, Int.not_le] at h5
        refine skip ?_
        refine n_then ?_
        refine cond rfl (fun h5 => ?_) (fun h5 => ?_)
        · try simp only [decide_eq_true_eq, decide_eq_false_iff_not, beq_iff_eq, bne_iff_ne, ne_eq, beq_eq_false_iff_ne, bne_eq_false_iff_eq, Bool.not_eq_true', Bool.not_eq_false', Bool.not_eq_true, Bool.not_eq_false, Decidable.not_not, Int.not_lt, Int.not_le] at h5
          refine seq ?_
          refine region ?_
          refine op (y (x_assign rfl) rfl ?_)
          refine nil ?_
          refine n_then ?_
          refine ret ?_
          refine r_in ?_
          refine r_then ?_
          exact done rfl (.tmp rfl (.nil)) (Ro.le.refl _) (L) (subF (by (repeat (first | exact List.Sublist.refl _ | apply List.Sublist.cons_cons | apply List.Sublist.cons)); done)) (⟨by simp only [tupled, ofK]; congr 1; grind, rfl, rfl⟩)
        · try simp only [decide_eq_true_eq, decide_eq_false_iff_not, beq_iff_eq, bne_iff_ne, ne_eq, beq_eq_false_iff_ne, bne_eq_false_iff_eq, Bool.not_eq_true', Bool.not_eq_false', Bool.not_eq_true, Bool.not_eq_false, Decidable.not_not, Int.not_lt, Int.not_le] at h5
          refine seq ?_
          refine seq ?_
          refine region ?_
          refine op (y (x_eql rfl rfl) rfl ?_)
          refine op (y (x_assign rfl) rfl ?_)
          refine nil ?_
          refine n_then ?_
          refine cond rfl (fun h8 => ?_) (fun h8 => ?_)
          · try simp only [decide_eq_true_eq, decide_eq_false_iff_not, beq_iff_eq, bne_iff_ne, ne_eq, beq_eq_false_iff_ne, bne_eq_false_iff_eq, Bool.not_eq_true', Bool.not_eq_false', Bool.not_eq_true, Bool.not_eq_false, Decidable.not_not, Int.not_lt, Int.not_le] at h8
            refine skip ?_
            refine n_then ?_
            refine cond rfl (fun h8 => ?_) (fun h8 => ?_)
            · try simp only [decide_eq_true_eq, decide_eq_false_iff_not, beq_iff_eq, bne_iff_ne, ne_eq, beq_eq_false_iff_ne, bne_eq_false_iff_eq, Bool.not_eq_true', Bool.not_eq_false', Bool.not_eq_true, Bool.not_eq_false, Decidable.not_not, Int.not_lt, Int.not_le] at h8
              refine seq ?_
              refine region ?_
              refine op (y (x_assign rfl) rfl ?_)
              refine nil ?_
              refine n_then ?_
              refine ret ?_
              refine r_in ?_
              refine r_then ?_
              exact done rfl (.tmp rfl (.nil)) (Ro.le.refl _) (L) (subF (by (repeat (first | exact List.Sublist.refl _ | apply List.Sublist.cons_cons | apply List.Sublist.cons)); done)) (⟨by simp only [tupled, ofK]; congr 1; grind, rfl, rfl⟩)
            · try simp only [decide_eq_true_eq, decide_eq_false_iff_not, beq_iff_eq, bne_iff_ne, ne_eq, beq_eq_false_iff_ne, bne_eq_false_iff_eq, Bool.not_eq_true', Bool.not_eq_false', Bool.not_eq_true, Bool.not_eq_false, Decidable.not_not, Int.not_lt, Int.not_le] at h8
              refine seq ?_
              refine seq ?_
              refine region ?_
              refine op (y (x_eql rfl rfl) rfl ?_)
              refine op (y (x_assign rfl) rfl ?_)
              refine nil ?_
              refine n_then ?_
              refine cond rfl (fun h11 => ?_) (fun h11 => ?_)
              · try simp only [decide_eq_true_eq, decide_eq_false_iff_not, beq_iff_eq, bne_iff_ne, ne_eq, beq_eq_false_iff_ne, bne_eq_false_iff_eq, Bool.not_eq_true', Bool.not_eq_false', Bool.not_eq_true, Bool.not_eq_false, Decidable.not_not, Int.not_lt, Int.not_le] at h11
                refine skip ?_
                refine n_then ?_
                refine cond rfl (fun h11 => ?_) (fun h11 => ?_)
                · try simp only [decide_eq_true_eq, decide_eq_false_iff_not, beq_iff_eq, bne_iff_ne, ne_eq, beq_eq_false_iff_ne, bne_eq_false_iff_eq, Bool.not_eq_true', Bool.not_eq_false', Bool.not_eq_true, Bool.not_eq_false, Decidable.not_not, Int.not_lt, Int.not_le] at h11
                  refine seq ?_
                  refine region ?_
                  refine op (y (x_assign rfl) rfl ?_)
                  refine nil ?_
                  refine n_then ?_
                  refine ret ?_
                  refine r_in ?_
                  refine r_then ?_
                  exact done rfl (.tmp rfl (.nil)) (Ro.le.refl _) (L) (subF (by (repeat (first | exact List.Sublist.refl _ | apply List.Sublist.cons_cons | apply List.Sublist.cons)); done)) (⟨by simp only [tupled, ofK]; congr 1; grind, rfl, rfl⟩)
                · try simp only [decide_eq_true_eq, decide_eq_false_iff_not, beq_iff_eq, bne_iff_ne, ne_eq, beq_eq_false_iff_ne, bne_eq_false_iff_eq, Bool.not_eq_true', Bool.not_eq_false', Bool.not_eq_true, Bool.not_eq_false, Decidable.not_not, Int.not_lt, Int.not_le] at h11
                  refine skip ?_
                  refine n_in ?_
                  refine n_then ?_
                  refine seq ?_
                  refine region ?_
                  refine op (y (x_assign rfl) rfl ?_)
                  refine nil ?_
                  refine n_then ?_
                  refine ret ?_
                  exact done rfl (.tmp rfl (.nil)) (Ro.le.refl _) (L) (subF (by (repeat (first | exact List.Sublist.refl _ | apply List.Sublist.cons_cons | apply List.Sublist.cons)); done)) (⟨by simp only [tupled, ofK]; congr 1; grind, rfl, rfl⟩)
              · try simp only [decide_eq_true_eq, decide_eq_false_iff_not, beq_iff_eq, bne_iff_ne, ne_eq, beq_eq_false_iff_ne, bne_eq_false_iff_eq, Bool.not_eq_true', Bool.not_eq_false', Bool.not_eq_true, Bool.not_eq_false, Decidable.not_not, Int.not_lt, Int.not_le] at h11
                refine seq ?_
                refine region ?_
                refine op (y (x_eql rfl rfl) rfl ?_)
                refine op (y (x_assign rfl) rfl ?_)
                refine nil ?_
                refine n_then ?_
                refine cond rfl (fun h12 => ?_) (fun h12 => ?_)
                · try simp only [decide_eq_true_eq, decide_eq_false_iff_not, beq_iff_eq, bne_iff_ne, ne_eq, beq_eq_false_iff_ne, bne_eq_false_iff_eq, Bool.not_eq_true', Bool.not_eq_false', Bool.not_eq_true, Bool.not_eq_false, Decidable.not_not, Int.not_lt, Int.not_le] at h12
                  refine skip ?_
                  refine n_then ?_
                  refine cond rfl (fun h12 => ?_) (fun h12 => ?_)
                  · try simp only [decide_eq_true_eq, decide_eq_false_iff_not, beq_iff_eq, bne_iff_ne, ne_eq, beq_eq_false_iff_ne, bne_eq_false_iff_eq, Bool.not_eq_true', Bool.not_eq_false', Bool.not_eq_true, Bool.not_eq_false, Decidable.not_not, Int.not_lt, Int.not_le] at h12
                    refine seq ?_
                    refine region ?_
                    refine op (y (x_assign rfl) rfl ?_)
                    refine nil ?_
                    refine n_then ?_
                    refine ret ?_
                    refine r_in ?_
                    refine r_then ?_
                    exact done rfl (.tmp rfl (.nil)) (Ro.le.refl _) (L) (subF (by (repeat (first | exact List.Sublist.refl _ | apply List.Sublist.cons_cons | apply List.Sublist.cons)); done)) (⟨by simp only [tupled, ofK]; congr 1; grind, rfl, rfl⟩)
                  · try simp only [decide_eq_true_eq, decide_eq_false_iff_not, beq_iff_eq, bne_iff_ne, ne_eq, beq_eq_false_iff_ne, bne_eq_false_iff_eq, Bool.not_eq_true', Bool.not_eq_false', Bool.not_eq_true, Bool.not_eq_false, Decidable.not_not, Int.not_lt, Int.not_le] at h12
                    refine skip ?_
                    refine n_in ?_
                    refine n_then ?_
                    refine seq ?_
                    refine region ?_
                    refine op (y (x_assign rfl) rfl ?_)
                    refine nil ?_
                    refine n_then ?_
                    refine ret ?_
                    exact done rfl (.tmp rfl (.nil)) (Ro.le.refl _) (L) (subF (by (repeat (first | exact List.Sublist.refl _ | apply List.Sublist.cons_cons | apply List.Sublist.cons)); done)) (⟨by simp only [tupled, ofK]; congr 1; grind, rfl, rfl⟩)
                · try simp only [decide_eq_true_eq, decide_eq_false_iff_not, beq_iff_eq, bne_iff_ne, ne_eq, beq_eq_false_iff_ne, bne_eq_false_iff_eq, Bool.not_eq_true', Bool.not_eq_false', Bool.not_eq_true, Bool.not_eq_false, Decidable.not_not, Int.not_lt, Int.not_le] at h12
                  refine region ?_
                  refine op (y (x_eql rfl rfl) rfl ?_)
                  refine op (y (x_assign rfl) rfl ?_)
                  refine nil ?_
                  refine n_then ?_
                  refine cond rfl (fun h13 => ?_) (fun h13 => ?_)
                  · try simp only [decide_eq_true_eq, decide_eq_false_iff_not, beq_iff_eq, bne_iff_ne, ne_eq, beq_eq_false_iff_ne, bne_eq_false_iff_eq, Bool.not_eq_true', Bool.not_eq_false', Bool.not_eq_true, Bool.not_eq_false, Decidable.not_not, Int.not_lt, Int.not_le] at h13
                    refine seq ?_
                    refine region ?_
                    refine op (y (x_assign rfl) rfl ?_)
                    refine nil ?_
                    refine n_then ?_
                    refine ret ?_
                    refine r_in ?_
                    refine r_then ?_
                    exact done rfl (.tmp rfl (.nil)) (Ro.le.refl _) (L) (subF (by (repeat (first | exact List.Sublist.refl _ | apply List.Sublist.cons_cons | apply List.Sublist.cons)); done)) (⟨by simp only [tupled, ofK]; congr 1; grind, rfl, rfl⟩)
                  · try simp only [decide_eq_true_eq, decide_eq_false_iff_not, beq_iff_eq, bne_iff_ne, ne_eq, beq_eq_false_iff_ne, bne_eq_false_iff_eq, Bool.not_eq_true', Bool.not_eq_false', Bool.not_eq_true, Bool.not_eq_false, Decidable.not_not, Int.not_lt, Int.not_le] at h13
                    refine skip ?_
                    refine n_in ?_
                    refine n_then ?_
                    refine seq ?_
                    refine region ?_
                    refine op (y (x_assign rfl) rfl ?_)
                    refine nil ?_
                    refine n_then ?_
                    refine ret ?_
                    exact done rfl (.tmp rfl (.nil)) (Ro.le.refl _) (L) (subF (by (repeat (first | exact List.Sublist.refl _ | apply List.Sublist.cons_cons | apply List.Sublist.cons)); done)) (⟨by simp only [tupled, ofK]; congr 1; grind, rfl, rfl⟩)
          · try simp only [decide_eq_true_eq, decide_eq_false_iff_not, beq_iff_eq, bne_iff_ne, ne_eq, beq_eq_false_iff_ne, bne_eq_false_iff_eq, Bool.not_eq_true', Bool.not_eq_false', Bool.not_eq_true, Bool.not_eq_false, Decidable.not_not, Int.not_lt, Int.not_le] at h8
            refine region ?_
            refine op (y (x_eql rfl rfl) rfl ?_)
            refine op (y (x_assign rfl) rfl ?_)
            refine nil ?_
            refine n_then ?_
            refine cond rfl (fun h9 => ?_) (fun h9 => ?_)
            · try simp only [decide_eq_true_eq, decide_eq_false_iff_not, beq_iff_eq, bne_iff_ne, ne_eq, beq_eq_false_iff_ne, bne_eq_false_iff_eq, Bool.not_eq_true', Bool.not_eq_false', Bool.not_eq_true, Bool.not_eq_false, Decidable.not_not, Int.not_lt, Int.not_le] at h9
              refine seq ?_
              refine region ?_
              refine op (y (x_assign rfl) rfl ?_)
              refine nil ?_
              refine n_then ?_
              refine ret ?_
              refine r_in ?_
              refine r_then ?_
              exact done rfl (.tmp rfl (.nil)) (Ro.le.refl _) (L) (subF (by (repeat (first | exact List.Sublist.refl _ | apply List.Sublist.cons_cons | apply List.Sublist.cons)); done)) (⟨by simp only [tupled, ofK]; congr 1; grind, rfl, rfl⟩)
            · try simp only [decide_eq_true_eq, decide_eq_false_iff_not, beq_iff_eq, bne_iff_ne, ne_eq, beq_eq_false_iff_ne, bne_eq_false_iff_eq, Bool.not_eq_true', Bool.not_eq_false', Bool.not_eq_true, Bool.not_eq_false, Decidable.not_not, Int.not_lt, Int.not_le] at h9
              refine seq ?_
              refine seq ?_
              refine region ?_
              refine op (y (x_eql rfl rfl) rfl ?_)
              refine op (y (x_assign rfl) rfl ?_)
              refine nil ?_
              refine n_then ?_
              refine cond rfl (fun h11 => ?_) (fun h11 => ?_)
              · try simp only [decide_eq_true_eq, decide_eq_false_iff_not, beq_iff_eq, bne_iff_ne, ne_eq, beq_eq_false_iff_ne, bne_eq_false_iff_eq, Bool.not_eq_true', Bool.not_eq_false', Bool.not_eq_true, Bool.not_eq_false, Decidable.not_not, Int.not_lt, Int.not_le] at h11
                refine skip ?_
                refine n_then ?_
                refine cond rfl (fun h11 => ?_) (fun h11 => ?_)
                · try simp only [decide_eq_true_eq, decide_eq_false_iff_not, beq_iff_eq, bne_iff_ne, ne_eq, beq_eq_false_iff_ne, bne_eq_false_iff_eq, Bool.not_eq_true', Bool.not_eq_false', Bool.not_eq_true, Bool.not_eq_false, Decidable.not_not, Int.not_lt, Int.not_le] at h11
                  refine seq ?_
                  refine region ?_
                  refine op (y (x_assign rfl) rfl ?_)
                  refine nil ?_
                  refine n_then ?_
                  refine ret ?_
                  refine r_in ?_
                  refine r_then ?_
                  exact done rfl (.tmp rfl (.nil)) (Ro.le.refl _) (L) (subF (by (repeat (first | exact List.Sublist.refl _ | apply List.Sublist.cons_cons | apply List.Sublist.cons)); done)) (⟨by simp only [tupled, ofK]; congr 1; grind, rfl, rfl⟩)
                · try simp only [decide_eq_true_eq, decide_eq_false_iff_not, beq_iff_eq, bne_iff_ne, ne_eq, beq_eq_false_iff_ne, bne_eq_false_iff_eq, Bool.not_eq_true', Bool.not_eq_false', Bool.not_eq_true, Bool.not_eq_false, Decidable.not_not, Int.not_lt, Int.not_le] at h11
                  refine skip ?_
                  refine n_in ?_
                  refine n_then ?_
                  refine seq ?_
                  refine region ?_
                  refine op (y (x_assign rfl) rfl ?_)
                  refine nil ?_
                  refine n_then ?_
                  refine ret ?_
                  exact done rfl (.tmp rfl (.nil)) (Ro.le.refl _) (L) (subF (by (repeat (first | exact List.Sublist.refl _ | apply List.Sublist.cons_cons | apply List.Sublist.cons)); done)) (⟨by simp only [tupled, ofK]; congr 1; grind, rfl, rfl⟩)
              · try simp only [decide_eq_true_eq, decide_eq_false_iff_not, beq_iff_eq, bne_iff_ne, ne_eq, beq_eq_false_iff_ne, bne_eq_false_iff_eq, Bool.not_eq_true', Bool.not_eq_false', Bool.not_eq_true, Bool.not_eq_false, Decidable.not_not, Int.not_lt, Int.not_le] at h11
                refine seq ?_
                refine region ?_
                refine op (y (x_eql rfl rfl) rfl ?_)
                refine op (y (x_assign rfl) rfl ?_)
                refine nil ?_
                refine n_then ?_
                refine cond rfl (fun h12 => ?_) (fun h12 => ?_)
                · try simp only [decide_eq_true_eq, decide_eq_false_iff_not, beq_iff_eq, bne_iff_ne, ne_eq, beq_eq_false_iff_ne, bne_eq_false_iff_eq, Bool.not_eq_true', Bool.not_eq_false', Bool.not_eq_true, Bool.not_eq_false, Decidable.not_not, Int.not_lt, Int.not_le] at h12
                  refine skip ?_
                  refine n_then ?_
                  refine cond rfl (fun h12 => ?_) (fun h12 => ?_)
                  · try simp only [decide_eq_true_eq, decide_eq_false_iff_not, beq_iff_eq, bne_iff_ne, ne_eq, beq_eq_false_iff_ne, bne_eq_false_iff_eq, Bool.not_eq_true', Bool.not_eq_false', Bool.not_eq_true, Bool.not_eq_false, Decidable.not_not, Int.not_lt, Int.not_le] at h12
                    refine seq ?_
                    refine region ?_
                    refine op (y (x_assign rfl) rfl ?_)
                    refine nil ?_
                    refine n_then ?_
                    refine ret ?_
                    refine r_in ?_
                    refine r_then ?_
                    exact done rfl (.tmp rfl (.nil)) (Ro.le.refl _) (L) (subF (by (repeat (first | exact List.Sublist.refl _ | apply List.Sublist.cons_cons | apply List.Sublist.cons)); done)) (⟨by simp only [tupled, ofK]; congr 1; grind, rfl, rfl⟩)
                  · try simp only [decide_eq_true_eq, decide_eq_false_iff_not, beq_iff_eq, bne_iff_ne, ne_eq, beq_eq_false_iff_ne, bne_eq_false_iff_eq, Bool.not_eq_true', Bool.not_eq_false', Bool.not_eq_true, Bool.not_eq_false, Decidable.not_not, Int.not_lt, Int.not_le] at h12
                    refine skip ?_
                    refine n_in ?_
                    refine n_then ?_
                    refine seq ?_
                    refine region ?_
                    refine op (y (x_assign rfl) rfl ?_)
                    refine nil ?_
                    refine n_then ?_
                    refine ret ?_
                    exact done rfl (.tmp rfl (.nil)) (Ro.le.refl _) (L) (subF (by (repeat (first | exact List.Sublist.refl _ | apply List.Sublist.cons_cons | apply List.Sublist.cons)); done)) (⟨by simp only [tupled, ofK]; congr 1; grind, rfl, rfl⟩)
                · try simp only [decide_eq_true_eq, decide_eq_false_iff_not, beq_iff_eq, bne_iff_ne, ne_eq, beq_eq_false_iff_ne, bne_eq_false_iff_eq, Bool.not_eq_true', Bool.not_eq_false', Bool.not_eq_true, Bool.not_eq_false, Decidable.not_not, Int.not_lt, Int.not_le] at h12
                  refine region ?_
                  refine op (y (x_eql rfl rfl) rfl ?_)
                  refine op (y (x_assign rfl) rfl ?_)
                  refine nil ?_
                  refine n_then ?_
                  refine cond rfl (fun h13 => ?_) (fun h13 => ?_)
                  · try simp only [decide_eq_true_eq, decide_eq_false_iff_not, beq_iff_eq, bne_iff_ne, ne_eq, beq_eq_false_iff_ne, bne_eq_false_iff_eq, Bool.not_eq_true', Bool.not_eq_false', Bool.not_eq_true, Bool.not_eq_false, Decidable.not_not, Int.not_lt, Int.not_le] at h13
                    refine seq ?_
                    refine region ?_
                    refine op (y (x_assign rfl) rfl ?_)
                    refine nil ?_
                    refine n_then ?_
                    refine ret ?_
                    refine r_in ?_
                    refine r_then ?_
                    exact done rfl (.tmp rfl (.nil)) (Ro.le.refl _) (L) (subF (by (repeat (first | exact List.Sublist.refl _ | apply List.Sublist.cons_cons | apply List.Sublist.cons)); done)) (⟨by simp only [tupled, ofK]; congr 1; grind, rfl, rfl⟩)
                  · try simp only [decide_eq_true_eq, decide_eq_false_iff_not, beq_iff_eq, bne_iff_ne, ne_eq, beq_eq_false_iff_ne, bne_eq_false_iff_eq, Bool.not_eq_true', Bool.not_eq_false', Bool.not_eq_true, Bool.not_eq_false, Decidable.not_not, Int.not_lt, Int.not_le] at h13
                    refine skip ?_
                    refine n_in ?_
                    refine n_then ?_
                    refine seq ?_
                    refine region ?_
                    refine op (y (x_assign rfl) rfl ?_)
                    refine nil ?_
                    refine n_then ?_
                    refine ret ?_
                    exact done rfl (.tmp rfl (.nil)) (Ro.le.refl _) (L) (subF (by (repeat (first | exact List.Sublist.refl _ | apply List.Sublist.cons_cons | apply List.Sublist.cons)); done)) (⟨by simp only [tupled, ofK]; congr 1; grind, rfl, rfl⟩)
      · try simp only [decide_eq_true_eq, decide_eq_false_iff_not, beq_iff_eq, bne_iff_ne, ne_eq, beq_eq_false_iff_ne, bne_eq_false_iff_eq, Bool.not_eq_true', Bool.not_eq_false', Bool.not_eq_true, Bool.not_eq_false, Decidable.not_not, Int.not_lt, Int.not_le] at h5
        refine region ?_
        refine op (y (x_eql rfl rfl) rfl ?_)
        refine op (y (x_assign rfl) rfl ?_)
        refine nil ?_
        refine n_then ?_
        refine cond rfl (fun h6 => ?_) (fun h6 => ?_)
        · try simp only [decide_eq_true_eq, decide_eq_false_iff_not, beq_iff_eq, bne_iff_ne, ne_eq, beq_eq_false_iff_ne, bne_eq_false_iff_eq, Bool.not_eq_true', Bool.not_eq_false', Bool.not_eq_true, Bool.not_eq_false, Decidable.not_not, Int.not_lt, Int.not_le] at h6
          refine seq ?_
          refine region ?_
          refine op (y (x_assign rfl) rfl ?_)
          refine nil ?_
          refine n_then ?_
          refine ret ?_
          refine r_in ?_
          refine r_then ?_
          exact done rfl (.tmp rfl (.nil)) (Ro.le.refl _) (L) (subF (by (repeat (first | exact List.Sublist.refl _ | apply List.Sublist.cons_cons | apply List.Sublist.cons)); done)) (⟨by simp only [tupled, ofK]; congr 1; grind, rfl, rfl⟩)
        · try simp only [decide_eq_true_eq, decide_eq_false_iff_not, beq_iff_eq, bne_iff_ne, ne_eq, beq_eq_false_iff_ne, bne_eq_false_iff_eq, Bool.not_eq_true', Bool.not_eq_false', Bool.not_eq_true, Bool.not_eq_false, Decidable.not_not, Int.not_lt, Int.not_le] at h6
          refine seq ?_
          refine seq ?_
          refine region ?_
          refine op (y (x_eql rfl rfl) rfl ?_)
          refine op (y (x_assign rfl) rfl ?_)
          refine nil ?_
          refine n_then ?_
          refine cond rfl (fun h8 => ?_) (fun h8 => ?_)
          · try simp only [decide_eq_true_eq, decide_eq_false_iff_not, beq_iff_eq, bne_iff_ne, ne_eq, beq_eq_false_iff_ne, bne_eq_false_iff_eq, Bool.not_eq_true', Bool.not_eq_false', Bool.not_eq_true, Bool.not_eq_false, Decidable.not_not, Int.not_lt, Int.not_le] at h8
            refine skip ?_
            refine n_then ?_
            refine cond rfl (fun h8 => ?_) (fun h8 => ?_)
            · try simp only [decide_eq_true_eq, decide_eq_false_iff_not, beq_iff_eq, bne_iff_ne, ne_eq, beq_eq_false_iff_ne, bne_eq_false_iff_eq, Bool.not_eq_true', Bool.not_eq_false', Bool.not_eq_true, Bool.not_eq_false, Decidable.not_not, Int.not_lt, Int.not_le] at h8
              refine seq ?_
              refine region ?_
              refine op (y (x_assign rfl) rfl ?_)
              refine nil ?_
              refine n_then ?_
              refine ret ?_
              refine r_in ?_
              refine r_then ?_
              exact done rfl (.tmp rfl (.nil)) (Ro.le.refl _) (L) (subF (by (repeat (first | exact List.Sublist.refl _ | apply List.Sublist.cons_cons | apply List.Sublist.cons)); done)) (⟨by simp only [tupled, ofK]; congr 1; grind, rfl, rfl⟩)
            · try simp only [decide_eq_true_eq, decide_eq_false_iff_not, beq_iff_eq, bne_iff_ne, ne_eq, beq_eq_false_iff_ne, bne_eq_false_iff_eq, Bool.not_eq_true', Bool.not_eq_false', Bool.not_eq_true, Bool.not_eq_false, Decidable.not_not, Int.not_lt, Int.not_le] at h8
              refine seq ?_
              refine seq ?_
              refine region ?_
              refine op (y (x_eql rfl rfl) rfl ?_)
              refine op (y (x_assign rfl) rfl ?_)
              refine nil ?_
              refine n_then ?_
              refine cond rfl (fun h11 => ?_) (fun h11 => ?_)
              · try simp only [decide_eq_true_eq, decide_eq_false_iff_not, beq_iff_eq, bne_iff_ne, ne_eq, beq_eq_false_iff_ne, bne_eq_false_iff_eq, Bool.not_eq_true', Bool.not_eq_false', Bool.not_eq_true, Bool.not_eq_false, Decidable.not_not, Int.not_lt, Int.not_le] at h11
                refine skip ?_
                refine n_then ?_
                refine cond rfl (fun h11 => ?_) (fun h11 => ?_)
                · try simp only [decide_eq_true_eq, decide_eq_false_iff_not, beq_iff_eq, bne_iff_ne, ne_eq, beq_eq_false_iff_ne, bne_eq_false_iff_eq, Bool.not_eq_true', Bool.not_eq_false', Bool.not_eq_true, Bool.not_eq_false, Decidable.not_not, Int.not_lt, Int.not_le] at h11
                  refine seq ?_
                  refine region ?_
                  refine op (y (x_assign rfl) rfl ?_)
                  refine nil ?_
                  refine n_then ?_
                  refine ret ?_
                  refine r_in ?_
                  refine r_then ?_
                  exact done rfl (.tmp rfl (.nil)) (Ro.le.refl _) (L) (subF (by (repeat (first | exact List.Sublist.refl _ | apply List.Sublist.cons_cons | apply List.Sublist.cons)); done)) (⟨by simp only [tupled, ofK]; congr 1; grind, rfl, rfl⟩)
                · try simp only [decide_eq_true_eq, decide_eq_false_iff_not, beq_iff_eq, bne_iff_ne, ne_eq, beq_eq_false_iff_ne, bne_eq_false_iff_eq, Bool.not_eq_true', Bool.not_eq_false', Bool.not_eq_true, Bool.not_eq_false, Decidable.not_not, Int.not_lt, Int.not_le] at h11
                  refine skip ?_
                  refine n_in ?_
                  refine n_then ?_
                  refine seq ?_
                  refine region ?_
                  refine op (y (x_assign rfl) rfl ?_)
                  refine nil ?_
                  refine n_then ?_
                  refine ret ?_
                  exact done rfl (.tmp rfl (.nil)) (Ro.le.refl _) (L) (subF (by (repeat (first | exact List.Sublist.refl _ | apply List.Sublist.cons_cons | apply List.Sublist.cons)); done)) (⟨by simp only [tupled, ofK]; congr 1; grind, rfl, rfl⟩)
              · try simp only [decide_eq_true_eq, decide_eq_false_iff_not, beq_iff_eq, bne_iff_ne, ne_eq, beq_eq_false_iff_ne, bne_eq_false_iff_eq, Bool.not_eq_true', Bool.not_eq_false', Bool.not_eq_true, Bool.not_eq_false, Decidable.not_not, Int.not_lt, Int.not_le] at h11
                refine seq ?_
                refine region ?_
                refine op (y (x_eql rfl rfl) rfl ?_)
                refine op (y (x_assign rfl) rfl ?_)
                refine nil ?_
                refine n_then ?_
                refine cond rfl (fun h12 => ?_) (fun h12 => ?_)
                · try simp only [decide_eq_true_eq, decide_eq_false_iff_not, beq_iff_eq, bne_iff_ne, ne_eq, beq_eq_false_iff_ne, bne_eq_false_iff_eq, Bool.not_eq_true', Bool.not_eq_false', Bool.not_eq_true, Bool.not_eq_false, Decidable.not_not, Int.not_lt, Int.not_le] at h12
                  refine skip ?_
                  refine n_then ?_
                  refine cond rfl (fun h12 => ?_) (fun h12 => ?_)
                  · try simp only [decide_eq_true_eq, decide_eq_false_iff_not, beq_iff_eq, bne_iff_ne, ne_eq, beq_eq_false_iff_ne, bne_eq_false_iff_eq, Bool.not_eq_true', Bool.not_eq_false', Bool.not_eq_true, Bool.not_eq_false, Decidable.not_not, Int.not_lt, Int.not_le] at h12
                    refine seq ?_
                    refine region ?_
                    refine op (y (x_assign rfl) rfl ?_)
                    refine nil ?_
                    refine n_then ?_
                    refine ret ?_
                    refine r_in ?_
                    refine r_then ?_
                    exact done rfl (.tmp rfl (.nil)) (Ro.le.refl _) (L) (subF (by (repeat (first | exact List.Sublist.refl _ | apply List.Sublist.cons_cons | apply List.Sublist.cons)); done)) (⟨by simp only [tupled, ofK]; congr 1; grind, rfl, rfl⟩)
                  · try simp only [decide_eq_true_eq, decide_eq_false_iff_not, beq_iff_eq, bne_iff_ne, ne_eq, beq_eq_false_iff_ne, bne_eq_false_iff_eq, Bool.not_eq_true', Bool.not_eq_false', Bool.not_eq_true, Bool.not_eq_false, Decidable.not_not, Int.not_lt, Int.not_le] at h12
                    refine skip ?_
                    refine n_in ?_
                    refine n_then ?_
                    refine seq ?_
                    refine region ?_
                    refine op (y (x_assign rfl) rfl ?_)
                    refine nil ?_
                    refine n_then ?_
                    refine ret ?_
                    exact done rfl (.tmp rfl (.nil)) (Ro.le.refl _) (L) (subF (by (repeat (first | exact List.Sublist.refl _ | apply List.Sublist.cons_cons | apply List.Sublist.cons)); done)) (⟨by simp only [tupled, ofK]; congr 1; grind, rfl, rfl⟩)
                · try simp only [decide_eq_true_eq, decide_eq_false_iff_not, beq_iff_eq, bne_iff_ne, ne_eq, beq_eq_false_iff_ne, bne_eq_false_iff_eq, Bool.not_eq_true', Bool.not_eq_false', Bool.not_eq_true, Bool.not_eq_false, Decidable.not_not, Int.not_lt, Int.not_le] at h12
                  refine region ?_
                  refine op (y (x_eql rfl rfl) rfl ?_)
                  refine op (y (x_assign rfl) rfl ?_)
                  refine nil ?_
                  refine n_then ?_
                  refine cond rfl (fun h13 => ?_) (fun h13 => ?_)
                  · try simp only [decide_eq_true_eq, decide_eq_false_iff_not, beq_iff_eq, bne_iff_ne, ne_eq, beq_eq_false_iff_ne, bne_eq_false_iff_eq, Bool.not_eq_true', Bool.not_eq_false', Bool.not_eq_true, Bool.not_eq_false, Decidable.not_not, Int.not_lt, Int.not_le] at h13
                    refine seq ?_
                    refine region ?_
                    refine op (y (x_assign rfl) rfl ?_)
                    refine nil ?_
                    refine n_then ?_
                    refine ret ?_
                    refine r_in ?_
                    refine r_then ?_
                    exact done rfl (.tmp rfl (.nil)) (Ro.le.refl _) (L) (subF (by (repeat (first | exact List.Sublist.refl _ | apply List.Sublist.cons_cons | apply List.Sublist.cons)); done)) (⟨by simp only [tupled, ofK]; congr 1; grind, rfl, rfl⟩)
                  · try simp only [decide_eq_true_eq, decide_eq_false_iff_not, beq_iff_eq, bne_iff_ne, ne_eq, beq_eq_false_iff_ne, bne_eq_false_iff_eq, Bool.not_eq_true', Bool.not_eq_false', Bool.not_eq_true, Bool.not_eq_false, Decidable.not_not, Int.not_lt, Int.not_le] at h13
                    refine skip ?_
                    refine n_in ?_
                    refine n_then ?_
                    refine seq ?_
                    refine region ?_
                    refine op (y (x_assign rfl) rfl ?_)
                    refine nil ?_
                    refine n_then ?_
                    refine ret ?_
                    exact done rfl (.tmp rfl (.nil)) (Ro.le.refl _) (L) (subF (by (repeat (first | exact List.Sublist.refl _ | apply List.Sublist.cons_cons | apply List.Sublist.cons)); done)) (⟨by simp only [tupled, ofK]; congr 1; grind, rfl, rfl⟩)
          · try simp only [decide_eq_true_eq, decide_eq_false_iff_not, beq_iff_eq, bne_iff_ne, ne_eq, beq_eq_false_iff_ne, bne_eq_false_iff_eq, Bool.not_eq_true', Bool.not_eq_false', Bool.not_eq_true, Bool.not_eq_false, Decidable.not_not, Int.not_lt, Int.not_le] at h8
            refine region ?_
            refine op (y (x_eql rfl rfl) rfl ?_)
            refine op (y (x_assign rfl) rfl ?_)
            refine nil ?_
            refine n_then ?_
            refine cond rfl (fun h9 => ?_) (fun h9 => ?_)
            · try simp only [decide_eq_true_eq, decide_eq_false_iff_not, beq_iff_eq, bne_iff_ne, ne_eq, beq_eq_false_iff_ne, bne_eq_false_iff_eq, Bool.not_eq_true', Bool.not_eq_false', Bool.not_eq_true, Bool.not_eq_false, Decidable.not_not, Int.not_lt, Int.not_le] at h9
              refine seq ?_
              refine region ?_
              refine op (y (x_assign rfl) rfl ?_)
              refine nil ?_
              refine n_then ?_
              refine ret ?_
              refine r_in ?_
              refine r_then ?_
              exact done rfl (.tmp rfl (.nil)) (Ro.le.refl _) (L) (subF (by (repeat (first | exact List.Sublist.refl _ | apply List.Sublist.cons_cons | apply List.Sublist.cons)); done)) (⟨by simp only [tupled, ofK]; congr 1; grind, rfl, rfl⟩)
            · try simp only [decide_eq_true_eq, decide_eq_false_iff_not, beq_iff_eq, bne_iff_ne, ne_eq, beq_eq_false_iff_ne, bne_eq_false_iff_eq, Bool.not_eq_true', Bool.not_eq_false', Bool.not_eq_true, Bool.not_eq_false, Decidable.not_not, Int.not_lt, Int.not_le] at h9
              refine seq ?_
              refine seq ?_
              refine region ?_
              refine op (y (x_eql rfl rfl) rfl ?_)
              refine op (y (x_assign rfl) rfl ?_)
              refine nil ?_
              refine n_then ?_
              refine cond rfl (fun h11 => ?_) (fun h11 => ?_)
              · try simp only [decide_eq_true_eq, decide_eq_false_iff_not, beq_iff_eq, bne_iff_ne, ne_eq, beq_eq_false_iff_ne, bne_eq_false_iff_eq, Bool.not_eq_true', Bool.not_eq_false', Bool.not_eq_true, Bool.not_eq_false, Decidable.not_not, Int.not_lt, Int.not_le] at h11
                refine skip ?_
                refine n_then ?_
                refine cond rfl (fun h11 => ?_) (fun h11 => ?_)
                · try simp only [decide_eq_true_eq, decide_eq_false_iff_not, beq_iff_eq, bne_iff_ne, ne_eq, beq_eq_false_iff_ne, bne_eq_false_iff_eq, Bool.not_eq_true', Bool.not_eq_false', Bool.not_eq_true, Bool.not_eq_false, Decidable.not_not, Int.not_lt, Int.not_le] at h11
                  refine seq ?_
                  refine region ?_
                  refine op (y (x_assign rfl) rfl ?_)
                  refine nil ?_
                  refine n_then ?_
                  refine ret ?_
                  refine r_in ?_
                  refine r_then ?_
                  exact done rfl (.tmp rfl (.nil)) (Ro.le.refl _) (L) (subF (by (repeat (first | exact List.Sublist.refl _ | apply List.Sublist.cons_cons | apply List.Sublist.cons)); done)) (⟨by simp only [tupled, ofK]; congr 1; grind, rfl, rfl⟩)
                · try simp only [decide_eq_true_eq, decide_eq_false_iff_not, beq_iff_eq, bne_iff_ne, ne_eq, beq_eq_false_iff_ne, bne_eq_false_iff_eq, Bool.not_eq_true', Bool.not_eq_false', Bool.not_eq_true, Bool.not_eq_false, Decidable.not_not, Int.not_lt, Int.not_le] at h11
                  refine skip ?_
                  refine n_in ?_
                  refine n_then ?_
                  refine seq ?_
                  refine region ?_
                  refine op (y (x_assign rfl) rfl ?_)
                  refine nil ?_
                  refine n_then ?_
                  refine ret ?_
                  exact done rfl (.tmp rfl (.nil)) (Ro.le.refl _) (L) (subF (by (repeat (first | exact List.Sublist.refl _ | apply List.Sublist.cons_cons | apply List.Sublist.cons)); done)) (⟨by simp only [tupled, ofK]; congr 1; grind, rfl, rfl⟩)
              · try simp only [decide_eq_true_eq, decide_eq_false_iff_not, beq_iff_eq, bne_iff_ne, ne_eq, beq_eq_false_iff_ne, bne_eq_false_iff_eq, Bool.not_eq_true', Bool.not_eq_false', Bool.not_eq_true, Bool.not_eq_false, Decidable.not_not, Int.not_lt, Int.not_le] at h11
                refine seq ?_
                refine region ?_
                refine op (y (x_eql rfl rfl) rfl ?_)
                refine op (y (x_assign rfl) rfl ?_)
                refine nil ?_
                refine n_then ?_
                refine cond rfl (fun h12 => ?_) (fun h12 => ?_)
                · try simp only [decide_eq_true_eq, decide_eq_false_iff_not, beq_iff_eq, bne_iff_ne, ne_eq, beq_eq_false_iff_ne, bne_eq_false_iff_eq, Bool.not_eq_true', Bool.not_eq_false', Bool.not_eq_true, Bool.not_eq_false, Decidable.not_not, Int.not_lt, Int.not_le] at h12
                  refine skip ?_
                  refine n_then ?_
                  refine cond rfl (fun h12 => ?_) (fun h12 => ?_)
                  · try simp only [decide_eq_true_eq, decide_eq_false_iff_not, beq_iff_eq, bne_iff_ne, ne_eq, beq_eq_false_iff_ne, bne_eq_false_iff_eq, Bool.not_eq_true', Bool.not_eq_false', Bool.not_eq_true, Bool.not_eq_false, Decidable.not_not, Int.not_lt, Int.not_le] at h12
                    refine seq ?_
                    refine region ?_
                    refine op (y (x_assign rfl) rfl ?_)
                    refine nil ?_
                    refine n_then ?_
                    refine ret ?_
                    refine r_in ?_
                    refine r_then ?_
                    exact done rfl (.tmp rfl (.nil)) (Ro.le.refl _) (L) (subF (by (repeat (first | exact List.Sublist.refl _ | apply List.Sublist.cons_cons | apply List.Sublist.cons)); done)) (⟨by simp only [tupled, ofK]; congr 1; grind, rfl, rfl⟩)
                  · try simp only [decide_eq_true_eq, decide_eq_false_iff_not, beq_iff_eq, bne_iff_ne, ne_eq, beq_eq_false_iff_ne, bne_eq_false_iff_eq, Bool.not_eq_true', Bool.not_eq_false', Bool.not_eq_true, Bool.not_eq_false, Decidable.not_not, Int.not_lt, Int.not_le] at h12
                    refine skip ?_
                    refine n_in ?_
                    refine n_then ?_
                    refine seq ?_
                    refine region ?_
                    refine op (y (x_assign rfl) rfl ?_)
                    refine nil ?_
                    refine n_then ?_
                    refine ret ?_
                    exact done rfl (.tmp rfl (.nil)) (Ro.le.refl _) (L) (subF (by (repeat (first | exact List.Sublist.refl _ | apply List.Sublist.cons_cons | apply List.Sublist.cons)); done)) (⟨by simp only [tupled, ofK]; congr 1; grind, rfl, rfl⟩)
                · try simp only [decide_eq_true_eq, decide_eq_false_iff_not, beq_iff_eq, bne_iff_ne, ne_eq, beq_eq_false_iff_ne, bne_eq_false_iff_eq, Bool.not_eq_true', Bool.not_eq_false', Bool.not_eq_true, Bool.not_eq_false, Decidable.not_not, Int.not_lt, Int.not_le] at h12
                  refine region ?_
                  refine op (y (x_eql rfl rfl) rfl ?_)
                  refine op (y (x_assign rfl) rfl ?_)
                  refine nil ?_
                  refine n_then ?_
                  refine cond rfl (fun h13 => ?_) (fun h13 => ?_)
                  · try simp only [decide_eq_true_eq, decide_eq_false_iff_not, beq_iff_eq, bne_iff_ne, ne_eq, beq_eq_false_iff_ne, bne_eq_false_iff_eq, Bool.not_eq_true', Bool.not_eq_false', Bool.not_eq_true, Bool.not_eq_false, Decidable.not_not, Int.not_lt, Int.not_le] at h13
                    refine seq ?_
                    refine region ?_
                    refine op (y (x_assign rfl) rfl ?_)
                    refine nil ?_
                    refine n_then ?_
                    refine ret ?_
                    refine r_in ?_
                    refine r_then ?_
                    exact done rfl (.tmp rfl (.nil)) (Ro.le.refl _) (L) (subF (by (repeat (first | exact List.Sublist.refl _ | apply List.Sublist.cons_cons | apply List.Sublist.cons)); done)) (⟨by simp only [tupled, ofK]; congr 1; grind, rfl, rfl⟩)
                  · try simp only [decide_eq_true_eq, decide_eq_false_iff_not, beq_iff_eq, bne_iff_ne, ne_eq, beq_eq_false_iff_ne, bne_eq_false_iff_eq, Bool.not_eq_true', Bool.not_eq_false', Bool.not_eq_true, Bool.not_eq_false, Decidable.not_not, Int.not_lt, Int.not_le] at h13
                    refine skip ?_
                    refine n_in ?_
                    refine n_then ?_
                    refine seq ?_
                    refine region ?_
                    refine op (y (x_assign rfl) rfl ?_)
                    refine nil ?_
                    refine n_then ?_
                    refine ret ?_
                    exact done rfl (.tmp rfl (.nil)) (Ro.le.refl _) (L) (subF (by (repeat (first | exact List.Sublist.refl _ | apply List.Sublist.cons_cons | apply List.Sublist.cons)); done)) (⟨by simp only [tupled, ofK]; congr 1; grind, rfl, rfl⟩)
  · try simp only [decide_eq_true_eq, decide_eq_false_iff_not, beq_iff_eq, bne_iff_ne, ne_eq, beq_eq_false_iff_ne, bne_eq_false_iff_eq, Bool.not_eq_true', Bool.not_eq_false', Bool.not_eq_true, Bool.not_eq_false, Decidable.not_not, Int.not_lt, Int.not_le] at h2
    refine region ?_
    refine op (y (x_eql rfl rfl) rfl ?_)
    refine op (y (x_assign rfl) rfl ?_)
    refine nil ?_
    refine n_then ?_
    refine cond rfl (fun h3 => ?_) (fun h3 => ?_)
    · try simp only [decide_eq_true_eq, decide_eq_false_iff_not, beq_iff_eq, bne_iff_ne, ne_eq, beq_eq_false_iff_ne, bne_eq_false_iff_eq, Bool.not_eq_true', Bool.not_eq_false', Bool.not_eq_true, Bool.not_eq_false, Decidable.not_not, Int.not_lt, Int.not_le] at h3
      refine seq ?_
      refine region ?_
      refine op (y (x_assign rfl) rfl ?_)
      refine nil ?_
      refine n_then ?_
      refine ret ?_
      refine r_in ?_
      refine r_then ?_
      exact done rfl (.tmp rfl (.nil)) (Ro.le.refl _) (L) (subF (by (repeat (first | exact List.Sublist.refl _ | apply List.Sublist.cons_cons | apply List.Sublist.cons)); done)) (⟨by simp only [tupled, ofK]; congr 1; grind, rfl, rfl⟩)
    · try simp only [decide_eq_true_eq, decide_eq_false_iff_not, beq_iff_eq, bne_iff_ne, ne_eq, beq_eq_false_iff_ne, bne_eq_false_iff_eq, Bool.not_eq_true', Bool.not_eq_false', Bool.not_eq_true, Bool.not_eq_false, Decidable.not_not, Int.not_lt, Int.not_le] at h3
      refine seq ?_
      refine seq ?_
      refine region ?_
      refine op (y (x_eql rfl rfl) rfl ?_)
      refine op (y (x_assign rfl) rfl ?_)
      refine nil ?_
      refine n_then ?_
      refine cond rfl (fun h5 => ?_) (fun h5 => ?_)
      · try simp only [decide_eq_true_eq, decide_eq_false_iff_not, beq_iff_eq, bne_iff_ne, ne_eq, beq_eq_false_iff_ne, bne_eq_false_iff_eq, Bool.not_eq_true', Bool.not_eq_false', Bool.not_eq_true, Bool.not_eq_false, Decidable.not_not, Int.not_lt, Int.not_le] at h5
        refine skip ?_
        refine n_then ?_
        refine cond rfl (fun h5 => ?_) (fun h5 => ?_)
        · try simp only [decide_eq_true_eq, decide_eq_false_iff_not, beq_iff_eq, bne_iff_ne, ne_eq, beq_eq_false_iff_ne, bne_eq_false_iff_eq, Bool.not_eq_true', Bool.not_eq_false', Bool.not_eq_true, Bool.not_eq_false, Decidable.not_not, Int.not_lt, Int.not_le] at h5
          refine seq ?_
          refine region ?_
          refine op (y (x_assign rfl) rfl ?_)
          refine nil ?_
          refine n_then ?_
          refine ret ?_
          refine r_in ?_
          refine r_then ?_
          exact done rfl (.tmp rfl (.nil)) (Ro.le.refl _) (L) (subF (by (repeat (first | exact List.Sublist.refl _ | apply List.Sublist.cons_cons | apply List.Sublist.cons)); done)) (⟨by simp only [tupled, ofK]; congr 1; grind, rfl, rfl⟩)
        · try simp only [decide_eq_true_eq, decide_eq_false_iff_not, beq_iff_eq, bne_iff_ne, ne_eq, beq_eq_false_iff_ne, bne_eq_false_iff_eq, Bool.not_eq_true', Bool.not_eq_false', Bool.not_eq_true, Bool.not_eq_false, Decidable.not_not, Int.not_lt, Int.not_le] at h5
          refine seq ?_
          refine seq ?_
          refine region ?_
          refine op (y (x_eql rfl rfl) rfl ?_)
          refine op (y (x_assign rfl) rfl ?_)
          refine nil ?_
          refine n_then ?_
          refine cond rfl (fun h8 => ?_) (fun h8 => ?_)
          · try simp only [decide_eq_true_eq, decide_eq_false_iff_not, beq_iff_eq, bne_iff_ne, ne_eq, beq_eq_false_iff_ne, bne_eq_false_iff_eq, Bool.not_eq_true', Bool.not_eq_false', Bool.not_eq_true, Bool.not_eq_false, Decidable.not_not, Int.not_lt, Int.not_le] at h8
            refine skip ?_
            refine n_then ?_
            refine cond rfl (fun h8 => ?_) (fun h8 => ?_)
            · try simp only [decide_eq_true_eq, decide_eq_false_iff_not, beq_iff_eq, bne_iff_ne, ne_eq, beq_eq_false_iff_ne, bne_eq_false_iff_eq, Bool.not_eq_true', Bool.not_eq_false', Bool.not_eq_true, Bool.not_eq_false, Decidable.not_not, Int.not_lt, Int.not_le] at h8
              refine seq ?_
              refine region ?_
              refine op (y (x_assign rfl) rfl ?_)
              refine nil ?_
              refine n_then ?_
              refine ret ?_
              refine r_in ?_
              refine r_then ?_
              exact done rfl (.tmp rfl (.nil)) (Ro.le.refl _) (L) (subF (by (repeat (first | exact List.Sublist.refl _ | apply List.Sublist.cons_cons | apply List.Sublist.cons)); done)) (⟨by simp only [tupled, ofK]; congr 1; grind, rfl, rfl⟩)
            · try simp only [decide_eq_true_eq, decide_eq_false_iff_not, beq_iff_eq, bne_iff_ne, ne_eq, beq_eq_false_iff_ne, bne_eq_false_iff_eq, Bool.not_eq_true', Bool.not_eq_false', Bool.not_eq_true, Bool.not_eq_false, Decidable.not_not, Int.not_lt, Int.not_le] at h8
              refine seq ?_
              refine seq ?_
              refine region ?_
              refine op (y (x_eql rfl rfl) rfl ?_)
              refine op (y (x_assign rfl) rfl ?_)
              refine nil ?_
              refine n_then ?_
              refine cond rfl (fun h11 => ?_) (fun h11 => ?_)
              · try simp only [decide_eq_true_eq, decide_eq_false_iff_not, beq_iff_eq, bne_iff_ne, ne_eq, beq_eq_false_iff_ne, bne_eq_false_iff_eq, Bool.not_eq_true', Bool.not_eq_false', Bool.not_eq_true, Bool.not_eq_false, Decidable.not_not, Int.not_lt, Int.not_le] at h11
                refine skip ?_
                refine n_then ?_
                refine cond rfl (fun h11 => ?_) (fun h11 => ?_)
                · try simp only [decide_eq_true_eq, decide_eq_false_iff_not, beq_iff_eq, bne_iff_ne, ne_eq, beq_eq_false_iff_ne, bne_eq_false_iff_eq, Bool.not_eq_true', Bool.not_eq_false', Bool.not_eq_true, Bool.not_eq_false, Decidable.not_not, Int.not_lt, Int.not_le] at h11
                  refine seq ?_
                  refine region ?_
                  refine op (y (x_assign rfl) rfl ?_)
                  refine nil ?_
                  refine n_then ?_
                  refine ret ?_
                  refine r_in ?_
                  refine r_then ?_
                  exact done rfl (.tmp rfl (.nil)) (Ro.le.refl _) (L) (subF (by (repeat (first | exact List.Sublist.refl _ | apply List.Sublist.cons_cons | apply List.Sublist.cons)); done)) (⟨by simp only [tupled, ofK]; congr 1; grind, rfl, rfl⟩)
                · try simp only [decide_eq_true_eq, decide_eq_false_iff_not, beq_iff_eq, bne_iff_ne, ne_eq, beq_eq_false_iff_ne, bne_eq_false_iff_eq, Bool.not_eq_true', Bool.not_eq_false', Bool.not_eq_true, Bool.not_eq_false, Decidable.not_not, Int.not_lt, Int.not_le] at h11
                  refine skip ?_
                  refine n_in ?_
                  refine n_then ?_
                  refine seq ?_
                  refine region ?_
                  refine op (y (x_assign rfl) rfl ?_)
                  refine nil ?_
                  refine n_then ?_
                  refine ret ?_
                  exact done rfl (.tmp rfl (.nil)) (Ro.le.refl _) (L) (subF (by (repeat (first | exact List.Sublist.refl _ | apply List.Sublist.cons_cons | apply List.Sublist.cons)); done)) (⟨by simp only [tupled, ofK]; congr 1; grind, rfl, rfl⟩)
              · try simp only [decide_eq_true_eq, decide_eq_false_iff_not, beq_iff_eq, bne_iff_ne, ne_eq, beq_eq_false_iff_ne, bne_eq_false_iff_eq, Bool.not_eq_true', Bool.not_eq_false', Bool.not_eq_true, Bool.not_eq_false, Decidable.not_not, Int.not_lt, Int.not_le] at h11
                refine seq ?_
                refine region ?_
                refine op (y (x_eql rfl rfl) rfl ?_)
                refine op (y (x_assign rfl) rfl ?_)
                refine nil ?_
                refine n_then ?_
                refine cond rfl (fun h12 => ?_) (fun h12 => ?_)
                · try simp only [decide_eq_true_eq, decide_eq_false_iff_not, beq_iff_eq, bne_iff_ne, ne_eq, beq_eq_false_iff_ne, bne_eq_false_iff_eq, Bool.not_eq_true', Bool.not_eq_false', Bool.not_eq_true, Bool.not_eq_false, Decidable.not_not, Int.not_lt, Int.not_le] at h12
                  refine skip ?_
                  refine n_then ?_
                  refine cond rfl (fun h12 => ?_) (fun h12 => ?_)
                  · try simp only [decide_eq_true_eq, decide_eq_false_iff_not, beq_iff_eq, bne_iff_ne, ne_eq, beq_eq_false_iff_ne, bne_eq_false_iff_eq, Bool.not_eq_true', Bool.not_eq_false', Bool.not_eq_true, Bool.not_eq_false, Decidable.not_not, Int.not_lt, Int.not_le] at h12
                    refine seq ?_
                    refine region ?_
                    refine op (y (x_assign rfl) rfl ?_)
                    refine nil ?_
                    refine n_then ?_
                    refine ret ?_
                    refine r_in ?_
                    refine r_then ?_
                    exact done rfl (.tmp rfl (.nil)) (Ro.le.refl _) (L) (subF (by (repeat (first | exact List.Sublist.refl _ | apply List.Sublist.cons_cons | apply List.Sublist.cons)); done)) (⟨by simp only [tupled, ofK]; congr 1; grind, rfl, rfl⟩)
                  · try simp only [decide_eq_true_eq, decide_eq_false_iff_not, beq_iff_eq, bne_iff_ne, ne_eq, beq_eq_false_iff_ne, bne_eq_false_iff_eq, Bool.not_eq_true', Bool.not_eq_false', Bool.not_eq_true, Bool.not_eq_false, Decidable.not_not, Int.not_lt, Int.not_le] at h12
                    refine skip ?_
                    refine n_in ?_
                    refine n_then ?_
                    refine seq ?_
                    refine region ?_
                    refine op (y (x_assign rfl) rfl ?_)
                    refine nil ?_
                    refine n_then ?_
                    refine ret ?_
                    exact done rfl (.tmp rfl (.nil)) (Ro.le.refl _) (L) (subF (by (repeat (first | exact List.Sublist.refl _ | apply List.Sublist.cons_cons | apply List.Sublist.cons)); done)) (⟨by simp only [tupled, ofK]; congr 1; grind, rfl, rfl⟩)
                · try simp only [decide_eq_true_eq, decide_eq_false_iff_not, beq_iff_eq, bne_iff_ne, ne_eq, beq_eq_false_iff_ne, bne_eq_false_iff_eq, Bool.not_eq_true', Bool.not_eq_false', Bool.not_eq_true, Bool.not_eq_false, Decidable.not_not, Int.not_lt, Int.not_le] at h12
                  refine region ?_
                  refine op (y (x_eql rfl rfl) rfl ?_)
                  refine op (y (x_assign rfl) rfl ?_)
                  refine nil ?_
                  refine n_then ?_
                  refine cond rfl (fun h13 => ?_) (fun h13 => ?_)
                  · try simp only [decide_eq_true_eq, decide_eq_false_iff_not, beq_iff_eq, bne_iff_ne, ne_eq, beq_eq_false_iff_ne, bne_eq_false_iff_eq, Bool.not_eq_true', Bool.not_eq_false', Bool.not_eq_true, Bool.not_eq_false, Decidable.not_not, Int.not_lt, Int.not_le] at h13
                    refine seq ?_
                    refine region ?_
                    refine op (y (x_assign rfl) rfl ?_)
                    refine nil ?_
                    refine n_then ?_
                    refine ret ?_
                    refine r_in ?_
                    refine r_then ?_
                    exact done rfl (.tmp rfl (.nil)) (Ro.le.refl _) (L) (subF (by (repeat (first | exact List.Sublist.refl _ | apply List.Sublist.cons_cons | apply List.Sublist.cons)); done)) (⟨by simp only [tupled, ofK]; congr 1; grind, rfl, rfl⟩)
                  · try simp only [decide_eq_true_eq, decide_eq_false_iff_not, beq_iff_eq, bne_iff_ne, ne_eq, beq_eq_false_iff_ne, bne_eq_false_iff_eq, Bool.not_eq_true', Bool.not_eq_false', Bool.not_eq_true, Bool.not_eq_false, Decidable.not_not, Int.not_lt, Int.not_le] at h13
                    refine skip ?_
                    refine n_in ?_
                    refine n_then ?_
                    refine seq ?_
                    refine region ?_
                    refine op (y (x_assign rfl) rfl ?_)
                    refine nil ?_
                    refine n_then ?_
                    refine ret ?_
                    exact done rfl (.tmp rfl (.nil)) (Ro.le.refl _) (L) (subF (by (repeat (first | exact List.Sublist.refl _ | apply List.Sublist.cons_cons | apply List.Sublist.cons)); done)) (⟨by simp only [tupled, ofK]; congr 1; grind, rfl, rfl⟩)
          · try simp only [decide_eq_true_eq, decide_eq_false_iff_not, beq_iff_eq, bne_iff_ne, ne_eq, beq_eq_false_iff_ne, bne_eq_false_iff_eq, Bool.not_eq_true', Bool.not_eq_false', Bool.not_eq_true, Bool.not_eq_false, Decidable.not_not, Int.not_lt, Int.not_le] at h8
            refine region ?_
            refine op (y (x_eql rfl rfl) rfl ?_)
            refine op (y (x_assign rfl) rfl ?_)
            refine nil ?_
            refine n_then ?_
            refine cond rfl (fun h9 => ?_) (fun h9 => ?_)
            · try simp only [decide_eq_true_eq, decide_eq_false_iff_not, beq_iff_eq, bne_iff_ne, ne_eq, beq_eq_false_iff_ne, bne_eq_false_iff_eq, Bool.not_eq_true', Bool.not_eq_false', Bool.not_eq_true, Bool.not_eq_false, Decidable.not_not, Int.not_lt, Int.not_le] at h9
              refine seq ?_
              refine region ?_
              refine op (y (x_assign rfl) rfl ?_)
              refine nil ?_
              refine n_then ?_
              refine ret ?_
              refine r_in ?_
              refine r_then ?_
              exact done rfl (.tmp rfl (.nil)) (Ro.le.refl _) (L) (subF (by (repeat (first | exact List.Sublist.refl _ | apply List.Sublist.cons_cons | apply List.Sublist.cons)); done)) (⟨by simp only [tupled, ofK]; congr 1; grind, rfl, rfl⟩)
            · try simp only [decide_eq_true_eq, decide_eq_false_iff_not, beq_iff_eq, bne_iff_ne, ne_eq, beq_eq_false_iff_ne, bne_eq_false_iff_eq, Bool.not_eq_true', Bool.not_eq_false', Bool.not_eq_true, Bool.not_eq_false, Decidable.not_not, Int.not_lt, Int.not_le] at h9
              refine seq ?_
              refine seq ?_
              refine region ?_
              refine op (y (x_eql rfl rfl) rfl ?_)
              refine op (y (x_assign rfl) rfl ?_)
              refine nil ?_
              refine n_then ?_
              refine cond rfl (fun h11 => ?_) (fun h11 => ?_)
              · try simp only [decide_eq_true_eq, decide_eq_false_iff_not, beq_iff_eq, bne_iff_ne, ne_eq, beq_eq_false_iff_ne, bne_eq_false_iff_eq, Bool.not_eq_true', Bool.not_eq_false', Bool.not_eq_true, Bool.not_eq_false, Decidable.not_not, Int.not_lt, Int.not_le] at h11
                refine skip ?_
                refine n_then ?_
                refine cond rfl (fun h11 => ?_) (fun h11 => ?_)
                · try simp only [decide_eq_true_eq, decide_eq_false_iff_not, beq_iff_eq, bne_iff_ne, ne_eq, beq_eq_false_iff_ne, bne_eq_false_iff_eq, Bool.not_eq_true', Bool.not_eq_false', Bool.not_eq_true, Bool.not_eq_false, Decidable.not_not, Int.not_lt, Int.not_le] at h11
                  refine seq ?_
                  refine region ?_
                  refine op (y (x_assign rfl) rfl ?_)
                  refine nil ?_
                  refine n_then ?_
                  refine ret ?_
                  refine r_in ?_
                  refine r_then ?_
                  exact done rfl (.tmp rfl (.nil)) (Ro.le.refl _) (L) (subF (by (repeat (first | exact List.Sublist.refl _ | apply List.Sublist.cons_cons | apply List.Sublist.cons)); done)) (⟨by simp only [tupled, ofK]; congr 1; grind, rfl, rfl⟩)
                · try simp only [decide_eq_true_eq, decide_eq_false_iff_not, beq_iff_eq, bne_iff_ne, ne_eq, beq_eq_false_iff_ne, bne_eq_false_iff_eq, Bool.not_eq_true', Bool.not_eq_false', Bool.not_eq_true, Bool.not_eq_false, Decidable.not_not, Int.not_lt, Int.not_le] at h11
                  refine skip ?_
                  refine n_in ?_
                  refine n_then ?_
                  refine seq ?_
                  refine region ?_
                  refine op (y (x_assign rfl) rfl ?_)
                  refine nil ?_
                  refine n_then ?_
                  refine ret ?_
                  exact done rfl (.tmp rfl (.nil)) (Ro.le.refl _) (L) (subF (by (repeat (first | exact List.Sublist.refl _ | apply List.Sublist.cons_cons | apply List.Sublist.cons)); done)) (⟨by simp only [tupled, ofK]; congr 1; grind, rfl, rfl⟩)
              · try simp only [decide_eq_true_eq, decide_eq_false_iff_not, beq_iff_eq, bne_iff_ne, ne_eq, beq_eq_false_iff_ne, bne_eq_false_iff_eq, Bool.not_eq_true', Bool.not_eq_false', Bool.not_eq_true, Bool.not_eq_false, Decidable.not_not, Int.not_lt, Int.not_le] at h11
                refine seq ?_
                refine region ?_
                refine op (y (x_eql rfl rfl) rfl ?_)
                refine op (y (x_assign rfl) rfl ?_)
                refine nil ?_
                refine n_then ?_
                refine cond rfl (fun h12 => ?_) (fun h12 => ?_)
                · try simp only [decide_eq_true_eq, decide_eq_false_iff_not, beq_iff_eq, bne_iff_ne, ne_eq, beq_eq_false_iff_ne, bne_eq_false_iff_eq, Bool.not_eq_true', Bool.not_eq_false', Bool.not_eq_true, Bool.not_eq_false, Decidable.not_not, Int.not_lt, Int.not_le] at h12
                  refine skip ?_
                  refine n_then ?_
                  refine cond rfl (fun h12 => ?_) (fun h12 => ?_)
                  · try simp only [decide_eq_true_eq, decide_eq_false_iff_not, beq_iff_eq, bne_iff_ne, ne_eq, beq_eq_false_iff_ne, bne_eq_false_iff_eq, Bool.not_eq_true', Bool.not_eq_false', Bool.not_eq_true, Bool.not_eq_false, Decidable.not_not, Int.not_lt, Int.not_le] at h12
                    refine seq ?_
                    refine region ?_
                    refine op (y (x_assign rfl) rfl ?_)
                    refine nil ?_
                    refine n_then ?_
                    refine ret ?_
                    refine r_in ?_
                    refine r_then ?_
                    exact done rfl (.tmp rfl (.nil)) (Ro.le.refl _) (L) (subF (by (repeat (first | exact List.Sublist.refl _ | apply List.Sublist.cons_cons | apply List.Sublist.cons)); done)) (⟨by simp only [tupled, ofK]; congr 1; grind, rfl, rfl⟩)
                  · try simp only [decide_eq_true_eq, decide_eq_false_iff_not, beq_iff_eq, bne_iff_ne, ne_eq, beq_eq_false_iff_ne, bne_eq_false_iff_eq, Bool.not_eq_true', Bool.not_eq_false', Bool.not_eq_true, Bool.not_eq_false, Decidable.not_not, Int.not_lt, Int.not_le] at h12
                    refine skip ?_
                    refine n_in ?_
                    refine n_then ?_
                    refine seq ?_
                    refine region ?_
                    refine op (y (x_assign rfl) rfl ?_)
                    refine nil ?_
                    refine n_then ?_
                    refine ret ?_
                    exact done rfl (.tmp rfl (.nil)) (Ro.le.refl _) (L) (subF (by (repeat (first | exact List.Sublist.refl _ | apply List.Sublist.cons_cons | apply List.Sublist.cons)); done)) (⟨by simp only [tupled, ofK]; congr 1; grind, rfl, rfl⟩)
                · try simp only [decide_eq_true_eq, decide_eq_false_iff_not, beq_iff_eq, bne_iff_ne, ne_eq, beq_eq_false_iff_ne, bne_eq_false_iff_eq, Bool.not_eq_true', Bool.not_eq_false', Bool.not_eq_true, Bool.not_eq_false, Decidable.not_not, Int.not_lt, Int.not_le] at h12
                  refine region ?_
                  refine op (y (x_eql rfl rfl) rfl ?_)
                  refine op (y (x_assign rfl) rfl ?_)
                  refine nil ?_
                  refine n_then ?_
                  refine cond rfl (fun h13 => ?_) (fun h13 => ?_)
                  · try simp only [decide_eq_true_eq, decide_eq_false_iff_not, beq_iff_eq, bne_iff_ne, ne_eq, beq_eq_false_iff_ne, bne_eq_false_iff_eq, Bool.not_eq_true', Bool.not_eq_false', Bool.not_eq_true, Bool.not_eq_false, Decidable.not_not, Int.not_lt, Int.not_le] at h13
                    refine seq ?_
                    refine region ?_
                    refine op (y (x_assign rfl) rfl ?_)
                    refine nil ?_
                    refine n_then ?_
                    refine ret ?_
                    refine r_in ?_
                    refine r_then ?_
                    exact done rfl (.tmp rfl (.nil)) (Ro.le.refl _) (L) (subF (by (repeat (first | exact List.Sublist.refl _ | apply List.Sublist.cons_cons | apply List.Sublist.cons)); done)) (⟨by simp only [tupled, ofK]; congr 1; grind, rfl, rfl⟩)
                  · try simp only [decide_eq_true_eq, decide_eq_false_iff_not, beq_iff_eq, bne_iff_ne, ne_eq, beq_eq_false_iff_ne, bne_eq_false_iff_eq, Bool.not_eq_true', Bool.not_eq_false', Bool.not_eq_true, Bool.not_eq_false, Decidable.not_not, Int.not_lt, Int.not_le] at h13
                    refine skip ?_
                    refine n_in ?_
                    refine n_then ?_
                    refine seq ?_
                    refine region ?_
                    refine op (y (x_assign rfl) rfl ?_)
                    refine nil ?_
                    refine n_then ?_
                    refine ret ?_
                    exact done rfl (.tmp rfl (.nil)) (Ro.le.refl _) (L) (subF (by (repeat (first | exact List.Sublist.refl _ | apply List.Sublist.cons_cons | apply List.Sublist.cons)); done)) (⟨by simp only [tupled, ofK]; congr 1; grind, rfl, rfl⟩)
      · try simp only [decide_eq_true_eq, decide_eq_false_iff_not, beq_iff_eq, bne_iff_ne, ne_eq, beq_eq_false_iff_ne, bne_eq_false_iff_eq, Bool.not_eq_true', Bool.not_eq_false', Bool.not_eq_true, Bool.not_eq_false, Decidable.not_not, Int.not_lt, Int.not_le] at h5
        refine region ?_
        refine op (y (x_eql rfl rfl) rfl ?_)
        refine op (y (x_assign rfl) rfl ?_)
        refine nil ?_
        refine n_then ?_
        refine cond rfl (fun h6 => ?_) (fun h6 => ?_)
        · try simp only [decide_eq_true_eq, decide_eq_false_iff_not, beq_iff_eq, bne_iff_ne, ne_eq, beq_eq_false_iff_ne, bne_eq_false_iff_eq, Bool.not_eq_true', Bool.not_eq_false', Bool.not_eq_true, Bool.not_eq_false, Decidable.not_not, Int.not_lt, Int.not_le] at h6
          refine seq ?_
          refine region ?_
          refine op (y (x_assign rfl) rfl ?_)
          refine nil ?_
          refine n_then ?_
          refine ret ?_
          refine r_in ?_
          refine r_then ?_
          exact done rfl (.tmp rfl (.nil)) (Ro.le.refl _) (L) (subF (by (repeat (first | exact List.Sublist.refl _ | apply List.Sublist.cons_cons | apply List.Sublist.cons)); done)) (⟨by simp only [tupled, ofK]; congr 1; grind, rfl, rfl⟩)
        · try simp only [decide_eq_true_eq, decide_eq_false_iff_not, beq_iff_eq, bne_iff_ne, ne_eq, beq_eq_false_iff_ne, bne_eq_false_iff_eq, Bool.not_eq_true', Bool.not_eq_false', Bool.not_eq_true, Bool.not_eq_false, Decidable.not_not, Int.not_lt, Int.not_le] at h6
          refine seq ?_
          refine seq ?_
          refine region ?_
          refine op (y (x_eql rfl rfl) rfl ?_)
          refine op (y (x_assign rfl) rfl ?_)
          refine nil ?_
          refine n_then ?_
          refine cond rfl (fun h8 => ?_) (fun h8 => ?_)
          · try simp only [decide_eq_true_eq, decide_eq_false_iff_not, beq_iff_eq, bne_iff_ne, ne_eq, beq_eq_false_iff_ne, bne_eq_false_iff_eq, Bool.not_eq_true', Bool.not_eq_false', Bool.not_eq_true, Bool.not_eq_false, Decidable.not_not, Int.not_lt, Int.not_le] at h8
            refine skip ?_
            refine n_then ?_
            refine cond rfl (fun h8 => ?_) (fun h8 => ?_)
            · try simp only [decide_eq_true_eq, decide_eq_false_iff_not, beq_iff_eq, bne_iff_ne, ne_eq, beq_eq_false_iff_ne, bne_eq_false_iff_eq, Bool.not_eq_true', Bool.not_eq_false', Bool.not_eq_true, Bool.not_eq_false, Decidable.not_not, Int.not_lt, Int.not_le] at h8
              refine seq ?_
              refine region ?_
              refine op (y (x_assign rfl) rfl ?_)
              refine nil ?_
              refine n_then ?_
              refine ret ?_
              refine r_in ?_
              refine r_then ?_
              exact done rfl (.tmp rfl (.nil)) (Ro.le.refl _) (L) (subF (by (repeat (first | exact List.Sublist.refl _ | apply List.Sublist.cons_cons | apply List.Sublist.cons)); done)) (⟨by simp only [tupled, ofK]; congr 1; grind, rfl, rfl⟩)
            · try simp only [decide_eq_true_eq, decide_eq_false_iff_not, beq_iff_eq, bne_iff_ne, ne_eq, beq_eq_false_iff_ne, bne_eq_false_iff_eq, Bool.not_eq_true', Bool.not_eq_false', Bool.not_eq_true, Bool.not_eq_false, Decidable.not_not, Int.not_lt, Int.not_le] at h8
              refine seq ?_
              refine seq ?_
              refine region ?_
              refine op (y (x_eql rfl rfl) rfl ?_)
              refine op (y (x_assign rfl) rfl ?_)
              refine nil ?_
              refine n_then ?_
              refine cond rfl (fun h11 => ?_) (fun h11 => ?_)
              · try simp only [decide_eq_true_eq, decide_eq_false_iff_not, beq_iff_eq, bne_iff_ne, ne_eq, beq_eq_false_iff_ne, bne_eq_false_iff_eq, Bool.not_eq_true', Bool.not_eq_false', Bool.not_eq_true, Bool.not_eq_false, Decidable.not_not, Int.not_lt, Int.not_le] at h11
                refine skip ?_
                refine n_then ?_
                refine cond rfl (fun h11 => ?_) (fun h11 => ?_)
                · try simp only [decide_eq_true_eq, decide_eq_false_iff_not, beq_iff_eq, bne_iff_ne, ne_eq, beq_eq_false_iff_ne, bne_eq_false_iff_eq, Bool.not_eq_true', Bool.not_eq_false', Bool.not_eq_true, Bool.not_eq_false, Decidable.not_not, Int.not_lt, Int.not_le] at h11
                  refine seq ?_
                  refine region ?_
                  refine op (y (x_assign rfl) rfl ?_)
                  refine nil ?_
                  refine n_then ?_
                  refine ret ?_
                  refine r_in ?_
                  refine r_then ?_
                  exact done rfl (.tmp rfl (.nil)) (Ro.le.refl _) (L) (subF (by (repeat (first | exact List.Sublist.refl _ | apply List.Sublist.cons_cons | apply List.Sublist.cons)); done)) (⟨by simp only [tupled, ofK]; congr 1; grind, rfl, rfl⟩)
                · try simp only [decide_eq_true_eq, decide_eq_false_iff_not, beq_iff_eq, bne_iff_ne, ne_eq, beq_eq_false_iff_ne, bne_eq_false_iff_eq, Bool.not_eq_true', Bool.not_eq_false', Bool.not_eq_true, Bool.not_eq_false, Decidable.not_not, Int.not_lt, Int.not_le] at h11
                  refine skip ?_
                  refine n_in ?_
                  refine n_then ?_
                  refine seq ?_
                  refine region ?_
                  refine op (y (x_assign rfl) rfl ?_)
                  refine nil ?_
                  refine n_then ?_
                  refine ret ?_
                  exact done rfl (.tmp rfl (.nil)) (Ro.le.refl _) (L) (subF (by (repeat (first | exact List.Sublist.refl _ | apply List.Sublist.cons_cons | apply List.Sublist.cons)); done)) (⟨by simp only [tupled, ofK]; congr 1; grind, rfl, rfl⟩)
              · try simp only [decide_eq_true_eq, decide_eq_false_iff_not, beq_iff_eq, bne_iff_ne, ne_eq, beq_eq_false_iff_ne, bne_eq_false_iff_eq, Bool.not_eq_true', Bool.not_eq_false', Bool.not_eq_true, Bool.not_eq_false, Decidable.not_not, Int.not_lt, Int.not_le] at h11
                refine seq ?_
                refine region ?_
                refine op (y (x_eql rfl rfl) rfl ?_)
                refine op (y (x_assign rfl) rfl ?_)
                refine nil ?_
                refine n_then ?_
                refine cond rfl (fun h12 => ?_) (fun h12 => ?_)
                · try simp only [decide_eq_true_eq, decide_eq_false_iff_not, beq_iff_eq, bne_iff_ne, ne_eq, beq_eq_false_iff_ne, bne_eq_false_iff_eq, Bool.not_eq_true', Bool.not_eq_false', Bool.not_eq_true, Bool.not_eq_false, Decidable.not_not, Int.not_lt, Int.not_le] at h12
                  refine skip ?_
                  refine n_then ?_
                  refine cond rfl (fun h12 => ?_) (fun h12 => ?_)
                  · try simp only [decide_eq_true_eq, decide_eq_false_iff_not, beq_iff_eq, bne_iff_ne, ne_eq, beq_eq_false_iff_ne, bne_eq_false_iff_eq, Bool.not_eq_true', Bool.not_eq_false', Bool.not_eq_true, Bool.not_eq_false, Decidable.not_not, Int.not_lt, Int.not_le] at h12
                    refine seq ?_
                    refine region ?_
                    refine op (y (x_assign rfl) rfl ?_)
                    refine nil ?_
                    refine n_then ?_
                    refine ret ?_
                    refine r_in ?_
                    refine r_then ?_
                    exact done rfl (.tmp rfl (.nil)) (Ro.le.refl _) (L) (subF (by (repeat (first | exact List.Sublist.refl _ | apply List.Sublist.cons_cons | apply List.Sublist.cons)); done)) (⟨by simp only [tupled, ofK]; congr 1; grind, rfl, rfl⟩)
                  · try simp only [decide_eq_true_eq, decide_eq_false_iff_not, beq_iff_eq, bne_iff_ne, ne_eq, beq_eq_false_iff_ne, bne_eq_false_iff_eq, Bool.not_eq_true', Bool.not_eq_false', Bool.not_eq_true, Bool.not_eq_false, Decidable.not_not, Int.not_lt, Int.not_le] at h12
                    refine skip ?_
                    refine n_in ?_
                    refine n_then ?_
                    refine seq ?_
                    refine region ?_
                    refine op (y (x_assign rfl) rfl ?_)
                    refine nil ?_
                    refine n_then ?_
                    refine ret ?_
                    exact done rfl (.tmp rfl (.nil)) (Ro.le.refl _) (L) (subF (by (repeat (first | exact List.Sublist.refl _ | apply List.Sublist.cons_cons | apply List.Sublist.cons)); done)) (⟨by simp only [tupled, ofK]; congr 1; grind, rfl, rfl⟩)
                · try simp only [decide_eq_true_eq, decide_eq_false_iff_not, beq_iff_eq, bne_iff_ne, ne_eq, beq_eq_false_iff_ne, bne_eq_false_iff_eq, Bool.not_eq_true', Bool.not_eq_false', Bool.not_eq_true, Bool.not_eq_false, Decidable.not_not, Int.not_lt, Int.not_le] at h12
                  refine region ?_
                  refine op (y (x_eql rfl rfl) rfl ?_)
                  refine op (y (x_assign rfl) rfl ?_)
                  refine nil ?_
                  refine n_then ?_
                  refine cond rfl (fun h13 => ?_) (fun h13 => ?_)
                  · try simp only [decide_eq_true_eq, decide_eq_false_iff_not, beq_iff_eq, bne_iff_ne, ne_eq, beq_eq_false_iff_ne, bne_eq_false_iff_eq, Bool.not_eq_true', Bool.not_eq_false', Bool.not_eq_true, Bool.not_eq_false, Decidable.not_not, Int.not_lt, Int.not_le] at h13
                    refine seq ?_
                    refine region ?_
                    refine op (y (x_assign rfl) rfl ?_)
                    refine nil ?_
                    refine n_then ?_
                    refine ret ?_
                    refine r_in ?_
                    refine r_then ?_
                    exact done rfl (.tmp rfl (.nil)) (Ro.le.refl _) (L) (subF (by (repeat (first | exact List.Sublist.refl _ | apply List.Sublist.cons_cons | apply List.Sublist.cons)); done)) (⟨by simp only [tupled, ofK]; congr 1; grind, rfl, rfl⟩)
                  · try simp only [decide_eq_true_eq, decide_eq_false_iff_not, beq_iff_eq, bne_iff_ne, ne_eq, beq_eq_false_iff_ne, bne_eq_false_iff_eq, Bool.not_eq_true', Bool.not_eq_false', Bool.not_eq_true, Bool.not_eq_false, Decidable.not_not, Int.not_lt, Int.not_le] at h13
                    refine skip ?_
                    refine n_in ?_
                    refine n_then ?_
                    refine seq ?_
                    refine region ?_
                    refine op (y (x_assign rfl) rfl ?_)
                    refine nil ?_
                    refine n_then ?_
                    refine ret ?_
                    exact done rfl (.tmp rfl (.nil)) (Ro.le.refl _) (L) (subF (by (repeat (first | exact List.Sublist.refl _ | apply List.Sublist.cons_cons | apply List.Sublist.cons)); done)) (⟨by simp only [tupled, ofK]; congr 1; grind, rfl, rfl⟩)
          · try simp only [decide_eq_true_eq, decide_eq_false_iff_not, beq_iff_eq, bne_iff_ne, ne_eq, beq_eq_false_iff_ne, bne_eq_false_iff_eq, Bool.not_eq_true', Bool.not_eq_false', Bool.not_eq_true, Bool.not_eq_false, Decidable.not_not, Int.not_lt, Int.not_le] at h8
            refine region ?_
            refine op (y (x_eql rfl rfl) rfl ?_)
            refine op (y (x_assign rfl) rfl ?_)
            refine nil ?_
            refine n_then ?_
            refine cond rfl (fun h9 => ?_) (fun h9 => ?_)
            · try simp only [decide_eq_true_eq, decide_eq_false_iff_not, beq_iff_eq, bne_iff_ne, ne_eq, beq_eq_false_iff_ne, bne_eq_false_iff_eq, Bool.not_eq_true', Bool.not_eq_false', Bool.not_eq_true, Bool.not_eq_false, Decidable.not_not, Int.not_lt, Int.not_le] at h9
              refine seq ?_
              refine region ?_
              refine op (y (x_assign rfl) rfl ?_)
              refine nil ?_
              refine n_then ?_
              refine ret ?_
              refine r_in ?_
              refine r_then ?_
              exact done rfl (.tmp rfl (.nil)) (Ro.le.refl _) (L) (subF (by (repeat (first | exact List.Sublist.refl _ | apply List.Sublist.cons_cons | apply List.Sublist.cons)); done)) (⟨by simp only [tupled, ofK]; congr 1; grind, rfl, rfl⟩)
            · try simp only [decide_eq_true_eq, decide_eq_false_iff_not, beq_iff_eq, bne_iff_ne, ne_eq, beq_eq_false_iff_ne, bne_eq_false_iff_eq, Bool.not_eq_true', Bool.not_eq_false', Bool.not_eq_true, Bool.not_eq_false, Decidable.not_not, Int.not_lt, Int.not_le] at h9
              refine seq ?_
              refine seq ?_
              refine region ?_
              refine op (y (x_eql rfl rfl) rfl ?_)
              refine op (y (x_assign rfl) rfl ?_)
              refine nil ?_
              refine n_then ?_
              refine cond rfl (fun h11 => ?_) (fun h11 => ?_)
              · try simp only [decide_eq_true_eq, decide_eq_false_iff_not, beq_iff_eq, bne_iff_ne, ne_eq, beq_eq_false_iff_ne, bne_eq_false_iff_eq, Bool.not_eq_true', Bool.not_eq_false', Bool.not_eq_true, Bool.not_eq_false, Decidable.not_not, Int.not_lt, Int.not_le] at h11
                refine skip ?_
                refine n_then ?_
                refine cond rfl (fun h11 => ?_) (fun h11 => ?_)
                · try simp only [decide_eq_true_eq, decide_eq_false_iff_not, beq_iff_eq, bne_iff_ne, ne_eq, beq_eq_false_iff_ne, bne_eq_false_iff_eq, Bool.not_eq_true', Bool.not_eq_false', Bool.not_eq_true, Bool.not_eq_false, Decidable.not_not, Int.not_lt, Int.not_le] at h11
                  refine seq ?_
                  refine region ?_
                  refine op (y (x_assign rfl) rfl ?_)
                  refine nil ?_
                  refine n_then ?_
                  refine ret ?_
                  refine r_in ?_
                  refine r_then ?_
                  exact done rfl (.tmp rfl (.nil)) (Ro.le.refl _) (L) (subF (by (repeat (first | exact List.Sublist.refl _ | apply List.Sublist.cons_cons | apply List.Sublist.cons)); done)) (⟨by simp only [tupled, ofK]; congr 1; grind, rfl, rfl⟩)
                · try simp only [decide_eq_true_eq, decide_eq_false_iff_not, beq_iff_eq, bne_iff_ne, ne_eq, beq_eq_false_iff_ne, bne_eq_false_iff_eq, Bool.not_eq_true', Bool.not_eq_false', Bool.not_eq_true, Bool.not_eq_false, Decidable.not_not, Int.not_lt, Int.not_le] at h11
                  refine skip ?_
                  refine n_in ?_
                  refine n_then ?_
                  refine seq ?_
                  refine region ?_
                  refine op (y (x_assign rfl) rfl ?_)
                  refine nil ?_
                  refine n_then ?_
                  refine ret ?_
                  exact done rfl (.tmp rfl (.nil)) (Ro.le.refl _) (L) (subF (by (repeat (first | exact List.Sublist.refl _ | apply List.Sublist.cons_cons | apply List.Sublist.cons)); done)) (⟨by simp only [tupled, ofK]; congr 1; grind, rfl, rfl⟩)
              · try simp only [decide_eq_true_eq, decide_eq_false_iff_not, beq_iff_eq, bne_iff_ne, ne_eq, beq_eq_false_iff_ne, bne_eq_false_iff_eq, Bool.not_eq_true', Bool.not_eq_false', Bool.not_eq_true, Bool.not_eq_false, Decidable.not_not, Int.not_lt, Int.not_le] at h11
                refine seq ?_
                refine region ?_
                refine op (y (x_eql rfl rfl) rfl ?_)
                refine op (y (x_assign rfl) rfl ?_)
                refine nil ?_
                refine n_then ?_
                refine cond rfl (fun h12 => ?_) (fun h12 => ?_)
                · try simp only [decide_eq_true_eq, decide_eq_false_iff_not, beq_iff_eq, bne_iff_ne, ne_eq, beq_eq_false_iff_ne, bne_eq_false_iff_eq, Bool.not_eq_true', Bool.not_eq_false', Bool.not_eq_true, Bool.not_eq_false, Decidable.not_not, Int.not_lt, Int.not_le] at h12
                  refine skip ?_
                  refine n_then ?_
                  refine cond rfl (fun h12 => ?_) (fun h12 => ?_)
                  · try simp only [decide_eq_true_eq, decide_eq_false_iff_not, beq_iff_eq, bne_iff_ne, ne_eq, beq_eq_false_iff_ne, bne_eq_false_iff_eq, Bool.not_eq_true', Bool.not_eq_false', Bool.not_eq_true, Bool.not_eq_false, Decidable.not_not, Int.not_lt, Int.not_le] at h12
                    refine seq ?_
                    refine region ?_
                    refine op (y (x_assign rfl) rfl ?_)
                    refine nil ?_
                    refine n_then ?_
                    refine ret ?_
                    refine r_in ?_
                    refine r_then ?_
                    exact done rfl (.tmp rfl (.nil)) (Ro.le.refl _) (L) (subF (by (repeat (first | exact List.Sublist.refl _ | apply List.Sublist.cons_cons | apply List.Sublist.cons)); done)) (⟨by simp only [tupled, ofK]; congr 1; grind, rfl, rfl⟩)
                  · try simp only [decide_eq_true_eq, decide_eq_false_iff_not, beq_iff_eq, bne_iff_ne, ne_eq, beq_eq_false_iff_ne, bne_eq_false_iff_eq, Bool.not_eq_true', Bool.not_eq_false', Bool.not_eq_true, Bool.not_eq_false, Decidable.not_not, Int.not_lt, Int.not_le] at h12
                    refine skip ?_
                    refine n_in ?_
                    refine n_then ?_
                    refine seq ?_
                    refine region ?_
                    refine op (y (x_assign rfl) rfl ?_)
                    refine nil ?_
                    refine n_then ?_
                    refine ret ?_
                    exact done rfl (.tmp rfl (.nil)) (Ro.le.refl _) (L) (subF (by (repeat (first | exact List.Sublist.refl _ | apply List.Sublist.cons_cons | apply List.Sublist.cons)); done)) (⟨by simp only [tupled, ofK]; congr 1; grind, rfl, rfl⟩)
                · try simp only [decide_eq_true_eq, decide_eq_false_iff_not, beq_iff_eq, bne_iff_ne, ne_eq, beq_eq_false_iff_ne, bne_eq_false_iff_eq, Bool.not_eq_true', Bool.not_eq_false', Bool.not_eq_true, Bool.not_eq_false, Decidable.not_not, Int.not_lt, Int.not_le] at h12
                  refine region ?_
                  refine op (y (x_eql rfl rfl) rfl ?_)
                  refine op (y (x_assign rfl) rfl ?_)
                  refine nil ?_
                  refine n_then ?_
                  refine cond rfl (fun h13 => ?_) (fun h13 => ?_)
                  · try simp only [decide_eq_true_eq, decide_eq_false_iff_not, beq_iff_eq, bne_iff_ne, ne_eq, beq_eq_false_iff_ne, bne_eq_false_iff_eq, Bool.not_eq_true', Bool.not_eq_false', Bool.not_eq_true, Bool.not_eq_false, Decidable.not_not, Int.not_lt, Int.not_le] at h13
                    refine seq ?_
                    refine region ?_
                    refine op (y (x_assign rfl) rfl ?_)
                    refine nil ?_
                    refine n_then ?_
                    refine ret ?_
                    refine r_in ?_
                    refine r_then ?_
                    exact done rfl (.tmp rfl (.nil)) (Ro.le.refl _) (L) (subF (by (repeat (first | exact List.Sublist.refl _ | apply List.Sublist.cons_cons | apply List.Sublist.cons)); done)) (⟨by simp only [tupled, ofK]; congr 1; grind, rfl, rfl⟩)
                  · try simp only [decide_eq_true_eq, decide_eq_false_iff_not, beq_iff_eq, bne_iff_ne, ne_eq, beq_eq_false_iff_ne, bne_eq_false_iff_eq, Bool.not_eq_true', Bool.not_eq_false', Bool.not_eq_true, Bool.not_eq_false, Decidable.not_not, Int.not_lt, Int.not_le] at h13
                    refine skip ?_
                    refine n_in ?_
                    refine n_then ?_
                    refine seq ?_
                    refine region ?_
                    refine op (y (x_assign rfl) rfl ?_)
                    refine nil ?_
                    refine n_then ?_
                    refine ret ?_
                    exact done rfl (.tmp rfl (.nil)) (Ro.le.refl _) (L) (subF (by (repeat (first | exact List.Sublist.refl _ | apply List.Sublist.cons_cons | apply List.Sublist.cons)); done)) (⟨by simp only [tupled, ofK]; congr 1; grind, rfl, rfl⟩)

theorem Keyed_c (o : Int) (ro : Ro) (L : List (List Blk)) : CT Tryd.prog 79 [.int .i64 o].toArray ro L (PQ (.bool (keyed o)) ro L) := by
  refine enter Tryd.func79 rfl Tryd.ntmps79 rfl ?_
  refine seq ?_
  refine region ?_
  refine op (y (x_assign rfl) rfl ?_)
  refine nil ?_
  refine n_then ?_
  refine seq ?_
  refine region ?_
  refine op (y (x_move rfl) rfl ?_)
  refine op (y (x_eql rfl rfl) rfl ?_)
  refine op (y (x_move rfl) rfl ?_)
  refine bsplit 5 rfl (fun g5 => ?_) (fun g5 => ?_)
  · try simp only [decide_eq_true_eq, decide_eq_false_iff_not, beq_iff_eq, bne_iff_ne, ne_eq, beq_eq_false_iff_ne, bne_eq_false_iff_eq, Bool.not_eq_true', Bool.not_eq_false', Bool.not_eq_true, Bool.not_eq_false, Decidable.not_not, Int.not_lt, Int.not_le] at g5
    refine opN rfl rfl rfl rfl ?_
    refine opN rfl rfl rfl rfl ?_
    refine op (y (x_pickT rfl rfl) rfl ?_)
    refine op (y (x_move rfl) rfl ?_)
    refine opN rfl rfl rfl rfl ?_
    refine opN rfl rfl rfl rfl ?_
    refine op (y (x_pickT rfl rfl) rfl ?_)
    refine op (y (x_assign rfl) rfl ?_)
    refine nil ?_
    refine n_then ?_
    refine ret ?_
    exact done rfl (.tmp rfl (.nil)) (Ro.le.refl _) (L) (subF (by (repeat (first | exact List.Sublist.refl _ | apply List.Sublist.cons_cons | apply List.Sublist.cons)); done)) (⟨by simp only [tupled, keyed, beq_dec]; congr 1; grind, rfl, rfl⟩)
  · try simp only [decide_eq_true_eq, decide_eq_false_iff_not, beq_iff_eq, bne_iff_ne, ne_eq, beq_eq_false_iff_ne, bne_eq_false_iff_eq, Bool.not_eq_true', Bool.not_eq_false', Bool.not_eq_true, Bool.not_eq_false, Decidable.not_not, Int.not_lt, Int.not_le] at g5
    refine opG rfl rfl (y (x_move rfl) rfl ?_)
    refine opG rfl rfl (y (x_eql rfl rfl) rfl ?_)
    refine op (y (x_pickF rfl rfl) rfl ?_)
    refine op (y (x_move rfl) rfl ?_)
    refine bsplit 9 rfl (fun g9 => ?_) (fun g9 => ?_)
    · try simp only [decide_eq_true_eq, decide_eq_false_iff_not, beq_iff_eq, bne_iff_ne, ne_eq, beq_eq_false_iff_ne, bne_eq_false_iff_eq, Bool.not_eq_true', Bool.not_eq_false', Bool.not_eq_true, Bool.not_eq_false, Decidable.not_not, Int.not_lt, Int.not_le] at g9
      refine opN rfl rfl rfl rfl ?_
      refine opN rfl rfl rfl rfl ?_
      refine op (y (x_pickT rfl rfl) rfl ?_)
      refine op (y (x_assign rfl) rfl ?_)
      refine nil ?_
      refine n_then ?_
      refine ret ?_
      exact done rfl (.tmp rfl (.nil)) (Ro.le.refl _) (L) (subF (by (repeat (first | exact List.Sublist.refl _ | apply List.Sublist.cons_cons | apply List.Sublist.cons)); done)) (⟨by simp only [tupled, keyed, beq_dec]; congr 1; grind, rfl, rfl⟩)
    · try simp only [decide_eq_true_eq, decide_eq_false_iff_not, beq_iff_eq, bne_iff_ne, ne_eq, beq_eq_false_iff_ne, bne_eq_false_iff_eq, Bool.not_eq_true', Bool.not_eq_false', Bool.not_eq_true, Bool.not_eq_false, Decidable.not_not, Int.not_lt, Int.not_le] at g9
      refine opG rfl rfl (y (x_move rfl) rfl ?_)
      refine opG rfl rfl (y (x_eql rfl rfl) rfl ?_)
      refine op (y (x_pickF rfl rfl) rfl ?_)
      refine op (y (x_assign rfl) rfl ?_)
      refine nil ?_
      refine n_then ?_
      refine ret ?_
      exact done rfl (.tmp rfl (.nil)) (Ro.le.refl _) (L) (subF (by (repeat (first | exact List.Sublist.refl _ | apply List.Sublist.cons_cons | apply List.Sublist.cons)); done)) (⟨by simp only [tupled, keyed, beq_dec]; congr 1; grind, rfl, rfl⟩)

theorem Valued_c (o : Int) (ro : Ro) (L : List (List Blk)) : CT Tryd.prog 81 [.int .i64 o].toArray ro L (PQ (.bool (valued o)) ro L) := by
  refine enter Tryd.func81 rfl Tryd.ntmps81 rfl ?_
  refine seq ?_
  refine region ?_
  refine op (y (x_assign rfl) rfl ?_)
  refine nil ?_
  refine n_then ?_
  refine seq ?_
  refine region ?_
  refine op (y (x_move rfl) rfl ?_)
  refine op (y (x_eql rfl rfl) rfl ?_)
  refine op (y (x_move rfl) rfl ?_)
  refine bsplit 5 rfl (fun g5 => ?_) (fun g5 => ?_)
  · try simp only [decide_eq_true_eq, decide_eq_false_iff_not, beq_iff_eq, bne_iff_ne, ne_eq, beq_eq_false_iff_ne, bne_eq_false_iff_eq, Bool.not_eq_true', Bool.not_eq_false', Bool.not_eq_true, Bool.not_eq_false, Decidable.not_not, Int.not_lt, Int.not_le] at g5
    refine opN rfl rfl rfl rfl ?_
    refine opN rfl rfl rfl rfl ?_
    refine op (y (x_pickT rfl rfl) rfl ?_)
    refine op (y (x_move rfl) rfl ?_)
    refine opN rfl rfl rfl rfl ?_
    refine opN rfl rfl rfl rfl ?_
    refine op (y (x_pickT rfl rfl) rfl ?_)
    refine op (y (x_move rfl) rfl ?_)
    refine opN rfl rfl rfl rfl ?_
    refine opN rfl rfl rfl rfl ?_
    refine op (y (x_pickT rfl rfl) rfl ?_)
    refine op (y (x_assign rfl) rfl ?_)
    refine nil ?_
    refine n_then ?_
    refine ret ?_
    exact done rfl (.tmp rfl (.nil)) (Ro.le.refl _) (L) (subF (by (repeat (first | exact List.Sublist.refl _ | apply List.Sublist.cons_cons | apply List.Sublist.cons)); done)) (⟨by simp only [tupled, valued, beq_dec]; congr 1; grind, rfl, rfl⟩)
  · try simp only [decide_eq_true_eq, decide_eq_false_iff_not, beq_iff_eq, bne_iff_ne, ne_eq, beq_eq_false_iff_ne, bne_eq_false_iff_eq, Bool.not_eq_true', Bool.not_eq_false', Bool.not_eq_true, Bool.not_eq_false, Decidable.not_not, Int.not_lt, Int.not_le] at g5
    refine opG rfl rfl (y (x_move rfl) rfl ?_)
    refine opG rfl rfl (y (x_eql rfl rfl) rfl ?_)
    refine op (y (x_pickF rfl rfl) rfl ?_)
    refine op (y (x_move rfl) rfl ?_)
    refine bsplit 9 rfl (fun g9 => ?_) (fun g9 => ?_)
    · try simp only [decide_eq_true_eq, decide_eq_false_iff_not, beq_iff_eq, bne_iff_ne, ne_eq, beq_eq_false_iff_ne, bne_eq_false_iff_eq, Bool.not_eq_true', Bool.not_eq_false', Bool.not_eq_true, Bool.not_eq_false, Decidable.not_not, Int.not_lt, Int.not_le] at g9
      refine opN rfl rfl rfl rfl ?_
      refine opN rfl rfl rfl rfl ?_
      refine op (y (x_pickT rfl rfl) rfl ?_)
      refine op (y (x_move rfl) rfl ?_)
      refine opN rfl rfl rfl rfl ?_
      refine opN rfl rfl rfl rfl ?_
      refine op (y (x_pickT rfl rfl) rfl ?_)
      refine op (y (x_assign rfl) rfl ?_)
      refine nil ?_
      refine n_then ?_
      refine ret ?_
      exact done rfl (.tmp rfl (.nil)) (Ro.le.refl _) (L) (subF (by (repeat (first | exact List.Sublist.refl _ | apply List.Sublist.cons_cons | apply List.Sublist.cons)); done)) (⟨by simp only [tupled, valued, beq_dec]; congr 1; grind, rfl, rfl⟩)
    · try simp only [decide_eq_true_eq, decide_eq_false_iff_not, beq_iff_eq, bne_iff_ne, ne_eq, beq_eq_false_iff_ne, bne_eq_false_iff_eq, Bool.not_eq_true', Bool.not_eq_false', Bool.not_eq_true, Bool.not_eq_false, Decidable.not_not, Int.not_lt, Int.not_le] at g9
      refine opG rfl rfl (y (x_move rfl) rfl ?_)
      refine opG rfl rfl (y (x_eql rfl rfl) rfl ?_)
      refine op (y (x_pickF rfl rfl) rfl ?_)
      refine op (y (x_move rfl) rfl ?_)
      refine bsplit 13 rfl (fun g13 => ?_) (fun g13 => ?_)
      · try simp only [decide_eq_true_eq, decide_eq_false_iff_not, beq_iff_eq, bne_iff_ne, ne_eq, beq_eq_false_iff_ne, bne_eq_false_iff_eq, Bool.not_eq_true', Bool.not_eq_false', Bool.not_eq_true, Bool.not_eq_false, Decidable.not_not, Int.not_lt, Int.not_le] at g13
        refine opN rfl rfl rfl rfl ?_
        refine opN rfl rfl rfl rfl ?_
        refine op (y (x_pickT rfl rfl) rfl ?_)
        refine op (y (x_assign rfl) rfl ?_)
        refine nil ?_
        refine n_then ?_
        refine ret ?_
        exact done rfl (.tmp rfl (.nil)) (Ro.le.refl _) (L) (subF (by (repeat (first | exact List.Sublist.refl _ | apply List.Sublist.cons_cons | apply List.Sublist.cons)); done)) (⟨by simp only [tupled, valued, beq_dec]; congr 1; grind, rfl, rfl⟩)
      · try simp only [decide_eq_true_eq, decide_eq_false_iff_not, beq_iff_eq, bne_iff_ne, ne_eq, beq_eq_false_iff_ne, bne_eq_false_iff_eq, Bool.not_eq_true', Bool.not_eq_false', Bool.not_eq_true, Bool.not_eq_false, Decidable.not_not, Int.not_lt, Int.not_le] at g13
        refine opG rfl rfl (y (x_move rfl) rfl ?_)
        refine opG rfl rfl (y (x_eql rfl rfl) rfl ?_)
        refine op (y (x_pickF rfl rfl) rfl ?_)
        refine op (y (x_assign rfl) rfl ?_)
        refine nil ?_
        refine n_then ?_
        refine ret ?_
        exact done rfl (.tmp rfl (.nil)) (Ro.le.refl _) (L) (subF (by (repeat (first | exact List.Sublist.refl _ | apply List.Sublist.cons_cons | apply List.Sublist.cons)); done)) (⟨by simp only [tupled, valued, beq_dec]; congr 1; grind, rfl, rfl⟩)

theorem Fits_c (o r : Int) (ro : Ro) (L : List (List Blk)) : CT Tryd.prog 67 [.int .i64 o, .int .i64 r].toArray ro L (PQ (.bool (fitsK o r)) ro L) := by
  refine enter Tryd.func67 rfl Tryd.ntmps67 rfl ?_
  refine seq ?_
  refine region ?_
  refine op (y (x_assign rfl) rfl ?_)
  refine nil ?_
  refine n_then ?_
  refine seq ?_
  refine block ?_
  refine seq ?_
  refine region ?_
  refine op (y (x_move rfl) rfl ?_)
  refine op (e_call rfl fn_81 rfl rfl (Valued_c o _ _) fun v7 ro7 L7 hle7 hp7 => ?_)
  obtain ⟨rfl, rfl, rfl⟩ := hp7
  refine op (y (x_assign rfl) rfl ?_)
  refine nil ?_
  refine n_then ?_
  refine cond rfl (fun h1 => ?_) (fun h1 => ?_)
  · try simp only [decide_eq_true_eq, decide_eq_false_iff_not, beq_iff_eq, bne_iff_ne, ne_eq, beq_eq_false_iff_ne, bne_eq_false_iff_eq, Bool.not_eq_true', Bool.not_eq_false', Bool.not_eq_true, Bool.not_eq_false, Decidable.not_not, Int.not_lt, Int.not_le] at h1
    refine seq ?_
    refine region ?_
    refine op (y (x_move rfl) rfl ?_)
    refine op (y (x_eql rfl rfl) rfl ?_)
    refine op (y (x_assign rfl) rfl ?_)
    refine nil ?_
    refine n_then ?_
    refine ret ?_
    refine r_in ?_
    refine r_then ?_
    exact done rfl (.tmp rfl (.nil)) (Ro.le.refl _) (L) (subF (by (repeat (first | exact List.Sublist.refl _ | apply List.Sublist.cons_cons | apply List.Sublist.cons)); done)) (⟨by simp only [tupled, fitsK, beq_dec]; congr 1; grind, rfl, rfl⟩)
  · try simp only [decide_eq_true_eq, decide_eq_false_iff_not, beq_iff_eq, bne_iff_ne, ne_eq, beq_eq_false_iff_ne, bne_eq_false_iff_eq, Bool.not_eq_true', Bool.not_eq_false', Bool.not_eq_true, Bool.not_eq_false, Decidable.not_not, Int.not_lt, Int.not_le] at h1
    refine seq ?_
    refine region ?_
    refine op (y (x_move rfl) rfl ?_)
    refine op (y (x_eql rfl rfl) rfl ?_)
    refine op (y (x_move rfl) rfl ?_)
    refine bsplit 13 rfl (fun g13 => ?_) (fun g13 => ?_)
    · try simp only [decide_eq_true_eq, decide_eq_false_iff_not, beq_iff_eq, bne_iff_ne, ne_eq, beq_eq_false_iff_ne, bne_eq_false_iff_eq, Bool.not_eq_true', Bool.not_eq_false', Bool.not_eq_true, Bool.not_eq_false, Decidable.not_not, Int.not_lt, Int.not_le] at g13
      refine opN rfl rfl rfl rfl ?_
      refine opN rfl rfl rfl rfl ?_
      refine op (y (x_pickT rfl rfl) rfl ?_)
      refine op (y (x_assign rfl) rfl ?_)
      refine nil ?_
      refine n_then ?_
      refine condT rfl ?_
      refine seq ?_
      refine region ?_
      refine op (y (x_move rfl) rfl ?_)
      refine op (y (x_eql rfl rfl) rfl ?_)
      refine op (y (x_assign rfl) rfl ?_)
      refine nil ?_
      refine n_then ?_
      refine ret ?_
      refine r_in ?_
      refine r_then ?_
      exact done rfl (.tmp rfl (.nil)) (Ro.le.refl _) (L) (subF (by (repeat (first | exact List.Sublist.refl _ | apply List.Sublist.cons_cons | apply List.Sublist.cons)); done)) (⟨by simp only [tupled, fitsK, beq_dec]; congr 1; grind, rfl, rfl⟩)
    · try simp only [decide_eq_true_eq, decide_eq_false_iff_not, beq_iff_eq, bne_iff_ne, ne_eq, beq_eq_false_iff_ne, bne_eq_false_iff_eq, Bool.not_eq_true', Bool.not_eq_false', Bool.not_eq_true, Bool.not_eq_false, Decidable.not_not, Int.not_lt, Int.not_le] at g13
      refine opG rfl rfl (y (x_move rfl) rfl ?_)
      refine opG rfl rfl (y (x_eql rfl rfl) rfl ?_)
      refine op (y (x_pickF rfl rfl) rfl ?_)
      refine op (y (x_assign rfl) rfl ?_)
      refine nil ?_
      refine n_then ?_
      refine cond rfl (fun h3 => ?_) (fun h3 => ?_)
      · try simp only [decide_eq_true_eq, decide_eq_false_iff_not, beq_iff_eq, bne_iff_ne, ne_eq, beq_eq_false_iff_ne, bne_eq_false_iff_eq, Bool.not_eq_true', Bool.not_eq_false', Bool.not_eq_true, Bool.not_eq_false, Decidable.not_not, Int.not_lt, Int.not_le] at h3
        refine seq ?_
        refine region ?_
        refine op (y (x_move rfl) rfl ?_)
        refine op (y (x_eql rfl rfl) rfl ?_)
        refine op (y (x_assign rfl) rfl ?_)
        refine nil ?_
        refine n_then ?_
        refine ret ?_
        refine r_in ?_
        refine r_then ?_
        exact done rfl (.tmp rfl (.nil)) (Ro.le.refl _) (L) (subF (by (repeat (first | exact List.Sublist.refl _ | apply List.Sublist.cons_cons | apply List.Sublist.cons)); done)) (⟨by simp only [tupled, fitsK, beq_dec]; congr 1; grind, rfl, rfl⟩)
      · try simp only [decide_eq_true_eq, decide_eq_false_iff_not, beq_iff_eq, bne_iff_ne, ne_eq, beq_eq_false_iff_ne, bne_eq_false_iff_eq, Bool.not_eq_true', Bool.not_eq_false', Bool.not_eq_true, Bool.not_eq_false, Decidable.not_not, Int.not_lt, Int.not_le] at h3
        refine seq ?_
        refine region ?_
        refine op (y (x_move rfl) rfl ?_)
        refine op (y (x_eql rfl rfl) rfl ?_)
        refine op (y (x_move rfl) rfl ?_)
        refine bsplit 22 rfl (fun g22 => ?_) (fun g22 => ?_)
        · try simp only [decide_eq_true_eq, decide_eq_false_iff_not, beq_iff_eq, bne_iff_ne, ne_eq, beq_eq_false_iff_ne, bne_eq_false_iff_eq, Bool.not_eq_true', Bool.not_eq_false', Bool.not_eq_true, Bool.not_eq_false, Decidable.not_not, Int.not_lt, Int.not_le] at g22
          refine opN rfl rfl rfl rfl ?_
          refine opN rfl rfl rfl rfl ?_
          refine op (y (x_pickT rfl rfl) rfl ?_)
          refine op (y (x_move rfl) rfl ?_)
          refine opN rfl rfl rfl rfl ?_
          refine opN rfl rfl rfl rfl ?_
          refine op (y (x_pickT rfl rfl) rfl ?_)
          refine op (y (x_assign rfl) rfl ?_)
          refine nil ?_
          refine n_then ?_
          refine condT rfl ?_
          refine seq ?_
          refine region ?_
          refine op (y (x_move rfl) rfl ?_)
          refine op (y (x_eql rfl rfl) rfl ?_)
          refine op (y (x_move rfl) rfl ?_)
          refine bsplit 32 rfl (fun g32 => ?_) (fun g32 => ?_)
          · try simp only [decide_eq_true_eq, decide_eq_false_iff_not, beq_iff_eq, bne_iff_ne, ne_eq, beq_eq_false_iff_ne, bne_eq_false_iff_eq, Bool.not_eq_true', Bool.not_eq_false', Bool.not_eq_true, Bool.not_eq_false, Decidable.not_not, Int.not_lt, Int.not_le] at g32
            refine opN rfl rfl rfl rfl ?_
            refine opN rfl rfl rfl rfl ?_
            refine op (y (x_pickT rfl rfl) rfl ?_)
            refine op (y (x_assign rfl) rfl ?_)
            refine nil ?_
            refine n_then ?_
            refine ret ?_
            refine r_in ?_
            refine r_then ?_
            exact done rfl (.tmp rfl (.nil)) (Ro.le.refl _) (L) (subF (by (repeat (first | exact List.Sublist.refl _ | apply List.Sublist.cons_cons | apply List.Sublist.cons)); done)) (⟨by simp only [tupled, fitsK, beq_dec]; congr 1; grind, rfl, rfl⟩)
          · try simp only [decide_eq_true_eq, decide_eq_false_iff_not, beq_iff_eq, bne_iff_ne, ne_eq, beq_eq_false_iff_ne, bne_eq_false_iff_eq, Bool.not_eq_true', Bool.not_eq_false', Bool.not_eq_true, Bool.not_eq_false, Decidable.not_not, Int.not_lt, Int.not_le] at g32
            refine opG rfl rfl (y (x_move rfl) rfl ?_)
            refine opG rfl rfl (y (x_eql rfl rfl) rfl ?_)
            refine op (y (x_pickF rfl rfl) rfl ?_)
            refine op (y (x_assign rfl) rfl ?_)
            refine nil ?_
            refine n_then ?_
            refine ret ?_
            refine r_in ?_
            refine r_then ?_
            exact done rfl (.tmp rfl (.nil)) (Ro.le.refl _) (L) (subF (by (repeat (first | exact List.Sublist.refl _ | apply List.Sublist.cons_cons | apply List.Sublist.cons)); done)) (⟨by simp only [tupled, fitsK, beq_dec]; congr 1; grind, rfl, rfl⟩)
        · try simp only [decide_eq_true_eq, decide_eq_false_iff_not, beq_iff_eq, bne_iff_ne, ne_eq, beq_eq_false_iff_ne, bne_eq_false_iff_eq, Bool.not_eq_true', Bool.not_eq_false', Bool.not_eq_true, Bool.not_eq_false, Decidable.not_not, Int.not_lt, Int.not_le] at g22
          refine opG rfl rfl (y (x_move rfl) rfl ?_)
          refine opG rfl rfl (y (x_eql rfl rfl) rfl ?_)
          refine op (y (x_pickF rfl rfl) rfl ?_)
          refine op (y (x_move rfl) rfl ?_)
          refine bsplit 26 rfl (fun g26 => ?_) (fun g26 => ?_)
          · try simp only [decide_eq_true_eq, decide_eq_false_iff_not, beq_iff_eq, bne_iff_ne, ne_eq, beq_eq_false_iff_ne, bne_eq_false_iff_eq, Bool.not_eq_true', Bool.not_eq_false', Bool.not_eq_true, Bool.not_eq_false, Decidable.not_not, Int.not_lt, Int.not_le] at g26
            refine opN rfl rfl rfl rfl ?_
            refine opN rfl rfl rfl rfl ?_
            refine op (y (x_pickT rfl rfl) rfl ?_)
            refine op (y (x_assign rfl) rfl ?_)
            refine nil ?_
            refine n_then ?_
            refine condT rfl ?_
            refine seq ?_
            refine region ?_
            refine op (y (x_move rfl) rfl ?_)
            refine op (y (x_eql rfl rfl) rfl ?_)
            refine op (y (x_move rfl) rfl ?_)
            refine bsplit 32 rfl (fun g32 => ?_) (fun g32 => ?_)
            · try simp only [decide_eq_true_eq, decide_eq_false_iff_not, beq_iff_eq, bne_iff_ne, ne_eq, beq_eq_false_iff_ne, bne_eq_false_iff_eq, Bool.not_eq_true', Bool.not_eq_false', Bool.not_eq_true, Bool.not_eq_false, Decidable.not_not, Int.not_lt, Int.not_le] at g32
              refine opN rfl rfl rfl rfl ?_
              refine opN rfl rfl rfl rfl ?_
              refine op (y (x_pickT rfl rfl) rfl ?_)
              refine op (y (x_assign rfl) rfl ?_)
              refine nil ?_
              refine n_then ?_
              refine ret ?_
              refine r_in ?_
              refine r_then ?_
              exact done rfl (.tmp rfl (.nil)) (Ro.le.refl _) (L) (subF (by (repeat (first | exact List.Sublist.refl _ | apply List.Sublist.cons_cons | apply List.Sublist.cons)); done)) (⟨by simp only [tupled, fitsK, beq_dec]; congr 1; grind, rfl, rfl⟩)
            · try simp only [decide_eq_true_eq, decide_eq_false_iff_not, beq_iff_eq, bne_iff_ne, ne_eq, beq_eq_false_iff_ne, bne_eq_false_iff_eq, Bool.not_eq_true', Bool.not_eq_false', Bool.not_eq_true, Bool.not_eq_false, Decidable.not_not, Int.not_lt, Int.not_le] at g32
              refine opG rfl rfl (y (x_move rfl) rfl ?_)
              refine opG rfl rfl (y (x_eql rfl rfl) rfl ?_)
              refine op (y (x_pickF rfl rfl) rfl ?_)
              refine op (y (x_assign rfl) rfl ?_)
              refine nil ?_
              refine n_then ?_
              refine ret ?_
              refine r_in ?_
              refine r_then ?_
              exact done rfl (.tmp rfl (.nil)) (Ro.le.refl _) (L) (subF (by (repeat (first | exact List.Sublist.refl _ | apply List.Sublist.cons_cons | apply List.Sublist.cons)); done)) (⟨by simp only [tupled, fitsK, beq_dec]; congr 1; grind, rfl, rfl⟩)
          · try simp only [decide_eq_true_eq, decide_eq_false_iff_not, beq_iff_eq, bne_iff_ne, ne_eq, beq_eq_false_iff_ne, bne_eq_false_iff_eq, Bool.not_eq_true', Bool.not_eq_false', Bool.not_eq_true, Bool.not_eq_false, Decidable.not_not, Int.not_lt, Int.not_le] at g26
            refine opG rfl rfl (y (x_move rfl) rfl ?_)
            refine opG rfl rfl (y (x_eql rfl rfl) rfl ?_)
            refine op (y (x_pickF rfl rfl) rfl ?_)
            refine op (y (x_assign rfl) rfl ?_)
            refine nil ?_
            refine n_then ?_
            refine cond rfl (fun h5 => ?_) (fun h5 => ?_)
            · try simp only [decide_eq_true_eq, decide_eq_false_iff_not, beq_iff_eq, bne_iff_ne, ne_eq, beq_eq_false_iff_ne, bne_eq_false_iff_eq, Bool.not_eq_true', Bool.not_eq_false', Bool.not_eq_true, Bool.not_eq_false, Decidable.not_not, Int.not_lt, Int.not_le] at h5
              refine seq ?_
              refine region ?_
              refine op (y (x_move rfl) rfl ?_)
              refine op (y (x_eql rfl rfl) rfl ?_)
              refine op (y (x_move rfl) rfl ?_)
              refine bsplit 32 rfl (fun g32 => ?_) (fun g32 => ?_)
              · try simp only [decide_eq_true_eq, decide_eq_false_iff_not, beq_iff_eq, bne_iff_ne, ne_eq, beq_eq_false_iff_ne, bne_eq_false_iff_eq, Bool.not_eq_true', Bool.not_eq_false', Bool.not_eq_true, Bool.not_eq_false, Decidable.not_not, Int.not_lt, Int.not_le] at g32
                refine opN rfl rfl rfl rfl ?_
                refine opN rfl rfl rfl rfl ?_
                refine op (y (x_pickT rfl rfl) rfl ?_)
                refine op (y (x_assign rfl) rfl ?_)
                refine nil ?_
                refine n_then ?_
                refine ret ?_
                refine r_in ?_
                refine r_then ?_
                exact done rfl (.tmp rfl (.nil)) (Ro.le.refl _) (L) (subF (by (repeat (first | exact List.Sublist.refl _ | apply List.Sublist.cons_cons | apply List.Sublist.cons)); done)) (⟨by simp only [tupled, fitsK, beq_dec]; congr 1; grind, rfl, rfl⟩)
              · try simp only [decide_eq_true_eq, decide_eq_false_iff_not, beq_iff_eq, bne_iff_ne, ne_eq, beq_eq_false_iff_ne, bne_eq_false_iff_eq, Bool.not_eq_true', Bool.not_eq_false', Bool.not_eq_true, Bool.not_eq_false, Decidable.not_not, Int.not_lt, Int.not_le] at g32
                refine opG rfl rfl (y (x_move rfl) rfl ?_)
                refine opG rfl rfl (y (x_eql rfl rfl) rfl ?_)
                refine op (y (x_pickF rfl rfl) rfl ?_)
                refine op (y (x_assign rfl) rfl ?_)
                refine nil ?_
                refine n_then ?_
                refine ret ?_
                refine r_in ?_
                refine r_then ?_
                exact done rfl (.tmp rfl (.nil)) (Ro.le.refl _) (L) (subF (by (repeat (first | exact List.Sublist.refl _ | apply List.Sublist.cons_cons | apply List.Sublist.cons)); done)) (⟨by simp only [tupled, fitsK, beq_dec]; congr 1; grind, rfl, rfl⟩)
            · try simp only [decide_eq_true_eq, decide_eq_false_iff_not, beq_iff_eq, bne_iff_ne, ne_eq, beq_eq_false_iff_ne, bne_eq_false_iff_eq, Bool.not_eq_true', Bool.not_eq_false', Bool.not_eq_true, Bool.not_eq_false, Decidable.not_not, Int.not_lt, Int.not_le] at h5
              refine skip ?_
              refine n_in ?_
              refine n_then ?_
              refine seq ?_
              refine region ?_
              refine op (y (x_assign rfl) rfl ?_)
              refine nil ?_
              refine n_then ?_
              refine ret ?_
              exact done rfl (.tmp rfl (.nil)) (Ro.le.refl _) (L) (subF (by (repeat (first | exact List.Sublist.refl _ | apply List.Sublist.cons_cons | apply List.Sublist.cons)); done)) (⟨by simp only [tupled, fitsK, beq_dec]; congr 1; grind, rfl, rfl⟩)

theorem of1_c (b off : Nat) (ro : Ro) (L : List (List Blk)) : CT Tryd.prog 92 [.pointer (some ⟨b, off, none⟩)].toArray ro L (PQ (.pointer (some ⟨b, off + 1, none⟩)) ro L) := by
  refine enter Tryd.func92 rfl Tryd.ntmps92 rfl ?_
  refine seq ?_
  refine region ?_
  refine op (y (x_assign rfl) rfl ?_)
  refine nil ?_
  refine n_then ?_
  refine seq ?_
  refine region ?_
  refine op (y (x_move rfl) rfl ?_)
  refine op (y (x_nilPtr rfl) rfl ?_)
  refine op (y (x_fieldAddr fo_34_1 rfl) rfl ?_)
  refine op (y (x_assign rfl) rfl ?_)
  refine nil ?_
  refine n_then ?_
  refine ret ?_
  exact done rfl (.tmp rfl (.nil)) (Ro.le.refl _) (L) (subF (by (repeat (first | exact List.Sublist.refl _ | apply List.Sublist.cons_cons | apply List.Sublist.cons)); done)) (⟨rfl, rfl, rfl⟩)

theorem of2_c (b off : Nat) (ro : Ro) (L : List (List Blk)) : CT Tryd.prog 93 [.pointer (some ⟨b, off, none⟩)].toArray ro L (PQ (.pointer (some ⟨b, off + 2, none⟩)) ro L) := by
  refine enter Tryd.func93 rfl Tryd.ntmps93 rfl ?_
  refine seq ?_
  refine region ?_
  refine op (y (x_assign rfl) rfl ?_)
  refine nil ?_
  refine n_then ?_
  refine seq ?_
  refine region ?_
  refine op (y (x_move rfl) rfl ?_)
  refine op (y (x_nilPtr rfl) rfl ?_)
  refine op (y (x_fieldAddr fo_34_2 rfl) rfl ?_)
  refine op (y (x_assign rfl) rfl ?_)
  refine nil ?_
  refine n_then ?_
  refine ret ?_
  exact done rfl (.tmp rfl (.nil)) (Ro.le.refl _) (L) (subF (by (repeat (first | exact List.Sublist.refl _ | apply List.Sublist.cons_cons | apply List.Sublist.cons)); done)) (⟨rfl, rfl, rfl⟩)

theorem of3_c (b off : Nat) (ro : Ro) (L : List (List Blk)) : CT Tryd.prog 94 [.pointer (some ⟨b, off, none⟩)].toArray ro L (PQ (.pointer (some ⟨b, off + 3, none⟩)) ro L) := by
  refine enter Tryd.func94 rfl Tryd.ntmps94 rfl ?_
  refine seq ?_
  refine region ?_
  refine op (y (x_assign rfl) rfl ?_)
  refine nil ?_
  refine n_then ?_
  refine seq ?_
  refine region ?_
  refine op (y (x_move rfl) rfl ?_)
  refine op (y (x_nilPtr rfl) rfl ?_)
  refine op (y (x_fieldAddr fo_34_3 rfl) rfl ?_)
  refine op (y (x_assign rfl) rfl ?_)
  refine nil ?_
  refine n_then ?_
  refine ret ?_
  exact done rfl (.tmp rfl (.nil)) (Ro.le.refl _) (L) (subF (by (repeat (first | exact List.Sublist.refl _ | apply List.Sublist.cons_cons | apply List.Sublist.cons)); done)) (⟨rfl, rfl, rfl⟩)

theorem of4_c (b off : Nat) (ro : Ro) (L : List (List Blk)) : CT Tryd.prog 95 [.pointer (some ⟨b, off, none⟩)].toArray ro L (PQ (.pointer (some ⟨b, off + 4, none⟩)) ro L) := by
  refine enter Tryd.func95 rfl Tryd.ntmps95 rfl ?_
  refine seq ?_
  refine region ?_
  refine op (y (x_assign rfl) rfl ?_)
  refine nil ?_
  refine n_then ?_
  refine seq ?_
  refine region ?_
  refine op (y (x_move rfl) rfl ?_)
  refine op (y (x_nilPtr rfl) rfl ?_)
  refine op (y (x_fieldAddr fo_34_4 rfl) rfl ?_)
  refine op (y (x_assign rfl) rfl ?_)
  refine nil ?_
  refine n_then ?_
  refine ret ?_
  exact done rfl (.tmp rfl (.nil)) (Ro.le.refl _) (L) (subF (by (repeat (first | exact List.Sublist.refl _ | apply List.Sublist.cons_cons | apply List.Sublist.cons)); done)) (⟨rfl, rfl, rfl⟩)

theorem of5_c (b off : Nat) (ro : Ro) (L : List (List Blk)) : CT Tryd.prog 96 [.pointer (some ⟨b, off, none⟩)].toArray ro L (PQ (.pointer (some ⟨b, off + 5, none⟩)) ro L) := by
  refine enter Tryd.func96 rfl Tryd.ntmps96 rfl ?_
  refine seq ?_
  refine region ?_
  refine op (y (x_assign rfl) rfl ?_)
  refine nil ?_
  refine n_then ?_
  refine seq ?_
  refine region ?_
  refine op (y (x_move rfl) rfl ?_)
  refine op (y (x_nilPtr rfl) rfl ?_)
  refine op (y (x_fieldAddr fo_34_5 rfl) rfl ?_)
  refine op (y (x_assign rfl) rfl ?_)
  refine nil ?_
  refine n_then ?_
  refine ret ?_
  exact done rfl (.tmp rfl (.nil)) (Ro.le.refl _) (L) (subF (by (repeat (first | exact List.Sublist.refl _ | apply List.Sublist.cons_cons | apply List.Sublist.cons)); done)) (⟨rfl, rfl, rfl⟩)

theorem of6_c (b off : Nat) (ro : Ro) (L : List (List Blk)) : CT Tryd.prog 97 [.pointer (some ⟨b, off, none⟩)].toArray ro L (PQ (.pointer (some ⟨b, off + 6, none⟩)) ro L) := by
  refine enter Tryd.func97 rfl Tryd.ntmps97 rfl ?_
  refine seq ?_
  refine region ?_
  refine op (y (x_assign rfl) rfl ?_)
  refine nil ?_
  refine n_then ?_
  refine seq ?_
  refine region ?_
  refine op (y (x_move rfl) rfl ?_)
  refine op (y (x_nilPtr rfl) rfl ?_)
  refine op (y (x_fieldAddr fo_34_6 rfl) rfl ?_)
  refine op (y (x_assign rfl) rfl ?_)
  refine nil ?_
  refine n_then ?_
  refine ret ?_
  exact done rfl (.tmp rfl (.nil)) (Ro.le.refl _) (L) (subF (by (repeat (first | exact List.Sublist.refl _ | apply List.Sublist.cons_cons | apply List.Sublist.cons)); done)) (⟨rfl, rfl, rfl⟩)

theorem of7_c (b off : Nat) (ro : Ro) (L : List (List Blk)) : CT Tryd.prog 98 [.pointer (some ⟨b, off, none⟩)].toArray ro L (PQ (.pointer (some ⟨b, off + 7, none⟩)) ro L) := by
  refine enter Tryd.func98 rfl Tryd.ntmps98 rfl ?_
  refine seq ?_
  refine region ?_
  refine op (y (x_assign rfl) rfl ?_)
  refine nil ?_
  refine n_then ?_
  refine seq ?_
  refine region ?_
  refine op (y (x_move rfl) rfl ?_)
  refine op (y (x_nilPtr rfl) rfl ?_)
  refine op (y (x_fieldAddr fo_34_7 rfl) rfl ?_)
  refine op (y (x_assign rfl) rfl ?_)
  refine nil ?_
  refine n_then ?_
  refine ret ?_
  exact done rfl (.tmp rfl (.nil)) (Ro.le.refl _) (L) (subF (by (repeat (first | exact List.Sublist.refl _ | apply List.Sublist.cons_cons | apply List.Sublist.cons)); done)) (⟨rfl, rfl, rfl⟩)

theorem of_c {j : Nat} (h1 : 1 ≤ j) (h2 : j < 8) (b off : Nat) (ro : Ro) (L : List (List Blk)) : CT Tryd.prog (91 + j) [.pointer (some ⟨b, off, none⟩)].toArray ro L (PQ (.pointer (some ⟨b, off + j, none⟩)) ro L) := by
  match j, h1, h2 with
  | 1, _, _ => exact of1_c b off ro L
  | 2, _, _ => exact of2_c b off ro L
  | 3, _, _ => exact of3_c b off ro L
  | 4, _, _ => exact of4_c b off ro L
  | 5, _, _ => exact of5_c b off ro L
  | 6, _, _ => exact of6_c b off ro L
  | 7, _, _ => exact of7_c b off ro L
theorem fn_of {j : Nat} (h1 : 1 ≤ j) (h2 : j < 8) : Fun Tryd.prog (91 + j) := by
  match j, h1, h2 with
  | 1, _, _ => exact fn_92
  | 2, _, _ => exact fn_93
  | 3, _, _ => exact fn_94
  | 4, _, _ => exact fn_95
  | 5, _, _ => exact fn_96
  | 6, _, _ => exact fn_97
  | 7, _, _ => exact fn_98

theorem txF_c (ro : Ro) (L : List (List Blk)) : CT Tryd.prog 74 [].toArray ro L (PQ (.agg (fldV 1).toArray) ro L) := by
  refine enter Tryd.func74 rfl Tryd.ntmps74 rfl ?_
  refine seq ?_
  refine region ?_
  refine op (e_alloc rfl zc_106 rfl fun b0 => ?_)
  refine nil ?_
  refine n_then ?_
  refine seq ?_
  refine region ?_
  refine op (y (x_build bu_106 rfl rfl) rfl ?_)
  first | refine op (e_store 0 rfl rfl ts_106 rfl rfl rfl rfl rfl rfl ?_) | refine op (e_store 1 rfl rfl ts_106 rfl rfl rfl rfl rfl rfl ?_) | refine op (e_store 2 rfl rfl ts_106 rfl rfl rfl rfl rfl rfl ?_) | refine op (e_store 3 rfl rfl ts_106 rfl rfl rfl rfl rfl rfl ?_) | refine op (e_store 4 rfl rfl ts_106 rfl rfl rfl rfl rfl rfl ?_) | refine op (e_store 5 rfl rfl ts_106 rfl rfl rfl rfl rfl rfl ?_) | refine op (e_store 6 rfl rfl ts_106 rfl rfl rfl rfl rfl rfl ?_) | refine op (e_store 7 rfl rfl ts_106 rfl rfl rfl rfl rfl rfl ?_) | refine op (e_store 8 rfl rfl ts_106 rfl rfl rfl rfl rfl rfl ?_) | refine op (e_store 9 rfl rfl ts_106 rfl rfl rfl rfl rfl rfl ?_)
  refine nil ?_
  refine n_then ?_
  refine ret ?_
  exact done rfl (Res.cellN ag_106 rfl rfl (CellsAt.own 0 0 4 _ rfl rfl) (.nil)) (Ro.le.refl _) (L) (subF (by (repeat (first | exact List.Sublist.refl _ | apply List.Sublist.cons_cons | apply List.Sublist.cons)); done)) (⟨rfl, rfl, rfl⟩)

theorem threadF_c (ro : Ro) (L : List (List Blk)) : CT Tryd.prog 75 [].toArray ro L (PQ (.agg (fldV 2).toArray) ro L) := by
  refine enter Tryd.func75 rfl Tryd.ntmps75 rfl ?_
  refine seq ?_
  refine region ?_
  refine op (e_alloc rfl zc_106 rfl fun b0 => ?_)
  refine nil ?_
  refine n_then ?_
  refine seq ?_
  refine region ?_
  refine op (y (x_build bu_106 rfl rfl) rfl ?_)
  first | refine op (e_store 0 rfl rfl ts_106 rfl rfl rfl rfl rfl rfl ?_) | refine op (e_store 1 rfl rfl ts_106 rfl rfl rfl rfl rfl rfl ?_) | refine op (e_store 2 rfl rfl ts_106 rfl rfl rfl rfl rfl rfl ?_) | refine op (e_store 3 rfl rfl ts_106 rfl rfl rfl rfl rfl rfl ?_) | refine op (e_store 4 rfl rfl ts_106 rfl rfl rfl rfl rfl rfl ?_) | refine op (e_store 5 rfl rfl ts_106 rfl rfl rfl rfl rfl rfl ?_) | refine op (e_store 6 rfl rfl ts_106 rfl rfl rfl rfl rfl rfl ?_) | refine op (e_store 7 rfl rfl ts_106 rfl rfl rfl rfl rfl rfl ?_) | refine op (e_store 8 rfl rfl ts_106 rfl rfl rfl rfl rfl rfl ?_) | refine op (e_store 9 rfl rfl ts_106 rfl rfl rfl rfl rfl rfl ?_)
  refine nil ?_
  refine n_then ?_
  refine ret ?_
  exact done rfl (Res.cellN ag_106 rfl rfl (CellsAt.own 0 0 4 _ rfl rfl) (.nil)) (Ro.le.refl _) (L) (subF (by (repeat (first | exact List.Sublist.refl _ | apply List.Sublist.cons_cons | apply List.Sublist.cons)); done)) (⟨rfl, rfl, rfl⟩)

theorem objF_c (ro : Ro) (L : List (List Blk)) : CT Tryd.prog 77 [].toArray ro L (PQ (.agg (fldV 3).toArray) ro L) := by
  refine enter Tryd.func77 rfl Tryd.ntmps77 rfl ?_
  refine seq ?_
  refine region ?_
  refine op (e_alloc rfl zc_106 rfl fun b0 => ?_)
  refine nil ?_
  refine n_then ?_
  refine seq ?_
  refine region ?_
  refine op (y (x_build bu_106 rfl rfl) rfl ?_)
  first | refine op (e_store 0 rfl rfl ts_106 rfl rfl rfl rfl rfl rfl ?_) | refine op (e_store 1 rfl rfl ts_106 rfl rfl rfl rfl rfl rfl ?_) | refine op (e_store 2 rfl rfl ts_106 rfl rfl rfl rfl rfl rfl ?_) | refine op (e_store 3 rfl rfl ts_106 rfl rfl rfl rfl rfl rfl ?_) | refine op (e_store 4 rfl rfl ts_106 rfl rfl rfl rfl rfl rfl ?_) | refine op (e_store 5 rfl rfl ts_106 rfl rfl rfl rfl rfl rfl ?_) | refine op (e_store 6 rfl rfl ts_106 rfl rfl rfl rfl rfl rfl ?_) | refine op (e_store 7 rfl rfl ts_106 rfl rfl rfl rfl rfl rfl ?_) | refine op (e_store 8 rfl rfl ts_106 rfl rfl rfl rfl rfl rfl ?_) | refine op (e_store 9 rfl rfl ts_106 rfl rfl rfl rfl rfl rfl ?_)
  refine nil ?_
  refine n_then ?_
  refine ret ?_
  exact done rfl (Res.cellN ag_106 rfl rfl (CellsAt.own 0 0 4 _ rfl rfl) (.nil)) (Ro.le.refl _) (L) (subF (by (repeat (first | exact List.Sublist.refl _ | apply List.Sublist.cons_cons | apply List.Sublist.cons)); done)) (⟨rfl, rfl, rfl⟩)

theorem opF_c (ro : Ro) (L : List (List Blk)) : CT Tryd.prog 78 [].toArray ro L (PQ (.agg (fldV 4).toArray) ro L) := by
  refine enter Tryd.func78 rfl Tryd.ntmps78 rfl ?_
  refine seq ?_
  refine region ?_
  refine op (e_alloc rfl zc_106 rfl fun b0 => ?_)
  refine nil ?_
  refine n_then ?_
  refine seq ?_
  refine region ?_
  refine op (y (x_build bu_106 rfl rfl) rfl ?_)
  first | refine op (e_store 0 rfl rfl ts_106 rfl rfl rfl rfl rfl rfl ?_) | refine op (e_store 1 rfl rfl ts_106 rfl rfl rfl rfl rfl rfl ?_) | refine op (e_store 2 rfl rfl ts_106 rfl rfl rfl rfl rfl rfl ?_) | refine op (e_store 3 rfl rfl ts_106 rfl rfl rfl rfl rfl rfl ?_) | refine op (e_store 4 rfl rfl ts_106 rfl rfl rfl rfl rfl rfl ?_) | refine op (e_store 5 rfl rfl ts_106 rfl rfl rfl rfl rfl rfl ?_) | refine op (e_store 6 rfl rfl ts_106 rfl rfl rfl rfl rfl rfl ?_) | refine op (e_store 7 rfl rfl ts_106 rfl rfl rfl rfl rfl rfl ?_) | refine op (e_store 8 rfl rfl ts_106 rfl rfl rfl rfl rfl rfl ?_) | refine op (e_store 9 rfl rfl ts_106 rfl rfl rfl rfl rfl rfl ?_)
  refine nil ?_
  refine n_then ?_
  refine ret ?_
  exact done rfl (Res.cellN ag_106 rfl rfl (CellsAt.own 0 0 4 _ rfl rfl) (.nil)) (Ro.le.refl _) (L) (subF (by (repeat (first | exact List.Sublist.refl _ | apply List.Sublist.cons_cons | apply List.Sublist.cons)); done)) (⟨rfl, rfl, rfl⟩)

theorem keyF_c (ro : Ro) (L : List (List Blk)) : CT Tryd.prog 80 [].toArray ro L (PQ (.agg (fldV 5).toArray) ro L) := by
  refine enter Tryd.func80 rfl Tryd.ntmps80 rfl ?_
  refine seq ?_
  refine region ?_
  refine op (e_alloc rfl zc_106 rfl fun b0 => ?_)
  refine nil ?_
  refine n_then ?_
  refine seq ?_
  refine region ?_
  refine op (y (x_build bu_106 rfl rfl) rfl ?_)
  first | refine op (e_store 0 rfl rfl ts_106 rfl rfl rfl rfl rfl rfl ?_) | refine op (e_store 1 rfl rfl ts_106 rfl rfl rfl rfl rfl rfl ?_) | refine op (e_store 2 rfl rfl ts_106 rfl rfl rfl rfl rfl rfl ?_) | refine op (e_store 3 rfl rfl ts_106 rfl rfl rfl rfl rfl rfl ?_) | refine op (e_store 4 rfl rfl ts_106 rfl rfl rfl rfl rfl rfl ?_) | refine op (e_store 5 rfl rfl ts_106 rfl rfl rfl rfl rfl rfl ?_) | refine op (e_store 6 rfl rfl ts_106 rfl rfl rfl rfl rfl rfl ?_) | refine op (e_store 7 rfl rfl ts_106 rfl rfl rfl rfl rfl rfl ?_) | refine op (e_store 8 rfl rfl ts_106 rfl rfl rfl rfl rfl rfl ?_) | refine op (e_store 9 rfl rfl ts_106 rfl rfl rfl rfl rfl rfl ?_)
  refine nil ?_
  refine n_then ?_
  refine ret ?_
  exact done rfl (Res.cellN ag_106 rfl rfl (CellsAt.own 0 0 4 _ rfl rfl) (.nil)) (Ro.le.refl _) (L) (subF (by (repeat (first | exact List.Sublist.refl _ | apply List.Sublist.cons_cons | apply List.Sublist.cons)); done)) (⟨rfl, rfl, rfl⟩)

theorem valF_c (ro : Ro) (L : List (List Blk)) : CT Tryd.prog 82 [].toArray ro L (PQ (.agg (fldV 6).toArray) ro L) := by
  refine enter Tryd.func82 rfl Tryd.ntmps82 rfl ?_
  refine seq ?_
  refine region ?_
  refine op (e_alloc rfl zc_106 rfl fun b0 => ?_)
  refine nil ?_
  refine n_then ?_
  refine seq ?_
  refine region ?_
  refine op (y (x_build bu_106 rfl rfl) rfl ?_)
  first | refine op (e_store 0 rfl rfl ts_106 rfl rfl rfl rfl rfl rfl ?_) | refine op (e_store 1 rfl rfl ts_106 rfl rfl rfl rfl rfl rfl ?_) | refine op (e_store 2 rfl rfl ts_106 rfl rfl rfl rfl rfl rfl ?_) | refine op (e_store 3 rfl rfl ts_106 rfl rfl rfl rfl rfl rfl ?_) | refine op (e_store 4 rfl rfl ts_106 rfl rfl rfl rfl rfl rfl ?_) | refine op (e_store 5 rfl rfl ts_106 rfl rfl rfl rfl rfl rfl ?_) | refine op (e_store 6 rfl rfl ts_106 rfl rfl rfl rfl rfl rfl ?_) | refine op (e_store 7 rfl rfl ts_106 rfl rfl rfl rfl rfl rfl ?_) | refine op (e_store 8 rfl rfl ts_106 rfl rfl rfl rfl rfl rfl ?_) | refine op (e_store 9 rfl rfl ts_106 rfl rfl rfl rfl rfl rfl ?_)
  refine nil ?_
  refine n_then ?_
  refine ret ?_
  exact done rfl (Res.cellN ag_106 rfl rfl (CellsAt.own 0 0 4 _ rfl rfl) (.nil)) (Ro.le.refl _) (L) (subF (by (repeat (first | exact List.Sublist.refl _ | apply List.Sublist.cons_cons | apply List.Sublist.cons)); done)) (⟨rfl, rfl, rfl⟩)

theorem retF_c (ro : Ro) (L : List (List Blk)) : CT Tryd.prog 84 [].toArray ro L (PQ (.agg (fldV 7).toArray) ro L) := by
  refine enter Tryd.func84 rfl Tryd.ntmps84 rfl ?_
  refine seq ?_
  refine region ?_
  refine op (e_alloc rfl zc_106 rfl fun b0 => ?_)
  refine nil ?_
  refine n_then ?_
  refine seq ?_
  refine region ?_
  refine op (y (x_build bu_106 rfl rfl) rfl ?_)
  first | refine op (e_store 0 rfl rfl ts_106 rfl rfl rfl rfl rfl rfl ?_) | refine op (e_store 1 rfl rfl ts_106 rfl rfl rfl rfl rfl rfl ?_) | refine op (e_store 2 rfl rfl ts_106 rfl rfl rfl rfl rfl rfl ?_) | refine op (e_store 3 rfl rfl ts_106 rfl rfl rfl rfl rfl rfl ?_) | refine op (e_store 4 rfl rfl ts_106 rfl rfl rfl rfl rfl rfl ?_) | refine op (e_store 5 rfl rfl ts_106 rfl rfl rfl rfl rfl rfl ?_) | refine op (e_store 6 rfl rfl ts_106 rfl rfl rfl rfl rfl rfl ?_) | refine op (e_store 7 rfl rfl ts_106 rfl rfl rfl rfl rfl rfl ?_) | refine op (e_store 8 rfl rfl ts_106 rfl rfl rfl rfl rfl rfl ?_) | refine op (e_store 9 rfl rfl ts_106 rfl rfl rfl rfl rfl rfl ?_)
  refine nil ?_
  refine n_then ?_
  refine ret ?_
  exact done rfl (Res.cellN ag_106 rfl rfl (CellsAt.own 0 0 4 _ rfl rfl) (.nil)) (Ro.le.refl _) (L) (subF (by (repeat (first | exact List.Sublist.refl _ | apply List.Sublist.cons_cons | apply List.Sublist.cons)); done)) (⟨rfl, rfl, rfl⟩)

theorem next_c (e : Ev) (i : Nat) (hi : i ≤ 1000) (l : List Nat) (A : Option Addr) (cap b : Nat) (ro : Ro) (L : List (List Blk)) (hl : Sl ro 4 fldV A cap l) (hb : ro.cell b 0 = some (.slice A l.length cap)) :
    CT Tryd.prog 73 [.agg (encEv e).toArray, .int .i64 (i : Nat), .pointer (some ⟨b, 0, none⟩)].toArray ro L (PQ (nextV l i) ro L) := by
  refine enter Tryd.func73 rfl Tryd.ntmps73 rfl ?_
  refine seq ?_
  refine region ?_
  refine op (e_box rfl rfl rfl fun b3 => ?_)
  refine op (e_alloc rfl zc_106 rfl fun b5 => ?_)
  refine op (y (x_assign rfl) rfl ?_)
  refine nil ?_
  refine n_then ?_
  refine seq ?_
  refine seq ?_
  refine region ?_
  refine op (y (x_move rfl) rfl ?_)
  refine op (y (x_load1 ag_116 rfl (Cell.ofRo hb)) rfl ?_)
  refine op (y (x_lenSl sz_116 rfl) rfl ?_)
  refine op (y (x_lss rfl rfl) rfl ?_)
  refine nil ?_
  refine n_then ?_
  refine cond rfl (fun h1 => ?_) (fun h1 => ?_)
  · try simp only [decide_eq_true_eq, decide_eq_false_iff_not, beq_iff_eq, bne_iff_ne, ne_eq, beq_eq_false_iff_ne, bne_eq_false_iff_eq, Bool.not_eq_true', Bool.not_eq_false', Bool.not_eq_true, Bool.not_eq_false, Decidable.not_not, Int.not_lt, Int.not_le] at h1
    refine seq ?_
    obtain ⟨bbx, offx, rfl, hcx⟩ := hl.at_ (i := i) (by omega)
    have hx := List.getElem?_eq_getElem (show i < l.length from by omega)
    refine region ?_
    refine op (y (x_load1 ag_116 rfl (Cell.ofRo hb)) rfl ?_)
    refine op (y (x_move rfl) rfl ?_)
    refine op (y (x_indexNat sz_116 rfl rfl (by omega)) rfl ?_)
    refine op (y (x_loadN ag_106 rfl rfl (CellsAt.ofRo (hcx i _ hx))) rfl ?_)
    first | refine op (e_store 0 rfl rfl ts_106 rfl rfl rfl rfl rfl rfl ?_) | refine op (e_store 1 rfl rfl ts_106 rfl rfl rfl rfl rfl rfl ?_) | refine op (e_store 2 rfl rfl ts_106 rfl rfl rfl rfl rfl rfl ?_) | refine op (e_store 3 rfl rfl ts_106 rfl rfl rfl rfl rfl rfl ?_) | refine op (e_store 4 rfl rfl ts_106 rfl rfl rfl rfl rfl rfl ?_) | refine op (e_store 5 rfl rfl ts_106 rfl rfl rfl rfl rfl rfl ?_) | refine op (e_store 6 rfl rfl ts_106 rfl rfl rfl rfl rfl rfl ?_) | refine op (e_store 7 rfl rfl ts_106 rfl rfl rfl rfl rfl rfl ?_) | refine op (e_store 8 rfl rfl ts_106 rfl rfl rfl rfl rfl rfl ?_) | refine op (e_store 9 rfl rfl ts_106 rfl rfl rfl rfl rfl rfl ?_)
    refine op (y (x_assign rfl) rfl ?_)
    refine nil ?_
    refine n_then ?_
    refine ret ?_
    refine r_then ?_
    exact done rfl (Res.cellN ag_106 rfl rfl (CellsAt.own 0 0 4 _ rfl rfl) (.tmp rfl (.nil))) (Ro.le.refl _) (L) (subF (by (repeat (first | exact List.Sublist.refl _ | apply List.Sublist.cons_cons | apply List.Sublist.cons)); done)) (⟨by unfold nextV; rw [hx]; rfl, rfl, rfl⟩)
  · try simp only [decide_eq_true_eq, decide_eq_false_iff_not, beq_iff_eq, bne_iff_ne, ne_eq, beq_eq_false_iff_ne, bne_eq_false_iff_eq, Bool.not_eq_true', Bool.not_eq_false', Bool.not_eq_true, Bool.not_eq_false, Decidable.not_not, Int.not_lt, Int.not_le] at h1
    refine skip ?_
    refine n_then ?_
    refine seq ?_
    refine region ?_
    refine op (y (x_build bu_106 rfl rfl) rfl ?_)
    first | refine op (e_store 0 rfl rfl ts_106 rfl rfl rfl rfl rfl rfl ?_) | refine op (e_store 1 rfl rfl ts_106 rfl rfl rfl rfl rfl rfl ?_) | refine op (e_store 2 rfl rfl ts_106 rfl rfl rfl rfl rfl rfl ?_) | refine op (e_store 3 rfl rfl ts_106 rfl rfl rfl rfl rfl rfl ?_) | refine op (e_store 4 rfl rfl ts_106 rfl rfl rfl rfl rfl rfl ?_) | refine op (e_store 5 rfl rfl ts_106 rfl rfl rfl rfl rfl rfl ?_) | refine op (e_store 6 rfl rfl ts_106 rfl rfl rfl rfl rfl rfl ?_) | refine op (e_store 7 rfl rfl ts_106 rfl rfl rfl rfl rfl rfl ?_) | refine op (e_store 8 rfl rfl ts_106 rfl rfl rfl rfl rfl rfl ?_) | refine op (e_store 9 rfl rfl ts_106 rfl rfl rfl rfl rfl rfl ?_)
    refine op (y (x_assign rfl) rfl ?_)
    refine nil ?_
    refine n_then ?_
    refine ret ?_
    exact done rfl (Res.cellN ag_106 rfl rfl (CellsAt.own 0 0 4 _ rfl rfl) (.tmp rfl (.nil))) (Ro.le.refl _) (L) (subF (by (repeat (first | exact List.Sublist.refl _ | apply List.Sublist.cons_cons | apply List.Sublist.cons)); done)) (⟨by unfold nextV; rw [List.getElem?_eq_none (by omega)]; rfl, rfl, rfl⟩)

theorem list_c (l : List Nat) (A : Option Addr) (cap : Nat) (ro : Ro) (L : List (List Blk)) (hl : Sl ro 4 fldV A cap l) :
    CT Tryd.prog 72 [.slice A l.length cap].toArray ro L (fun v ro' L' => ∃ b, v = .func (.func 73) #[] [.pointer (some ⟨b, 0, none⟩)].toArray ∧ Sl ro' 4 fldV A cap l ∧ ro'.cell b 0 = some (.slice A l.length cap) ∧ L = L') := by
  refine enter Tryd.func72 rfl Tryd.ntmps72 rfl ?_
  refine seq ?_
  refine region ?_
  refine op (e_box rfl rfl rfl fun b1 => ?_)
  refine op (y (x_assign rfl) rfl ?_)
  refine nil ?_
  refine n_then ?_
  refine seq ?_
  refine ufreeze fun ro1 hle1 hR1 => ?_
  have hb1 : ro1.cell b1 0 = some (.slice A l.length cap) := by have := hR1 _ (List.mem_singleton.2 rfl); simp only at this; unfold Ro.cell; rw [this]; rfl
  refine region ?_
  refine op (y (x_makeFunc rfl rfl) rfl ?_)
  refine op (y (x_assign rfl) rfl ?_)
  refine nil ?_
  refine n_then ?_
  refine ret ?_
  exact done rfl (.tmp rfl (.nil)) (hle1) (L) (subF (by (repeat (first | exact List.Sublist.refl _ | apply List.Sublist.cons_cons | apply List.Sublist.cons)); done)) (⟨b1, rfl, hl.mono hle1, hb1, rfl⟩)

end Go.Proofs.YtijafcilfefafaaDoor
