/- The walk of an operation on an object. -/
import Derived.Test.YtgkngljojfkkfaaGreatDoorW6
namespace Go.Proofs.YtgkngljojfkkfaaGreatDoor
open Go Go.U
set_option maxRecDepth 20000
set_option linter.unusedSimpArgs false
set_option linter.unusedVariables false

def beyondM (kind key val : Int) : Bool := decide (key < 0 ∨ key > 1000 ∨ val < -(if kind = 2 then 1000000000000000 else 1000000000) ∨ val > (if kind = 2 then 1000000000000000 else 1000000000))
/-- is an operation with its key and its value well-formed? -/
def argsOk (op key val : Int) : Prop := ¬ (key ≠ 0 ∧ keyed op = false) ∧ 0 ≤ key ∧ key ≤ 1000 ∧ ¬ (val ≠ 0 ∧ valued op = false) ∧ -1000000000 ≤ val ∧ val ≤ 1000000000
instance instArgs (op key val : Int) : Decidable (argsOk op key val) := by unfold argsOk; exact inferInstance
/-- how an operation ends: 0: it is done; 1: no such operation; 2: no such event -/
def doM (s : Sv) (op key val : Int) : Nat := if s.kind = 0 ∨ ofK op ≠ s.kind then 1 else if ¬ argsOk op key val then 2 else if op = 3 ∧ beyondM s.kind 0 (s.num + val) = true then 2 else 0
def errV (er : Nat → Addr) : Nat → Value
  | 0 => .nilIface
  | 1 => .iface 242 (.pointer (some (er 0)))
  | 2 => .iface 242 (.pointer (some (er 2)))
  | _ => .iface 242 (.pointer (some (er 4)))
theorem errV_if (er : Nat → Addr) (j : Nat) : IfV (errV er j) := by
  match j with
  | 0 => exact IfV.nil
  | 1 => exact IfV.mk _ _
  | 2 => exact IfV.mk _ _
  | _ + 3 => exact IfV.mk _ _
theorem errV_nil (er : Nat → Addr) (j : Nat) : isNilI (errV er j) = decide (j = 0) := by
  match j with
  | 0 => rfl
  | 1 => rfl
  | 2 => rfl
  | _ + 3 => rfl
def PDo (er : Nat → Addr) (s : Sn) (op key val : Int) (L : List (List Blk)) : Value → Ro → List (List Blk) → Prop := fun v ro' L' => ∃ (s' : Sn) (r g : Int), v = .tuple [.agg (encSn s').toArray, .int .i64 r, .int .i64 g, errV er (doM s.v op key val)].toArray ∧ SnOk ro' s' ∧ L = L' ∧
  ((doM s.v op key val = 0 ∧ (s'.v, r, g) = deedM op key val s.v) ∨ (doM s.v op key val ≠ 0 ∧ s' = zeroSn ∧ r = 0 ∧ g = 0))
theorem ofK_rng {op : Int} (h : ofK op ≠ 0) : 1 ≤ op ∧ op ≤ 9 := by
  unfold ofK at h
  grind

theorem Beyond_c (kind key val : Int) (ro : Ro) (L : List (List Blk)) : CT Tryz.prog 51 [.int .i64 kind, .int .i64 key, .int .i64 val].toArray ro L (PQ (.bool (beyondM kind key val)) ro L) := by
  refine enter Tryz.func51 rfl Tryz.ntmps51 rfl ?_
  refine seq ?_
  refine region ?_
  refine op (y (x_assign rfl) rfl ?_)
  refine nil ?_
  refine n_then ?_
  refine seq ?_
  refine region ?_
  refine op (y (x_assign rfl) rfl ?_)
  refine nil ?_
  refine n_then ?_
  refine seq ?_
  refine seq ?_
  refine region ?_
  refine op (y (x_move rfl) rfl ?_)
  refine op (y (x_eql rfl rfl) rfl ?_)
  refine nil ?_
  refine n_then ?_
  refine cond rfl (fun h2 => ?_) (fun h2 => ?_)
  · try simp only [decide_eq_true_eq, decide_eq_false_iff_not, beq_iff_eq, bne_iff_ne, ne_eq, beq_eq_false_iff_ne, bne_eq_false_iff_eq, Bool.not_eq_true', Bool.not_eq_false', Bool.not_eq_true, Bool.not_eq_false, Decidable.not_not, Int.not_lt, Int.not_le] at h2
    refine region ?_
    refine op (y (x_assign rfl) rfl ?_)
    refine nil ?_
    refine n_then ?_
    refine seq ?_
    refine region ?_
    refine op (y (x_move rfl) rfl ?_)
    refine op (y (x_lss rfl rfl) rfl ?_)
    refine op (y (x_move rfl) rfl ?_)
    refine bsplit 12 rfl (fun g12 => ?_) (fun g12 => ?_)
    · try simp only [decide_eq_true_eq, decide_eq_false_iff_not, beq_iff_eq, bne_iff_ne, ne_eq, beq_eq_false_iff_ne, bne_eq_false_iff_eq, Bool.not_eq_true', Bool.not_eq_false', Bool.not_eq_true, Bool.not_eq_false, Decidable.not_not, Int.not_lt, Int.not_le] at g12
      refine opN rfl rfl rfl rfl ?_
      refine opN rfl rfl rfl rfl ?_
      refine op (y (x_pickT rfl rfl) rfl ?_)
      refine op (y (x_move rfl) rfl ?_)
      refine opN rfl rfl rfl rfl ?_
      refine opN rfl rfl rfl rfl ?_
      refine opN rfl rfl rfl rfl ?_
      refine opN rfl rfl rfl rfl ?_
      refine op (y (x_pickT rfl rfl) rfl ?_)
      refine op (y (x_move rfl) rfl ?_)
      refine opN rfl rfl rfl rfl ?_
      refine opN rfl rfl rfl rfl ?_
      refine opN rfl rfl rfl rfl ?_
      refine op (y (x_pickT rfl rfl) rfl ?_)
      refine op (y (x_assign rfl) rfl ?_)
      refine nil ?_
      refine n_then ?_
      refine ret ?_
      exact done rfl (.tmp rfl (.nil)) (Ro.le.refl _) (L) (subF (by (repeat (first | exact List.Sublist.refl _ | apply List.Sublist.cons_cons | apply List.Sublist.cons)); done)) (⟨by simp only [tupled, beyondM]; congr 1; grind, rfl, rfl⟩)
    · try simp only [decide_eq_true_eq, decide_eq_false_iff_not, beq_iff_eq, bne_iff_ne, ne_eq, beq_eq_false_iff_ne, bne_eq_false_iff_eq, Bool.not_eq_true', Bool.not_eq_false', Bool.not_eq_true, Bool.not_eq_false, Decidable.not_not, Int.not_lt, Int.not_le] at g12
      refine opG rfl rfl (y (x_move rfl) rfl ?_)
      refine opG rfl rfl (y (x_gtr rfl rfl) rfl ?_)
      refine op (y (x_pickF rfl rfl) rfl ?_)
      refine op (y (x_move rfl) rfl ?_)
      refine bsplit 16 rfl (fun g16 => ?_) (fun g16 => ?_)
      · try simp only [decide_eq_true_eq, decide_eq_false_iff_not, beq_iff_eq, bne_iff_ne, ne_eq, beq_eq_false_iff_ne, bne_eq_false_iff_eq, Bool.not_eq_true', Bool.not_eq_false', Bool.not_eq_true, Bool.not_eq_false, Decidable.not_not, Int.not_lt, Int.not_le] at g16
        refine opN rfl rfl rfl rfl ?_
        refine opN rfl rfl rfl rfl ?_
        refine opN rfl rfl rfl rfl ?_
        refine opN rfl rfl rfl rfl ?_
        refine op (y (x_pickT rfl rfl) rfl ?_)
        refine op (y (x_move rfl) rfl ?_)
        refine opN rfl rfl rfl rfl ?_
        refine opN rfl rfl rfl rfl ?_
        refine opN rfl rfl rfl rfl ?_
        refine op (y (x_pickT rfl rfl) rfl ?_)
        refine op (y (x_assign rfl) rfl ?_)
        refine nil ?_
        refine n_then ?_
        refine ret ?_
        exact done rfl (.tmp rfl (.nil)) (Ro.le.refl _) (L) (subF (by (repeat (first | exact List.Sublist.refl _ | apply List.Sublist.cons_cons | apply List.Sublist.cons)); done)) (⟨by simp only [tupled, beyondM]; congr 1; grind, rfl, rfl⟩)
      · try simp only [decide_eq_true_eq, decide_eq_false_iff_not, beq_iff_eq, bne_iff_ne, ne_eq, beq_eq_false_iff_ne, bne_eq_false_iff_eq, Bool.not_eq_true', Bool.not_eq_false', Bool.not_eq_true, Bool.not_eq_false, Decidable.not_not, Int.not_lt, Int.not_le] at g16
        refine opG rfl rfl (y (x_move rfl) rfl ?_)
        refine opG rfl rfl (y (x_move rfl) rfl ?_)
        refine opG rfl rfl (y (x_neg rfl _ (wr (by omega) (by omega))) rfl ?_)
        refine opG rfl rfl (y (x_lss rfl rfl) rfl ?_)
        refine op (y (x_pickF rfl rfl) rfl ?_)
        refine op (y (x_move rfl) rfl ?_)
        refine bsplit 22 rfl (fun g22 => ?_) (fun g22 => ?_)
        · try simp only [decide_eq_true_eq, decide_eq_false_iff_not, beq_iff_eq, bne_iff_ne, ne_eq, beq_eq_false_iff_ne, bne_eq_false_iff_eq, Bool.not_eq_true', Bool.not_eq_false', Bool.not_eq_true, Bool.not_eq_false, Decidable.not_not, Int.not_lt, Int.not_le] at g22
          refine opN rfl rfl rfl rfl ?_
          refine opN rfl rfl rfl rfl ?_
          refine opN rfl rfl rfl rfl ?_
          refine op (y (x_pickT rfl rfl) rfl ?_)
          refine op (y (x_assign rfl) rfl ?_)
          refine nil ?_
          refine n_then ?_
          refine ret ?_
          exact done rfl (.tmp rfl (.nil)) (Ro.le.refl _) (L) (subF (by (repeat (first | exact List.Sublist.refl _ | apply List.Sublist.cons_cons | apply List.Sublist.cons)); done)) (⟨by simp only [tupled, beyondM]; congr 1; grind, rfl, rfl⟩)
        · try simp only [decide_eq_true_eq, decide_eq_false_iff_not, beq_iff_eq, bne_iff_ne, ne_eq, beq_eq_false_iff_ne, bne_eq_false_iff_eq, Bool.not_eq_true', Bool.not_eq_false', Bool.not_eq_true, Bool.not_eq_false, Decidable.not_not, Int.not_lt, Int.not_le] at g22
          refine opG rfl rfl (y (x_move rfl) rfl ?_)
          refine opG rfl rfl (y (x_move rfl) rfl ?_)
          refine opG rfl rfl (y (x_gtr rfl rfl) rfl ?_)
          refine op (y (x_pickF rfl rfl) rfl ?_)
          refine op (y (x_assign rfl) rfl ?_)
          refine nil ?_
          refine n_then ?_
          refine ret ?_
          exact done rfl (.tmp rfl (.nil)) (Ro.le.refl _) (L) (subF (by (repeat (first | exact List.Sublist.refl _ | apply List.Sublist.cons_cons | apply List.Sublist.cons)); done)) (⟨by simp only [tupled, beyondM]; congr 1; grind, rfl, rfl⟩)
  · try simp only [decide_eq_true_eq, decide_eq_false_iff_not, beq_iff_eq, bne_iff_ne, ne_eq, beq_eq_false_iff_ne, bne_eq_false_iff_eq, Bool.not_eq_true', Bool.not_eq_false', Bool.not_eq_true, Bool.not_eq_false, Decidable.not_not, Int.not_lt, Int.not_le] at h2
    refine skip ?_
    refine n_then ?_
    refine seq ?_
    refine region ?_
    refine op (y (x_move rfl) rfl ?_)
    refine op (y (x_lss rfl rfl) rfl ?_)
    refine op (y (x_move rfl) rfl ?_)
    refine bsplit 12 rfl (fun g12 => ?_) (fun g12 => ?_)
    · try simp only [decide_eq_true_eq, decide_eq_false_iff_not, beq_iff_eq, bne_iff_ne, ne_eq, beq_eq_false_iff_ne, bne_eq_false_iff_eq, Bool.not_eq_true', Bool.not_eq_false', Bool.not_eq_true, Bool.not_eq_false, Decidable.not_not, Int.not_lt, Int.not_le] at g12
      refine opN rfl rfl rfl rfl ?_
      refine opN rfl rfl rfl rfl ?_
      refine op (y (x_pickT rfl rfl) rfl ?_)
      refine op (y (x_move rfl) rfl ?_)
      refine opN rfl rfl rfl rfl ?_
      refine opN rfl rfl rfl rfl ?_
      refine opN rfl rfl rfl rfl ?_
      refine opN rfl rfl rfl rfl ?_
      refine op (y (x_pickT rfl rfl) rfl ?_)
      refine op (y (x_move rfl) rfl ?_)
      refine opN rfl rfl rfl rfl ?_
      refine opN rfl rfl rfl rfl ?_
      refine opN rfl rfl rfl rfl ?_
      refine op (y (x_pickT rfl rfl) rfl ?_)
      refine op (y (x_assign rfl) rfl ?_)
      refine nil ?_
      refine n_then ?_
      refine ret ?_
      exact done rfl (.tmp rfl (.nil)) (Ro.le.refl _) (L) (subF (by (repeat (first | exact List.Sublist.refl _ | apply List.Sublist.cons_cons | apply List.Sublist.cons)); done)) (⟨by simp only [tupled, beyondM]; congr 1; grind, rfl, rfl⟩)
    · try simp only [decide_eq_true_eq, decide_eq_false_iff_not, beq_iff_eq, bne_iff_ne, ne_eq, beq_eq_false_iff_ne, bne_eq_false_iff_eq, Bool.not_eq_true', Bool.not_eq_false', Bool.not_eq_true, Bool.not_eq_false, Decidable.not_not, Int.not_lt, Int.not_le] at g12
      refine opG rfl rfl (y (x_move rfl) rfl ?_)
      refine opG rfl rfl (y (x_gtr rfl rfl) rfl ?_)
      refine op (y (x_pickF rfl rfl) rfl ?_)
      refine op (y (x_move rfl) rfl ?_)
      refine bsplit 16 rfl (fun g16 => ?_) (fun g16 => ?_)
      · try simp only [decide_eq_true_eq, decide_eq_false_iff_not, beq_iff_eq, bne_iff_ne, ne_eq, beq_eq_false_iff_ne, bne_eq_false_iff_eq, Bool.not_eq_true', Bool.not_eq_false', Bool.not_eq_true, Bool.not_eq_false, Decidable.not_not, Int.not_lt, Int.not_le] at g16
        refine opN rfl rfl rfl rfl ?_
        refine opN rfl rfl rfl rfl ?_
        refine opN rfl rfl rfl rfl ?_
        refine opN rfl rfl rfl rfl ?_
        refine op (y (x_pickT rfl rfl) rfl ?_)
        refine op (y (x_move rfl) rfl ?_)
        refine opN rfl rfl rfl rfl ?_
        refine opN rfl rfl rfl rfl ?_
        refine opN rfl rfl rfl rfl ?_
        refine op (y (x_pickT rfl rfl) rfl ?_)
        refine op (y (x_assign rfl) rfl ?_)
        refine nil ?_
        refine n_then ?_
        refine ret ?_
        exact done rfl (.tmp rfl (.nil)) (Ro.le.refl _) (L) (subF (by (repeat (first | exact List.Sublist.refl _ | apply List.Sublist.cons_cons | apply List.Sublist.cons)); done)) (⟨by simp only [tupled, beyondM]; congr 1; grind, rfl, rfl⟩)
      · try simp only [decide_eq_true_eq, decide_eq_false_iff_not, beq_iff_eq, bne_iff_ne, ne_eq, beq_eq_false_iff_ne, bne_eq_false_iff_eq, Bool.not_eq_true', Bool.not_eq_false', Bool.not_eq_true, Bool.not_eq_false, Decidable.not_not, Int.not_lt, Int.not_le] at g16
        refine opG rfl rfl (y (x_move rfl) rfl ?_)
        refine opG rfl rfl (y (x_move rfl) rfl ?_)
        refine opG rfl rfl (y (x_neg rfl _ (wr (by omega) (by omega))) rfl ?_)
        refine opG rfl rfl (y (x_lss rfl rfl) rfl ?_)
        refine op (y (x_pickF rfl rfl) rfl ?_)
        refine op (y (x_move rfl) rfl ?_)
        refine bsplit 22 rfl (fun g22 => ?_) (fun g22 => ?_)
        · try simp only [decide_eq_true_eq, decide_eq_false_iff_not, beq_iff_eq, bne_iff_ne, ne_eq, beq_eq_false_iff_ne, bne_eq_false_iff_eq, Bool.not_eq_true', Bool.not_eq_false', Bool.not_eq_true, Bool.not_eq_false, Decidable.not_not, Int.not_lt, Int.not_le] at g22
          refine opN rfl rfl rfl rfl ?_
          refine opN rfl rfl rfl rfl ?_
          refine opN rfl rfl rfl rfl ?_
          refine op (y (x_pickT rfl rfl) rfl ?_)
          refine op (y (x_assign rfl) rfl ?_)
          refine nil ?_
          refine n_then ?_
          refine ret ?_
          exact done rfl (.tmp rfl (.nil)) (Ro.le.refl _) (L) (subF (by (repeat (first | exact List.Sublist.refl _ | apply List.Sublist.cons_cons | apply List.Sublist.cons)); done)) (⟨by simp only [tupled, beyondM]; congr 1; grind, rfl, rfl⟩)
        · try simp only [decide_eq_true_eq, decide_eq_false_iff_not, beq_iff_eq, bne_iff_ne, ne_eq, beq_eq_false_iff_ne, bne_eq_false_iff_eq, Bool.not_eq_true', Bool.not_eq_false', Bool.not_eq_true, Bool.not_eq_false, Decidable.not_not, Int.not_lt, Int.not_le] at g22
          refine opG rfl rfl (y (x_move rfl) rfl ?_)
          refine opG rfl rfl (y (x_move rfl) rfl ?_)
          refine opG rfl rfl (y (x_gtr rfl rfl) rfl ?_)
          refine op (y (x_pickF rfl rfl) rfl ?_)
          refine op (y (x_assign rfl) rfl ?_)
          refine nil ?_
          refine n_then ?_
          refine ret ?_
          exact done rfl (.tmp rfl (.nil)) (Ro.le.refl _) (L) (subF (by (repeat (first | exact List.Sublist.refl _ | apply List.Sublist.cons_cons | apply List.Sublist.cons)); done)) (⟨by simp only [tupled, beyondM]; congr 1; grind, rfl, rfl⟩)

set_option maxHeartbeats 2000000 in
theorem Do_c (s : Sn) (oc key val : Int) (er : Nat → Addr) (ro : Ro) (L : List (List Blk)) (hG : Glob er ro) (hn : -1000000000000000 ≤ s.num ∧ s.num ≤ 1000000000000000)
    (hd : doM s.v oc key val = 0 → ∀ (ro' : Ro) (L' : List (List Blk)), ro.le ro' → CT Tryz.prog (deedF oc) [.agg (encSn s).toArray, .int .i64 key, .int .i64 val].toArray ro' L' (PDeed oc key val s L')) :
    CT Tryz.prog 14 [.agg (encSn s).toArray, .int .i64 oc, .int .i64 key, .int .i64 val].toArray ro L (PDo er s oc key val L) := by
  refine enter Tryz.func14 rfl Tryz.ntmps14 rfl ?_
  refine seq ?_
  refine region ?_
  refine op (e_box rfl rfl rfl fun b4 => ?_)
  refine op (e_alloc rfl zc_29 rfl fun b8 => ?_)
  refine op (y (x_assign rfl) rfl ?_)
  refine op (y (x_assign rfl) rfl ?_)
  refine op (y (x_assign rfl) rfl ?_)
  refine nil ?_
  refine n_then ?_
  refine seq ?_
  refine seq ?_
  refine drawL (by kernel_rfl) ?_
  refine d_take 0 rfl (by kernel_rfl) (by kernel_rfl) (by kernel_rfl) (fun _ _ _ h => h) rfl (.inl rfl) (x_fieldAddr fo_29_0 rfl) (fun w hi => by first | exact hi.j | exact J.of_le (Ro.le.refl _) (fun x hx => List.mem_append_right _ hx) hi | exact J.of_le (Ro.le.refl _) (fun x hx => List.mem_append_right _ (List.mem_append_right _ hx)) hi | exact J.of_le (Ro.le.refl _) (fun x hx => absurd hx (by simp)) hi | exact J.of_le (by assumption) (fun x hx => absurd hx (by simp)) hi) ?_
  refine d_take 1 rfl (by kernel_rfl) (by kernel_rfl) (by kernel_rfl) (fun _ _ _ h => h) rfl (.inl rfl) (x_load1 ag_3 rfl (by first | assumption | exact Cell.own 0 rfl rfl | exact Cell.own 1 rfl rfl | exact Cell.own 2 rfl rfl | exact Cell.own 3 rfl rfl | exact Cell.own 4 rfl rfl | exact Cell.own 5 rfl rfl | exact Cell.own 6 rfl rfl | exact Cell.own 7 rfl rfl | exact Cell.own 8 rfl rfl | exact Cell.own 9 rfl rfl | exact Cell.ofRo (by assumption))) (fun w hi => by first | exact hi.j | exact J.of_le (Ro.le.refl _) (fun x hx => List.mem_append_right _ hx) hi | exact J.of_le (Ro.le.refl _) (fun x hx => List.mem_append_right _ (List.mem_append_right _ hx)) hi | exact J.of_le (Ro.le.refl _) (fun x hx => absurd hx (by simp)) hi | exact J.of_le (by assumption) (fun x hx => absurd hx (by simp)) hi) ?_
  refine d_take 2 rfl (by kernel_rfl) (by kernel_rfl) (by kernel_rfl) (fun _ _ _ h => h) rfl (.inl rfl) (x_eql rfl rfl) (fun w hi => by first | exact hi.j | exact J.of_le (Ro.le.refl _) (fun x hx => List.mem_append_right _ hx) hi | exact J.of_le (Ro.le.refl _) (fun x hx => List.mem_append_right _ (List.mem_append_right _ hx)) hi | exact J.of_le (Ro.le.refl _) (fun x hx => absurd hx (by simp)) hi | exact J.of_le (by assumption) (fun x hx => absurd hx (by simp)) hi) ?_
  refine d_take 3 rfl (by kernel_rfl) (by kernel_rfl) (by kernel_rfl) (fun _ _ _ h => h) rfl (.inl rfl) (x_move rfl) (fun w hi => by first | exact hi.j | exact J.of_le (Ro.le.refl _) (fun x hx => List.mem_append_right _ hx) hi | exact J.of_le (Ro.le.refl _) (fun x hx => List.mem_append_right _ (List.mem_append_right _ hx)) hi | exact J.of_le (Ro.le.refl _) (fun x hx => absurd hx (by simp)) hi | exact J.of_le (by assumption) (fun x hx => absurd hx (by simp)) hi) ?_
  refine bsplit 18 rfl (fun g18 => ?_) (fun g18 => ?_)
  · try simp only [decide_eq_true_eq, decide_eq_false_iff_not, beq_iff_eq, bne_iff_ne, ne_eq, beq_eq_false_iff_ne, bne_eq_false_iff_eq, Bool.not_eq_true', Bool.not_eq_false', Bool.not_eq_true, Bool.not_eq_false, Decidable.not_not, Int.not_lt, Int.not_le] at g18
    refine d_skip 4 rfl (by kernel_rfl) (by kernel_rfl) (by kernel_rfl) (fun _ _ _ h => h) rfl rfl rfl rfl (fun w hi => by first | exact hi.j | exact J.of_le (Ro.le.refl _) (fun x hx => List.mem_append_right _ hx) hi | exact J.of_le (Ro.le.refl _) (fun x hx => List.mem_append_right _ (List.mem_append_right _ hx)) hi | exact J.of_le (Ro.le.refl _) (fun x hx => absurd hx (by simp)) hi | exact J.of_le (by assumption) (fun x hx => absurd hx (by simp)) hi) ?_
    refine d_skip 5 rfl (by kernel_rfl) (by kernel_rfl) (by kernel_rfl) (fun _ _ _ h => h) rfl rfl rfl rfl (fun w hi => by first | exact hi.j | exact J.of_le (Ro.le.refl _) (fun x hx => List.mem_append_right _ hx) hi | exact J.of_le (Ro.le.refl _) (fun x hx => List.mem_append_right _ (List.mem_append_right _ hx)) hi | exact J.of_le (Ro.le.refl _) (fun x hx => absurd hx (by simp)) hi | exact J.of_le (by assumption) (fun x hx => absurd hx (by simp)) hi) ?_
    refine d_skip 6 rfl (by kernel_rfl) (by kernel_rfl) (by kernel_rfl) (fun _ _ _ h => h) rfl rfl rfl rfl (fun w hi => by first | exact hi.j | exact J.of_le (Ro.le.refl _) (fun x hx => List.mem_append_right _ hx) hi | exact J.of_le (Ro.le.refl _) (fun x hx => List.mem_append_right _ (List.mem_append_right _ hx)) hi | exact J.of_le (Ro.le.refl _) (fun x hx => absurd hx (by simp)) hi | exact J.of_le (by assumption) (fun x hx => absurd hx (by simp)) hi) ?_
    refine d_skip 7 rfl (by kernel_rfl) (by kernel_rfl) (by kernel_rfl) (fun _ _ _ h => h) rfl rfl rfl rfl (fun w hi => by first | exact hi.j | exact J.of_le (Ro.le.refl _) (fun x hx => List.mem_append_right _ hx) hi | exact J.of_le (Ro.le.refl _) (fun x hx => List.mem_append_right _ (List.mem_append_right _ hx)) hi | exact J.of_le (Ro.le.refl _) (fun x hx => absurd hx (by simp)) hi | exact J.of_le (by assumption) (fun x hx => absurd hx (by simp)) hi) ?_
    refine d_skip 8 rfl (by kernel_rfl) (by kernel_rfl) (by kernel_rfl) (fun _ _ _ h => h) rfl rfl rfl rfl (fun w hi => by first | exact hi.j | exact J.of_le (Ro.le.refl _) (fun x hx => List.mem_append_right _ hx) hi | exact J.of_le (Ro.le.refl _) (fun x hx => List.mem_append_right _ (List.mem_append_right _ hx)) hi | exact J.of_le (Ro.le.refl _) (fun x hx => absurd hx (by simp)) hi | exact J.of_le (by assumption) (fun x hx => absurd hx (by simp)) hi) ?_
    refine d_take 9 rfl (by kernel_rfl) (by kernel_rfl) (by kernel_rfl) (fun _ _ _ h => h) rfl (.inl rfl) (x_pickT rfl rfl) (fun w hi => by first | exact hi.j | exact J.of_le (Ro.le.refl _) (fun x hx => List.mem_append_right _ hx) hi | exact J.of_le (Ro.le.refl _) (fun x hx => List.mem_append_right _ (List.mem_append_right _ hx)) hi | exact J.of_le (Ro.le.refl _) (fun x hx => absurd hx (by simp)) hi | exact J.of_le (by assumption) (fun x hx => absurd hx (by simp)) hi) ?_
    refine d_end (by kernel_rfl) ?_
    refine n_then ?_
    refine condT rfl ?_
    refine seq ?_
    have hj : doM s.v oc key val = 1 := by unfold doM; rw [if_pos (by show s.kind = 0 ∨ ofK oc ≠ s.kind; grind)]
    have hGc := hG.err 0 (by omega) (by omega) (by omega)
    refine draw (([] : List Blk)) (by kernel_rfl) ?_
    refine d_take 0 rfl (by kernel_rfl) (by kernel_rfl) (by kernel_rfl) (fun _ _ _ h => h) rfl (.inl rfl) (x_build bu_29 rfl rfl) (fun w hi => J.of_le (Ro.le.refl _) (fun x hx => absurd hx (by simp)) hi) ?_
    refine d_take 1 rfl (by kernel_rfl) (by kernel_rfl) (by kernel_rfl) (fun _ _ _ h => h) rfl (.inl rfl) (x_load1 ag_31 rfl (Cell.ofRo hGc)) (fun w hi => J.of_le (Ro.le.refl _) (fun x hx => absurd hx (by simp)) hi) ?_
    first | refine d_one 2 rfl (by kernel_rfl) (.inl rfl) (e_store 0 rfl rfl ts_29 rfl rfl rfl rfl rfl rfl ?_) | refine d_one 2 rfl (by kernel_rfl) (.inl rfl) (e_store 1 rfl rfl ts_29 rfl rfl rfl rfl rfl rfl ?_) | refine d_one 2 rfl (by kernel_rfl) (.inl rfl) (e_store 2 rfl rfl ts_29 rfl rfl rfl rfl rfl rfl ?_) | refine d_one 2 rfl (by kernel_rfl) (.inl rfl) (e_store 3 rfl rfl ts_29 rfl rfl rfl rfl rfl rfl ?_) | refine d_one 2 rfl (by kernel_rfl) (.inl rfl) (e_store 4 rfl rfl ts_29 rfl rfl rfl rfl rfl rfl ?_) | refine d_one 2 rfl (by kernel_rfl) (.inl rfl) (e_store 5 rfl rfl ts_29 rfl rfl rfl rfl rfl rfl ?_) | refine d_one 2 rfl (by kernel_rfl) (.inl rfl) (e_store 6 rfl rfl ts_29 rfl rfl rfl rfl rfl rfl ?_) | refine d_one 2 rfl (by kernel_rfl) (.inl rfl) (e_store 7 rfl rfl ts_29 rfl rfl rfl rfl rfl rfl ?_) | refine d_one 2 rfl (by kernel_rfl) (.inl rfl) (e_store 8 rfl rfl ts_29 rfl rfl rfl rfl rfl rfl ?_) | refine d_one 2 rfl (by kernel_rfl) (.inl rfl) (e_store 9 rfl rfl ts_29 rfl rfl rfl rfl rfl rfl ?_)
    refine d_next (fun w hi => J.of_le (Ro.le.refl _) (fun x hx => absurd hx (by simp)) hi) ?_
    refine d_take 3 rfl (by kernel_rfl) (by kernel_rfl) (by kernel_rfl) (fun _ _ _ h => h) rfl (.inl rfl) (x_assign rfl) (fun w hi => J.of_le (Ro.le.refl _) (fun x hx => absurd hx (by simp)) hi) ?_
    refine d_take 4 rfl (by kernel_rfl) (by kernel_rfl) (by kernel_rfl) (fun _ _ _ h => h) rfl (.inl rfl) (x_assign rfl) (fun w hi => J.of_le (Ro.le.refl _) (fun x hx => absurd hx (by simp)) hi) ?_
    refine d_take 5 rfl (by kernel_rfl) (by kernel_rfl) (by kernel_rfl) (fun _ _ _ h => h) rfl (.inl rfl) (x_assign rfl) (fun w hi => J.of_le (Ro.le.refl _) (fun x hx => absurd hx (by simp)) hi) ?_
    refine d_end (by kernel_rfl) ?_
    refine n_then ?_
    refine ret ?_
    refine r_then ?_
    exact done rfl (Res.cellN ag_29 rfl rfl (CellsAt.own 0 0 4 _ rfl rfl) (.tmp rfl (.tmp rfl (.tmp rfl (.nil))))) (Ro.le.refl _) (L) (subF (by (repeat (first | exact List.Sublist.refl _ | apply List.Sublist.cons_cons | apply List.Sublist.cons)); done)) (⟨zeroSn, 0, 0, by rw [hj]; rfl, SnOk.bare 0 0, rfl, .inr ⟨by omega, rfl, rfl, rfl⟩⟩)
  · try simp only [decide_eq_true_eq, decide_eq_false_iff_not, beq_iff_eq, bne_iff_ne, ne_eq, beq_eq_false_iff_ne, bne_eq_false_iff_eq, Bool.not_eq_true', Bool.not_eq_false', Bool.not_eq_true, Bool.not_eq_false, Decidable.not_not, Int.not_lt, Int.not_le] at g18
    refine d_take 4 rfl (by kernel_rfl) (by kernel_rfl) (by kernel_rfl) (fun _ _ _ h => h) rfl (.inr ⟨_, _, _, rfl, rfl, rfl⟩) (x_move rfl) (fun w hi => by first | exact hi.j | exact J.of_le (Ro.le.refl _) (fun x hx => List.mem_append_right _ hx) hi | exact J.of_le (Ro.le.refl _) (fun x hx => List.mem_append_right _ (List.mem_append_right _ hx)) hi | exact J.of_le (Ro.le.refl _) (fun x hx => absurd hx (by simp)) hi | exact J.of_le (by assumption) (fun x hx => absurd hx (by simp)) hi) ?_
    refine d_take 6 rfl (by kernel_rfl) (by kernel_rfl) (by kernel_rfl) (fun _ _ _ h => h) rfl (.inr ⟨_, _, _, rfl, rfl, rfl⟩) (x_fieldAddr fo_29_0 rfl) (fun w hi => by first | exact hi.j | exact J.of_le (Ro.le.refl _) (fun x hx => List.mem_append_right _ hx) hi | exact J.of_le (Ro.le.refl _) (fun x hx => List.mem_append_right _ (List.mem_append_right _ hx)) hi | exact J.of_le (Ro.le.refl _) (fun x hx => absurd hx (by simp)) hi | exact J.of_le (by assumption) (fun x hx => absurd hx (by simp)) hi) ?_
    refine d_take 7 rfl (by kernel_rfl) (by kernel_rfl) (by kernel_rfl) (fun _ _ _ h => h) rfl (.inr ⟨_, _, _, rfl, rfl, rfl⟩) (x_load1 ag_3 rfl (by first | assumption | exact Cell.own 0 rfl rfl | exact Cell.own 1 rfl rfl | exact Cell.own 2 rfl rfl | exact Cell.own 3 rfl rfl | exact Cell.own 4 rfl rfl | exact Cell.own 5 rfl rfl | exact Cell.own 6 rfl rfl | exact Cell.own 7 rfl rfl | exact Cell.own 8 rfl rfl | exact Cell.own 9 rfl rfl | exact Cell.ofRo (by assumption))) (fun w hi => by first | exact hi.j | exact J.of_le (Ro.le.refl _) (fun x hx => List.mem_append_right _ hx) hi | exact J.of_le (Ro.le.refl _) (fun x hx => List.mem_append_right _ (List.mem_append_right _ hx)) hi | exact J.of_le (Ro.le.refl _) (fun x hx => absurd hx (by simp)) hi | exact J.of_le (by assumption) (fun x hx => absurd hx (by simp)) hi) ?_
    refine d_one 5 rfl (by kernel_rfl) (.inr ⟨_, _, _, rfl, rfl, rfl⟩) (e_call rfl fn_48 rfl rfl (Of_c oc _ _) fun v20 ro20 L20 hle20 hp20 => ?_)
    obtain ⟨rfl, rfl, rfl⟩ := hp20
    refine d_next (fun w hi => by first | exact hi.j | exact J.of_le (Ro.le.refl _) (fun x hx => List.mem_append_right _ hx) hi | exact J.of_le (Ro.le.refl _) (fun x hx => List.mem_append_right _ (List.mem_append_right _ hx)) hi | exact J.of_le (Ro.le.refl _) (fun x hx => absurd hx (by simp)) hi | exact J.of_le (by assumption) (fun x hx => absurd hx (by simp)) hi) ?_
    refine d_take 8 rfl (by kernel_rfl) (by kernel_rfl) (by kernel_rfl) (fun _ _ _ h => h) rfl (.inr ⟨_, _, _, rfl, rfl, rfl⟩) (x_neq rfl rfl) (fun w hi => by first | exact hi.j | exact J.of_le (Ro.le.refl _) (fun x hx => List.mem_append_right _ hx) hi | exact J.of_le (Ro.le.refl _) (fun x hx => List.mem_append_right _ (List.mem_append_right _ hx)) hi | exact J.of_le (Ro.le.refl _) (fun x hx => absurd hx (by simp)) hi | exact J.of_le (by assumption) (fun x hx => absurd hx (by simp)) hi) ?_
    refine d_take 9 rfl (by kernel_rfl) (by kernel_rfl) (by kernel_rfl) (fun _ _ _ h => h) rfl (.inl rfl) (x_pickF rfl rfl) (fun w hi => by first | exact hi.j | exact J.of_le (Ro.le.refl _) (fun x hx => List.mem_append_right _ hx) hi | exact J.of_le (Ro.le.refl _) (fun x hx => List.mem_append_right _ (List.mem_append_right _ hx)) hi | exact J.of_le (Ro.le.refl _) (fun x hx => absurd hx (by simp)) hi | exact J.of_le (by assumption) (fun x hx => absurd hx (by simp)) hi) ?_
    refine d_end (by kernel_rfl) ?_
    refine n_then ?_
    refine cond rfl (fun h1 => ?_) (fun h1 => ?_)
    · try simp only [decide_eq_true_eq, decide_eq_false_iff_not, beq_iff_eq, bne_iff_ne, ne_eq, beq_eq_false_iff_ne, bne_eq_false_iff_eq, Bool.not_eq_true', Bool.not_eq_false', Bool.not_eq_true, Bool.not_eq_false, Decidable.not_not, Int.not_lt, Int.not_le] at h1
      refine seq ?_
      have hj : doM s.v oc key val = 1 := by unfold doM; rw [if_pos (by show s.kind = 0 ∨ ofK oc ≠ s.kind; grind)]
      have hGc := hG.err 0 (by omega) (by omega) (by omega)
      refine draw (([] : List Blk)) (by kernel_rfl) ?_
      refine d_take 0 rfl (by kernel_rfl) (by kernel_rfl) (by kernel_rfl) (fun _ _ _ h => h) rfl (.inl rfl) (x_build bu_29 rfl rfl) (fun w hi => J.of_le (Ro.le.refl _) (fun x hx => absurd hx (by simp)) hi) ?_
      refine d_take 1 rfl (by kernel_rfl) (by kernel_rfl) (by kernel_rfl) (fun _ _ _ h => h) rfl (.inl rfl) (x_load1 ag_31 rfl (Cell.ofRo hGc)) (fun w hi => J.of_le (Ro.le.refl _) (fun x hx => absurd hx (by simp)) hi) ?_
      first | refine d_one 2 rfl (by kernel_rfl) (.inl rfl) (e_store 0 rfl rfl ts_29 rfl rfl rfl rfl rfl rfl ?_) | refine d_one 2 rfl (by kernel_rfl) (.inl rfl) (e_store 1 rfl rfl ts_29 rfl rfl rfl rfl rfl rfl ?_) | refine d_one 2 rfl (by kernel_rfl) (.inl rfl) (e_store 2 rfl rfl ts_29 rfl rfl rfl rfl rfl rfl ?_) | refine d_one 2 rfl (by kernel_rfl) (.inl rfl) (e_store 3 rfl rfl ts_29 rfl rfl rfl rfl rfl rfl ?_) | refine d_one 2 rfl (by kernel_rfl) (.inl rfl) (e_store 4 rfl rfl ts_29 rfl rfl rfl rfl rfl rfl ?_) | refine d_one 2 rfl (by kernel_rfl) (.inl rfl) (e_store 5 rfl rfl ts_29 rfl rfl rfl rfl rfl rfl ?_) | refine d_one 2 rfl (by kernel_rfl) (.inl rfl) (e_store 6 rfl rfl ts_29 rfl rfl rfl rfl rfl rfl ?_) | refine d_one 2 rfl (by kernel_rfl) (.inl rfl) (e_store 7 rfl rfl ts_29 rfl rfl rfl rfl rfl rfl ?_) | refine d_one 2 rfl (by kernel_rfl) (.inl rfl) (e_store 8 rfl rfl ts_29 rfl rfl rfl rfl rfl rfl ?_) | refine d_one 2 rfl (by kernel_rfl) (.inl rfl) (e_store 9 rfl rfl ts_29 rfl rfl rfl rfl rfl rfl ?_)
      refine d_next (fun w hi => J.of_le (Ro.le.refl _) (fun x hx => absurd hx (by simp)) hi) ?_
      refine d_take 3 rfl (by kernel_rfl) (by kernel_rfl) (by kernel_rfl) (fun _ _ _ h => h) rfl (.inl rfl) (x_assign rfl) (fun w hi => J.of_le (Ro.le.refl _) (fun x hx => absurd hx (by simp)) hi) ?_
      refine d_take 4 rfl (by kernel_rfl) (by kernel_rfl) (by kernel_rfl) (fun _ _ _ h => h) rfl (.inl rfl) (x_assign rfl) (fun w hi => J.of_le (Ro.le.refl _) (fun x hx => absurd hx (by simp)) hi) ?_
      refine d_take 5 rfl (by kernel_rfl) (by kernel_rfl) (by kernel_rfl) (fun _ _ _ h => h) rfl (.inl rfl) (x_assign rfl) (fun w hi => J.of_le (Ro.le.refl _) (fun x hx => absurd hx (by simp)) hi) ?_
      refine d_end (by kernel_rfl) ?_
      refine n_then ?_
      refine ret ?_
      refine r_then ?_
      exact done rfl (Res.cellN ag_29 rfl rfl (CellsAt.own 0 0 4 _ rfl rfl) (.tmp rfl (.tmp rfl (.tmp rfl (.nil))))) (Ro.le.refl _) (L) (subF (by (repeat (first | exact List.Sublist.refl _ | apply List.Sublist.cons_cons | apply List.Sublist.cons)); done)) (⟨zeroSn, 0, 0, by rw [hj]; rfl, SnOk.bare 0 0, rfl, .inr ⟨by omega, rfl, rfl, rfl⟩⟩)
    · try simp only [decide_eq_true_eq, decide_eq_false_iff_not, beq_iff_eq, bne_iff_ne, ne_eq, beq_eq_false_iff_ne, bne_eq_false_iff_eq, Bool.not_eq_true', Bool.not_eq_false', Bool.not_eq_true, Bool.not_eq_false, Decidable.not_not, Int.not_lt, Int.not_le] at h1
      refine skip ?_
      refine n_then ?_
      refine seqM (fun F ro' L' => (F = [(1, .int .i64 oc), (2, .int .i64 key), (3, .int .i64 val), (4, .pointer (some ⟨b4, 0, none⟩)), (8, .pointer (some ⟨b8, 0, none⟩))]) ∧ (ro = ro') ∧ (L' = [(b8, Obj.cells (encSn zeroSn).toArray 29 (0, 0))] :: [(b4, Obj.cells (encSn s).toArray 29 (0, 0))] :: L) ∧ (¬ (s.v.kind = 0 ∨ ofK oc ≠ s.v.kind)) ∧ (argsOk oc key val)) ?_ ?_
      · skip
        refine seq ?_
        have hk : ¬ (s.v.kind = 0 ∨ ofK oc ≠ s.v.kind) := by show ¬ (s.kind = 0 ∨ ofK oc ≠ s.kind); grind
        refine region ?_
        refine op (y (x_move rfl) rfl ?_)
        refine op (y (x_neq rfl rfl) rfl ?_)
        refine op (y (x_move rfl) rfl ?_)
        refine bsplit 29 rfl (fun g29 => ?_) (fun g29 => ?_)
        · try simp only [decide_eq_true_eq, decide_eq_false_iff_not, beq_iff_eq, bne_iff_ne, ne_eq, beq_eq_false_iff_ne, bne_eq_false_iff_eq, Bool.not_eq_true', Bool.not_eq_false', Bool.not_eq_true, Bool.not_eq_false, Decidable.not_not, Int.not_lt, Int.not_le] at g29
          refine opG rfl rfl (y (x_move rfl) rfl ?_)
          refine opG rfl rfl (e_call rfl fn_49 rfl rfl (Keyed_c oc _ _) fun v31 ro31 L31 hle31 hp31 => ?_)
          obtain ⟨rfl, rfl, rfl⟩ := hp31
          refine opG rfl rfl (y (x_not rfl) rfl ?_)
          refine op (y (x_pickT rfl rfl) rfl ?_)
          refine op (y (x_move rfl) rfl ?_)
          refine bsplit 34 rfl (fun g34 => ?_) (fun g34 => ?_)
          · try simp only [decide_eq_true_eq, decide_eq_false_iff_not, beq_iff_eq, bne_iff_ne, ne_eq, beq_eq_false_iff_ne, bne_eq_false_iff_eq, Bool.not_eq_true', Bool.not_eq_false', Bool.not_eq_true, Bool.not_eq_false, Decidable.not_not, Int.not_lt, Int.not_le] at g34
            refine opN rfl rfl rfl rfl ?_
            refine opN rfl rfl rfl rfl ?_
            refine op (y (x_pickT rfl rfl) rfl ?_)
            refine op (y (x_move rfl) rfl ?_)
            refine opN rfl rfl rfl rfl ?_
            refine opN rfl rfl rfl rfl ?_
            refine op (y (x_pickT rfl rfl) rfl ?_)
            refine op (y (x_move rfl) rfl ?_)
            refine opN rfl rfl rfl rfl ?_
            refine opN rfl rfl rfl rfl ?_
            refine opN rfl rfl rfl rfl ?_
            refine opU rfl rfl rfl ?_
            refine opU rfl rfl rfl ?_
            refine opU rfl rfl rfl ?_
            refine opN rfl rfl rfl rfl ?_
            refine op (y (x_pickT rfl rfl) rfl ?_)
            refine op (y (x_move rfl) rfl ?_)
            refine opN rfl rfl rfl rfl ?_
            refine opN rfl rfl rfl rfl ?_
            refine op (y (x_pickT rfl rfl) rfl ?_)
            refine op (y (x_move rfl) rfl ?_)
            refine opN rfl rfl rfl rfl ?_
            refine opN rfl rfl rfl rfl ?_
            refine op (y (x_pickT rfl rfl) rfl ?_)
            refine nil ?_
            refine n_then ?_
            refine condT rfl ?_
            refine seq ?_
            have hj : doM s.v oc key val = 2 := by unfold doM; rw [if_neg hk, if_pos (by unfold argsOk; grind)]
            have hGc := hG.err 2 (by omega) (by omega) (by omega)
            refine draw (([] : List Blk)) (by kernel_rfl) ?_
            refine d_take 0 rfl (by kernel_rfl) (by kernel_rfl) (by kernel_rfl) (fun _ _ _ h => h) rfl (.inl rfl) (x_build bu_29 rfl rfl) (fun w hi => J.of_le (Ro.le.refl _) (fun x hx => absurd hx (by simp)) hi) ?_
            refine d_take 1 rfl (by kernel_rfl) (by kernel_rfl) (by kernel_rfl) (fun _ _ _ h => h) rfl (.inl rfl) (x_load1 ag_31 rfl (Cell.ofRo hGc)) (fun w hi => J.of_le (Ro.le.refl _) (fun x hx => absurd hx (by simp)) hi) ?_
            first | refine d_one 2 rfl (by kernel_rfl) (.inl rfl) (e_store 0 rfl rfl ts_29 rfl rfl rfl rfl rfl rfl ?_) | refine d_one 2 rfl (by kernel_rfl) (.inl rfl) (e_store 1 rfl rfl ts_29 rfl rfl rfl rfl rfl rfl ?_) | refine d_one 2 rfl (by kernel_rfl) (.inl rfl) (e_store 2 rfl rfl ts_29 rfl rfl rfl rfl rfl rfl ?_) | refine d_one 2 rfl (by kernel_rfl) (.inl rfl) (e_store 3 rfl rfl ts_29 rfl rfl rfl rfl rfl rfl ?_) | refine d_one 2 rfl (by kernel_rfl) (.inl rfl) (e_store 4 rfl rfl ts_29 rfl rfl rfl rfl rfl rfl ?_) | refine d_one 2 rfl (by kernel_rfl) (.inl rfl) (e_store 5 rfl rfl ts_29 rfl rfl rfl rfl rfl rfl ?_) | refine d_one 2 rfl (by kernel_rfl) (.inl rfl) (e_store 6 rfl rfl ts_29 rfl rfl rfl rfl rfl rfl ?_) | refine d_one 2 rfl (by kernel_rfl) (.inl rfl) (e_store 7 rfl rfl ts_29 rfl rfl rfl rfl rfl rfl ?_) | refine d_one 2 rfl (by kernel_rfl) (.inl rfl) (e_store 8 rfl rfl ts_29 rfl rfl rfl rfl rfl rfl ?_) | refine d_one 2 rfl (by kernel_rfl) (.inl rfl) (e_store 9 rfl rfl ts_29 rfl rfl rfl rfl rfl rfl ?_)
            refine d_next (fun w hi => J.of_le (Ro.le.refl _) (fun x hx => absurd hx (by simp)) hi) ?_
            refine d_take 3 rfl (by kernel_rfl) (by kernel_rfl) (by kernel_rfl) (fun _ _ _ h => h) rfl (.inl rfl) (x_assign rfl) (fun w hi => J.of_le (Ro.le.refl _) (fun x hx => absurd hx (by simp)) hi) ?_
            refine d_take 4 rfl (by kernel_rfl) (by kernel_rfl) (by kernel_rfl) (fun _ _ _ h => h) rfl (.inl rfl) (x_assign rfl) (fun w hi => J.of_le (Ro.le.refl _) (fun x hx => absurd hx (by simp)) hi) ?_
            refine d_take 5 rfl (by kernel_rfl) (by kernel_rfl) (by kernel_rfl) (fun _ _ _ h => h) rfl (.inl rfl) (x_assign rfl) (fun w hi => J.of_le (Ro.le.refl _) (fun x hx => absurd hx (by simp)) hi) ?_
            refine d_end (by kernel_rfl) ?_
            refine n_then ?_
            refine ret ?_
            refine r_then ?_
            exact done rfl (Res.cellN ag_29 rfl rfl (CellsAt.own 0 0 4 _ rfl rfl) (.tmp rfl (.tmp rfl (.tmp rfl (.nil))))) (Ro.le.refl _) (L) (subF (by (repeat (first | exact List.Sublist.refl _ | apply List.Sublist.cons_cons | apply List.Sublist.cons)); done)) (⟨zeroSn, 0, 0, by rw [hj]; rfl, SnOk.bare 0 0, rfl, .inr ⟨by omega, rfl, rfl, rfl⟩⟩)
          · try simp only [decide_eq_true_eq, decide_eq_false_iff_not, beq_iff_eq, bne_iff_ne, ne_eq, beq_eq_false_iff_ne, bne_eq_false_iff_eq, Bool.not_eq_true', Bool.not_eq_false', Bool.not_eq_true, Bool.not_eq_false, Decidable.not_not, Int.not_lt, Int.not_le] at g34
            refine opG rfl rfl (y (x_move rfl) rfl ?_)
            refine opG rfl rfl (y (x_lss rfl rfl) rfl ?_)
            refine op (y (x_pickF rfl rfl) rfl ?_)
            refine op (y (x_move rfl) rfl ?_)
            refine bsplit 38 rfl (fun g38 => ?_) (fun g38 => ?_)
            · try simp only [decide_eq_true_eq, decide_eq_false_iff_not, beq_iff_eq, bne_iff_ne, ne_eq, beq_eq_false_iff_ne, bne_eq_false_iff_eq, Bool.not_eq_true', Bool.not_eq_false', Bool.not_eq_true, Bool.not_eq_false, Decidable.not_not, Int.not_lt, Int.not_le] at g38
              refine opN rfl rfl rfl rfl ?_
              refine opN rfl rfl rfl rfl ?_
              refine op (y (x_pickT rfl rfl) rfl ?_)
              refine op (y (x_move rfl) rfl ?_)
              refine opN rfl rfl rfl rfl ?_
              refine opN rfl rfl rfl rfl ?_
              refine opN rfl rfl rfl rfl ?_
              refine opU rfl rfl rfl ?_
              refine opU rfl rfl rfl ?_
              refine opU rfl rfl rfl ?_
              refine opN rfl rfl rfl rfl ?_
              refine op (y (x_pickT rfl rfl) rfl ?_)
              refine op (y (x_move rfl) rfl ?_)
              refine opN rfl rfl rfl rfl ?_
              refine opN rfl rfl rfl rfl ?_
              refine op (y (x_pickT rfl rfl) rfl ?_)
              refine op (y (x_move rfl) rfl ?_)
              refine opN rfl rfl rfl rfl ?_
              refine opN rfl rfl rfl rfl ?_
              refine op (y (x_pickT rfl rfl) rfl ?_)
              refine nil ?_
              refine n_then ?_
              refine condT rfl ?_
              refine seq ?_
              have hj : doM s.v oc key val = 2 := by unfold doM; rw [if_neg hk, if_pos (by unfold argsOk; grind)]
              have hGc := hG.err 2 (by omega) (by omega) (by omega)
              refine draw (([] : List Blk)) (by kernel_rfl) ?_
              refine d_take 0 rfl (by kernel_rfl) (by kernel_rfl) (by kernel_rfl) (fun _ _ _ h => h) rfl (.inl rfl) (x_build bu_29 rfl rfl) (fun w hi => J.of_le (Ro.le.refl _) (fun x hx => absurd hx (by simp)) hi) ?_
              refine d_take 1 rfl (by kernel_rfl) (by kernel_rfl) (by kernel_rfl) (fun _ _ _ h => h) rfl (.inl rfl) (x_load1 ag_31 rfl (Cell.ofRo hGc)) (fun w hi => J.of_le (Ro.le.refl _) (fun x hx => absurd hx (by simp)) hi) ?_
              first | refine d_one 2 rfl (by kernel_rfl) (.inl rfl) (e_store 0 rfl rfl ts_29 rfl rfl rfl rfl rfl rfl ?_) | refine d_one 2 rfl (by kernel_rfl) (.inl rfl) (e_store 1 rfl rfl ts_29 rfl rfl rfl rfl rfl rfl ?_) | refine d_one 2 rfl (by kernel_rfl) (.inl rfl) (e_store 2 rfl rfl ts_29 rfl rfl rfl rfl rfl rfl ?_) | refine d_one 2 rfl (by kernel_rfl) (.inl rfl) (e_store 3 rfl rfl ts_29 rfl rfl rfl rfl rfl rfl ?_) | refine d_one 2 rfl (by kernel_rfl) (.inl rfl) (e_store 4 rfl rfl ts_29 rfl rfl rfl rfl rfl rfl ?_) | refine d_one 2 rfl (by kernel_rfl) (.inl rfl) (e_store 5 rfl rfl ts_29 rfl rfl rfl rfl rfl rfl ?_) | refine d_one 2 rfl (by kernel_rfl) (.inl rfl) (e_store 6 rfl rfl ts_29 rfl rfl rfl rfl rfl rfl ?_) | refine d_one 2 rfl (by kernel_rfl) (.inl rfl) (e_store 7 rfl rfl ts_29 rfl rfl rfl rfl rfl rfl ?_) | refine d_one 2 rfl (by kernel_rfl) (.inl rfl) (e_store 8 rfl rfl ts_29 rfl rfl rfl rfl rfl rfl ?_) | refine d_one 2 rfl (by kernel_rfl) (.inl rfl) (e_store 9 rfl rfl ts_29 rfl rfl rfl rfl rfl rfl ?_)
              refine d_next (fun w hi => J.of_le (Ro.le.refl _) (fun x hx => absurd hx (by simp)) hi) ?_
              refine d_take 3 rfl (by kernel_rfl) (by kernel_rfl) (by kernel_rfl) (fun _ _ _ h => h) rfl (.inl rfl) (x_assign rfl) (fun w hi => J.of_le (Ro.le.refl _) (fun x hx => absurd hx (by simp)) hi) ?_
              refine d_take 4 rfl (by kernel_rfl) (by kernel_rfl) (by kernel_rfl) (fun _ _ _ h => h) rfl (.inl rfl) (x_assign rfl) (fun w hi => J.of_le (Ro.le.refl _) (fun x hx => absurd hx (by simp)) hi) ?_
              refine d_take 5 rfl (by kernel_rfl) (by kernel_rfl) (by kernel_rfl) (fun _ _ _ h => h) rfl (.inl rfl) (x_assign rfl) (fun w hi => J.of_le (Ro.le.refl _) (fun x hx => absurd hx (by simp)) hi) ?_
              refine d_end (by kernel_rfl) ?_
              refine n_then ?_
              refine ret ?_
              refine r_then ?_
              exact done rfl (Res.cellN ag_29 rfl rfl (CellsAt.own 0 0 4 _ rfl rfl) (.tmp rfl (.tmp rfl (.tmp rfl (.nil))))) (Ro.le.refl _) (L) (subF (by (repeat (first | exact List.Sublist.refl _ | apply List.Sublist.cons_cons | apply List.Sublist.cons)); done)) (⟨zeroSn, 0, 0, by rw [hj]; rfl, SnOk.bare 0 0, rfl, .inr ⟨by omega, rfl, rfl, rfl⟩⟩)
            · try simp only [decide_eq_true_eq, decide_eq_false_iff_not, beq_iff_eq, bne_iff_ne, ne_eq, beq_eq_false_iff_ne, bne_eq_false_iff_eq, Bool.not_eq_true', Bool.not_eq_false', Bool.not_eq_true, Bool.not_eq_false, Decidable.not_not, Int.not_lt, Int.not_le] at g38
              refine opG rfl rfl (y (x_move rfl) rfl ?_)
              refine opG rfl rfl (y (x_gtr rfl rfl) rfl ?_)
              refine op (y (x_pickF rfl rfl) rfl ?_)
              refine op (y (x_move rfl) rfl ?_)
              refine bsplit 42 rfl (fun g42 => ?_) (fun g42 => ?_)
              · try simp only [decide_eq_true_eq, decide_eq_false_iff_not, beq_iff_eq, bne_iff_ne, ne_eq, beq_eq_false_iff_ne, bne_eq_false_iff_eq, Bool.not_eq_true', Bool.not_eq_false', Bool.not_eq_true, Bool.not_eq_false, Decidable.not_not, Int.not_lt, Int.not_le] at g42
                refine opN rfl rfl rfl rfl ?_
                refine opN rfl rfl rfl rfl ?_
                refine opN rfl rfl rfl rfl ?_
                refine opU rfl rfl rfl ?_
                refine opU rfl rfl rfl ?_
                refine opU rfl rfl rfl ?_
                refine opN rfl rfl rfl rfl ?_
                refine op (y (x_pickT rfl rfl) rfl ?_)
                refine op (y (x_move rfl) rfl ?_)
                refine opN rfl rfl rfl rfl ?_
                refine opN rfl rfl rfl rfl ?_
                refine op (y (x_pickT rfl rfl) rfl ?_)
                refine op (y (x_move rfl) rfl ?_)
                refine opN rfl rfl rfl rfl ?_
                refine opN rfl rfl rfl rfl ?_
                refine op (y (x_pickT rfl rfl) rfl ?_)
                refine nil ?_
                refine n_then ?_
                refine condT rfl ?_
                refine seq ?_
                have hj : doM s.v oc key val = 2 := by unfold doM; rw [if_neg hk, if_pos (by unfold argsOk; grind)]
                have hGc := hG.err 2 (by omega) (by omega) (by omega)
                refine draw (([] : List Blk)) (by kernel_rfl) ?_
                refine d_take 0 rfl (by kernel_rfl) (by kernel_rfl) (by kernel_rfl) (fun _ _ _ h => h) rfl (.inl rfl) (x_build bu_29 rfl rfl) (fun w hi => J.of_le (Ro.le.refl _) (fun x hx => absurd hx (by simp)) hi) ?_
                refine d_take 1 rfl (by kernel_rfl) (by kernel_rfl) (by kernel_rfl) (fun _ _ _ h => h) rfl (.inl rfl) (x_load1 ag_31 rfl (Cell.ofRo hGc)) (fun w hi => J.of_le (Ro.le.refl _) (fun x hx => absurd hx (by simp)) hi) ?_
                first | refine d_one 2 rfl (by kernel_rfl) (.inl rfl) (e_store 0 rfl rfl ts_29 rfl rfl rfl rfl rfl rfl ?_) | refine d_one 2 rfl (by kernel_rfl) (.inl rfl) (e_store 1 rfl rfl ts_29 rfl rfl rfl rfl rfl rfl ?_) | refine d_one 2 rfl (by kernel_rfl) (.inl rfl) (e_store 2 rfl rfl ts_29 rfl rfl rfl rfl rfl rfl ?_) | refine d_one 2 rfl (by kernel_rfl) (.inl rfl) (e_store 3 rfl rfl ts_29 rfl rfl rfl rfl rfl rfl ?_) | refine d_one 2 rfl (by kernel_rfl) (.inl rfl) (e_store 4 rfl rfl ts_29 rfl rfl rfl rfl rfl rfl ?_) | refine d_one 2 rfl (by kernel_rfl) (.inl rfl) (e_store 5 rfl rfl ts_29 rfl rfl rfl rfl rfl rfl ?_) | refine d_one 2 rfl (by kernel_rfl) (.inl rfl) (e_store 6 rfl rfl ts_29 rfl rfl rfl rfl rfl rfl ?_) | refine d_one 2 rfl (by kernel_rfl) (.inl rfl) (e_store 7 rfl rfl ts_29 rfl rfl rfl rfl rfl rfl ?_) | refine d_one 2 rfl (by kernel_rfl) (.inl rfl) (e_store 8 rfl rfl ts_29 rfl rfl rfl rfl rfl rfl ?_) | refine d_one 2 rfl (by kernel_rfl) (.inl rfl) (e_store 9 rfl rfl ts_29 rfl rfl rfl rfl rfl rfl ?_)
                refine d_next (fun w hi => J.of_le (Ro.le.refl _) (fun x hx => absurd hx (by simp)) hi) ?_
                refine d_take 3 rfl (by kernel_rfl) (by kernel_rfl) (by kernel_rfl) (fun _ _ _ h => h) rfl (.inl rfl) (x_assign rfl) (fun w hi => J.of_le (Ro.le.refl _) (fun x hx => absurd hx (by simp)) hi) ?_
                refine d_take 4 rfl (by kernel_rfl) (by kernel_rfl) (by kernel_rfl) (fun _ _ _ h => h) rfl (.inl rfl) (x_assign rfl) (fun w hi => J.of_le (Ro.le.refl _) (fun x hx => absurd hx (by simp)) hi) ?_
                refine d_take 5 rfl (by kernel_rfl) (by kernel_rfl) (by kernel_rfl) (fun _ _ _ h => h) rfl (.inl rfl) (x_assign rfl) (fun w hi => J.of_le (Ro.le.refl _) (fun x hx => absurd hx (by simp)) hi) ?_
                refine d_end (by kernel_rfl) ?_
                refine n_then ?_
                refine ret ?_
                refine r_then ?_
                exact done rfl (Res.cellN ag_29 rfl rfl (CellsAt.own 0 0 4 _ rfl rfl) (.tmp rfl (.tmp rfl (.tmp rfl (.nil))))) (Ro.le.refl _) (L) (subF (by (repeat (first | exact List.Sublist.refl _ | apply List.Sublist.cons_cons | apply List.Sublist.cons)); done)) (⟨zeroSn, 0, 0, by rw [hj]; rfl, SnOk.bare 0 0, rfl, .inr ⟨by omega, rfl, rfl, rfl⟩⟩)
              · try simp only [decide_eq_true_eq, decide_eq_false_iff_not, beq_iff_eq, bne_iff_ne, ne_eq, beq_eq_false_iff_ne, bne_eq_false_iff_eq, Bool.not_eq_true', Bool.not_eq_false', Bool.not_eq_true, Bool.not_eq_false, Decidable.not_not, Int.not_lt, Int.not_le] at g42
                refine opG rfl rfl (y (x_move rfl) rfl ?_)
                refine opG rfl rfl (y (x_neq rfl rfl) rfl ?_)
                refine opG rfl rfl (y (x_move rfl) rfl ?_)
                refine bsplit 45 rfl (fun g45 => ?_) (fun g45 => ?_)
                · try simp only [decide_eq_true_eq, decide_eq_false_iff_not, beq_iff_eq, bne_iff_ne, ne_eq, beq_eq_false_iff_ne, bne_eq_false_iff_eq, Bool.not_eq_true', Bool.not_eq_false', Bool.not_eq_true, Bool.not_eq_false, Decidable.not_not, Int.not_lt, Int.not_le] at g45
                  refine opG rfl rfl (y (x_move rfl) rfl ?_)
                  refine opG rfl rfl (e_call rfl fn_50 rfl rfl (Valued_c oc _ _) fun v47 ro47 L47 hle47 hp47 => ?_)
                  obtain ⟨rfl, rfl, rfl⟩ := hp47
                  refine opG rfl rfl (y (x_not rfl) rfl ?_)
                  refine opG rfl rfl (y (x_pickT rfl rfl) rfl ?_)
                  refine op (y (x_pickF rfl rfl) rfl ?_)
                  refine op (y (x_move rfl) rfl ?_)
                  refine bsplit 51 rfl (fun g51 => ?_) (fun g51 => ?_)
                  · try simp only [decide_eq_true_eq, decide_eq_false_iff_not, beq_iff_eq, bne_iff_ne, ne_eq, beq_eq_false_iff_ne, bne_eq_false_iff_eq, Bool.not_eq_true', Bool.not_eq_false', Bool.not_eq_true, Bool.not_eq_false, Decidable.not_not, Int.not_lt, Int.not_le] at g51
                    refine opN rfl rfl rfl rfl ?_
                    refine opN rfl rfl rfl rfl ?_
                    refine op (y (x_pickT rfl rfl) rfl ?_)
                    refine op (y (x_move rfl) rfl ?_)
                    refine opN rfl rfl rfl rfl ?_
                    refine opN rfl rfl rfl rfl ?_
                    refine op (y (x_pickT rfl rfl) rfl ?_)
                    refine nil ?_
                    refine n_then ?_
                    refine condT rfl ?_
                    refine seq ?_
                    have hj : doM s.v oc key val = 2 := by unfold doM; rw [if_neg hk, if_pos (by unfold argsOk; grind)]
                    have hGc := hG.err 2 (by omega) (by omega) (by omega)
                    refine draw (([] : List Blk)) (by kernel_rfl) ?_
                    refine d_take 0 rfl (by kernel_rfl) (by kernel_rfl) (by kernel_rfl) (fun _ _ _ h => h) rfl (.inl rfl) (x_build bu_29 rfl rfl) (fun w hi => J.of_le (Ro.le.refl _) (fun x hx => absurd hx (by simp)) hi) ?_
                    refine d_take 1 rfl (by kernel_rfl) (by kernel_rfl) (by kernel_rfl) (fun _ _ _ h => h) rfl (.inl rfl) (x_load1 ag_31 rfl (Cell.ofRo hGc)) (fun w hi => J.of_le (Ro.le.refl _) (fun x hx => absurd hx (by simp)) hi) ?_
                    first | refine d_one 2 rfl (by kernel_rfl) (.inl rfl) (e_store 0 rfl rfl ts_29 rfl rfl rfl rfl rfl rfl ?_) | refine d_one 2 rfl (by kernel_rfl) (.inl rfl) (e_store 1 rfl rfl ts_29 rfl rfl rfl rfl rfl rfl ?_) | refine d_one 2 rfl (by kernel_rfl) (.inl rfl) (e_store 2 rfl rfl ts_29 rfl rfl rfl rfl rfl rfl ?_) | refine d_one 2 rfl (by kernel_rfl) (.inl rfl) (e_store 3 rfl rfl ts_29 rfl rfl rfl rfl rfl rfl ?_) | refine d_one 2 rfl (by kernel_rfl) (.inl rfl) (e_store 4 rfl rfl ts_29 rfl rfl rfl rfl rfl rfl ?_) | refine d_one 2 rfl (by kernel_rfl) (.inl rfl) (e_store 5 rfl rfl ts_29 rfl rfl rfl rfl rfl rfl ?_) | refine d_one 2 rfl (by kernel_rfl) (.inl rfl) (e_store 6 rfl rfl ts_29 rfl rfl rfl rfl rfl rfl ?_) | refine d_one 2 rfl (by kernel_rfl) (.inl rfl) (e_store 7 rfl rfl ts_29 rfl rfl rfl rfl rfl rfl ?_) | refine d_one 2 rfl (by kernel_rfl) (.inl rfl) (e_store 8 rfl rfl ts_29 rfl rfl rfl rfl rfl rfl ?_) | refine d_one 2 rfl (by kernel_rfl) (.inl rfl) (e_store 9 rfl rfl ts_29 rfl rfl rfl rfl rfl rfl ?_)
                    refine d_next (fun w hi => J.of_le (Ro.le.refl _) (fun x hx => absurd hx (by simp)) hi) ?_
                    refine d_take 3 rfl (by kernel_rfl) (by kernel_rfl) (by kernel_rfl) (fun _ _ _ h => h) rfl (.inl rfl) (x_assign rfl) (fun w hi => J.of_le (Ro.le.refl _) (fun x hx => absurd hx (by simp)) hi) ?_
                    refine d_take 4 rfl (by kernel_rfl) (by kernel_rfl) (by kernel_rfl) (fun _ _ _ h => h) rfl (.inl rfl) (x_assign rfl) (fun w hi => J.of_le (Ro.le.refl _) (fun x hx => absurd hx (by simp)) hi) ?_
                    refine d_take 5 rfl (by kernel_rfl) (by kernel_rfl) (by kernel_rfl) (fun _ _ _ h => h) rfl (.inl rfl) (x_assign rfl) (fun w hi => J.of_le (Ro.le.refl _) (fun x hx => absurd hx (by simp)) hi) ?_
                    refine d_end (by kernel_rfl) ?_
                    refine n_then ?_
                    refine ret ?_
                    refine r_then ?_
                    exact done rfl (Res.cellN ag_29 rfl rfl (CellsAt.own 0 0 4 _ rfl rfl) (.tmp rfl (.tmp rfl (.tmp rfl (.nil))))) (Ro.le.refl _) (L) (subF (by (repeat (first | exact List.Sublist.refl _ | apply List.Sublist.cons_cons | apply List.Sublist.cons)); done)) (⟨zeroSn, 0, 0, by rw [hj]; rfl, SnOk.bare 0 0, rfl, .inr ⟨by omega, rfl, rfl, rfl⟩⟩)
                  · try simp only [decide_eq_true_eq, decide_eq_false_iff_not, beq_iff_eq, bne_iff_ne, ne_eq, beq_eq_false_iff_ne, bne_eq_false_iff_eq, Bool.not_eq_true', Bool.not_eq_false', Bool.not_eq_true, Bool.not_eq_false, Decidable.not_not, Int.not_lt, Int.not_le] at g51
                    refine opG rfl rfl (y (x_move rfl) rfl ?_)
                    refine opG rfl rfl (y (x_lss rfl rfl) rfl ?_)
                    refine op (y (x_pickF rfl rfl) rfl ?_)
                    refine op (y (x_move rfl) rfl ?_)
                    refine bsplit 55 rfl (fun g55 => ?_) (fun g55 => ?_)
                    · try simp only [decide_eq_true_eq, decide_eq_false_iff_not, beq_iff_eq, bne_iff_ne, ne_eq, beq_eq_false_iff_ne, bne_eq_false_iff_eq, Bool.not_eq_true', Bool.not_eq_false', Bool.not_eq_true, Bool.not_eq_false, Decidable.not_not, Int.not_lt, Int.not_le] at g55
                      refine opN rfl rfl rfl rfl ?_
                      refine opN rfl rfl rfl rfl ?_
                      refine op (y (x_pickT rfl rfl) rfl ?_)
                      refine nil ?_
                      refine n_then ?_
                      refine condT rfl ?_
                      refine seq ?_
                      have hj : doM s.v oc key val = 2 := by unfold doM; rw [if_neg hk, if_pos (by unfold argsOk; grind)]
                      have hGc := hG.err 2 (by omega) (by omega) (by omega)
                      refine draw (([] : List Blk)) (by kernel_rfl) ?_
                      refine d_take 0 rfl (by kernel_rfl) (by kernel_rfl) (by kernel_rfl) (fun _ _ _ h => h) rfl (.inl rfl) (x_build bu_29 rfl rfl) (fun w hi => J.of_le (Ro.le.refl _) (fun x hx => absurd hx (by simp)) hi) ?_
                      refine d_take 1 rfl (by kernel_rfl) (by kernel_rfl) (by kernel_rfl) (fun _ _ _ h => h) rfl (.inl rfl) (x_load1 ag_31 rfl (Cell.ofRo hGc)) (fun w hi => J.of_le (Ro.le.refl _) (fun x hx => absurd hx (by simp)) hi) ?_
                      first | refine d_one 2 rfl (by kernel_rfl) (.inl rfl) (e_store 0 rfl rfl ts_29 rfl rfl rfl rfl rfl rfl ?_) | refine d_one 2 rfl (by kernel_rfl) (.inl rfl) (e_store 1 rfl rfl ts_29 rfl rfl rfl rfl rfl rfl ?_) | refine d_one 2 rfl (by kernel_rfl) (.inl rfl) (e_store 2 rfl rfl ts_29 rfl rfl rfl rfl rfl rfl ?_) | refine d_one 2 rfl (by kernel_rfl) (.inl rfl) (e_store 3 rfl rfl ts_29 rfl rfl rfl rfl rfl rfl ?_) | refine d_one 2 rfl (by kernel_rfl) (.inl rfl) (e_store 4 rfl rfl ts_29 rfl rfl rfl rfl rfl rfl ?_) | refine d_one 2 rfl (by kernel_rfl) (.inl rfl) (e_store 5 rfl rfl ts_29 rfl rfl rfl rfl rfl rfl ?_) | refine d_one 2 rfl (by kernel_rfl) (.inl rfl) (e_store 6 rfl rfl ts_29 rfl rfl rfl rfl rfl rfl ?_) | refine d_one 2 rfl (by kernel_rfl) (.inl rfl) (e_store 7 rfl rfl ts_29 rfl rfl rfl rfl rfl rfl ?_) | refine d_one 2 rfl (by kernel_rfl) (.inl rfl) (e_store 8 rfl rfl ts_29 rfl rfl rfl rfl rfl rfl ?_) | refine d_one 2 rfl (by kernel_rfl) (.inl rfl) (e_store 9 rfl rfl ts_29 rfl rfl rfl rfl rfl rfl ?_)
                      refine d_next (fun w hi => J.of_le (Ro.le.refl _) (fun x hx => absurd hx (by simp)) hi) ?_
                      refine d_take 3 rfl (by kernel_rfl) (by kernel_rfl) (by kernel_rfl) (fun _ _ _ h => h) rfl (.inl rfl) (x_assign rfl) (fun w hi => J.of_le (Ro.le.refl _) (fun x hx => absurd hx (by simp)) hi) ?_
                      refine d_take 4 rfl (by kernel_rfl) (by kernel_rfl) (by kernel_rfl) (fun _ _ _ h => h) rfl (.inl rfl) (x_assign rfl) (fun w hi => J.of_le (Ro.le.refl _) (fun x hx => absurd hx (by simp)) hi) ?_
                      refine d_take 5 rfl (by kernel_rfl) (by kernel_rfl) (by kernel_rfl) (fun _ _ _ h => h) rfl (.inl rfl) (x_assign rfl) (fun w hi => J.of_le (Ro.le.refl _) (fun x hx => absurd hx (by simp)) hi) ?_
                      refine d_end (by kernel_rfl) ?_
                      refine n_then ?_
                      refine ret ?_
                      refine r_then ?_
                      exact done rfl (Res.cellN ag_29 rfl rfl (CellsAt.own 0 0 4 _ rfl rfl) (.tmp rfl (.tmp rfl (.tmp rfl (.nil))))) (Ro.le.refl _) (L) (subF (by (repeat (first | exact List.Sublist.refl _ | apply List.Sublist.cons_cons | apply List.Sublist.cons)); done)) (⟨zeroSn, 0, 0, by rw [hj]; rfl, SnOk.bare 0 0, rfl, .inr ⟨by omega, rfl, rfl, rfl⟩⟩)
                    · try simp only [decide_eq_true_eq, decide_eq_false_iff_not, beq_iff_eq, bne_iff_ne, ne_eq, beq_eq_false_iff_ne, bne_eq_false_iff_eq, Bool.not_eq_true', Bool.not_eq_false', Bool.not_eq_true, Bool.not_eq_false, Decidable.not_not, Int.not_lt, Int.not_le] at g55
                      refine opG rfl rfl (y (x_move rfl) rfl ?_)
                      refine opG rfl rfl (y (x_gtr rfl rfl) rfl ?_)
                      refine op (y (x_pickF rfl rfl) rfl ?_)
                      refine nil ?_
                      refine n_then ?_
                      refine cond rfl (fun h3 => ?_) (fun h3 => ?_)
                      · try simp only [decide_eq_true_eq, decide_eq_false_iff_not, beq_iff_eq, bne_iff_ne, ne_eq, beq_eq_false_iff_ne, bne_eq_false_iff_eq, Bool.not_eq_true', Bool.not_eq_false', Bool.not_eq_true, Bool.not_eq_false, Decidable.not_not, Int.not_lt, Int.not_le] at h3
                        refine seq ?_
                        have hj : doM s.v oc key val = 2 := by unfold doM; rw [if_neg hk, if_pos (by unfold argsOk; grind)]
                        have hGc := hG.err 2 (by omega) (by omega) (by omega)
                        refine draw (([] : List Blk)) (by kernel_rfl) ?_
                        refine d_take 0 rfl (by kernel_rfl) (by kernel_rfl) (by kernel_rfl) (fun _ _ _ h => h) rfl (.inl rfl) (x_build bu_29 rfl rfl) (fun w hi => J.of_le (Ro.le.refl _) (fun x hx => absurd hx (by simp)) hi) ?_
                        refine d_take 1 rfl (by kernel_rfl) (by kernel_rfl) (by kernel_rfl) (fun _ _ _ h => h) rfl (.inl rfl) (x_load1 ag_31 rfl (Cell.ofRo hGc)) (fun w hi => J.of_le (Ro.le.refl _) (fun x hx => absurd hx (by simp)) hi) ?_
                        first | refine d_one 2 rfl (by kernel_rfl) (.inl rfl) (e_store 0 rfl rfl ts_29 rfl rfl rfl rfl rfl rfl ?_) | refine d_one 2 rfl (by kernel_rfl) (.inl rfl) (e_store 1 rfl rfl ts_29 rfl rfl rfl rfl rfl rfl ?_) | refine d_one 2 rfl (by kernel_rfl) (.inl rfl) (e_store 2 rfl rfl ts_29 rfl rfl rfl rfl rfl rfl ?_) | refine d_one 2 rfl (by kernel_rfl) (.inl rfl) (e_store 3 rfl rfl ts_29 rfl rfl rfl rfl rfl rfl ?_) | refine d_one 2 rfl (by kernel_rfl) (.inl rfl) (e_store 4 rfl rfl ts_29 rfl rfl rfl rfl rfl rfl ?_) | refine d_one 2 rfl (by kernel_rfl) (.inl rfl) (e_store 5 rfl rfl ts_29 rfl rfl rfl rfl rfl rfl ?_) | refine d_one 2 rfl (by kernel_rfl) (.inl rfl) (e_store 6 rfl rfl ts_29 rfl rfl rfl rfl rfl rfl ?_) | refine d_one 2 rfl (by kernel_rfl) (.inl rfl) (e_store 7 rfl rfl ts_29 rfl rfl rfl rfl rfl rfl ?_) | refine d_one 2 rfl (by kernel_rfl) (.inl rfl) (e_store 8 rfl rfl ts_29 rfl rfl rfl rfl rfl rfl ?_) | refine d_one 2 rfl (by kernel_rfl) (.inl rfl) (e_store 9 rfl rfl ts_29 rfl rfl rfl rfl rfl rfl ?_)
                        refine d_next (fun w hi => J.of_le (Ro.le.refl _) (fun x hx => absurd hx (by simp)) hi) ?_
                        refine d_take 3 rfl (by kernel_rfl) (by kernel_rfl) (by kernel_rfl) (fun _ _ _ h => h) rfl (.inl rfl) (x_assign rfl) (fun w hi => J.of_le (Ro.le.refl _) (fun x hx => absurd hx (by simp)) hi) ?_
                        refine d_take 4 rfl (by kernel_rfl) (by kernel_rfl) (by kernel_rfl) (fun _ _ _ h => h) rfl (.inl rfl) (x_assign rfl) (fun w hi => J.of_le (Ro.le.refl _) (fun x hx => absurd hx (by simp)) hi) ?_
                        refine d_take 5 rfl (by kernel_rfl) (by kernel_rfl) (by kernel_rfl) (fun _ _ _ h => h) rfl (.inl rfl) (x_assign rfl) (fun w hi => J.of_le (Ro.le.refl _) (fun x hx => absurd hx (by simp)) hi) ?_
                        refine d_end (by kernel_rfl) ?_
                        refine n_then ?_
                        refine ret ?_
                        refine r_then ?_
                        exact done rfl (Res.cellN ag_29 rfl rfl (CellsAt.own 0 0 4 _ rfl rfl) (.tmp rfl (.tmp rfl (.tmp rfl (.nil))))) (Ro.le.refl _) (L) (subF (by (repeat (first | exact List.Sublist.refl _ | apply List.Sublist.cons_cons | apply List.Sublist.cons)); done)) (⟨zeroSn, 0, 0, by rw [hj]; rfl, SnOk.bare 0 0, rfl, .inr ⟨by omega, rfl, rfl, rfl⟩⟩)
                      · try simp only [decide_eq_true_eq, decide_eq_false_iff_not, beq_iff_eq, bne_iff_ne, ne_eq, beq_eq_false_iff_ne, bne_eq_false_iff_eq, Bool.not_eq_true', Bool.not_eq_false', Bool.not_eq_true, Bool.not_eq_false, Decidable.not_not, Int.not_lt, Int.not_le] at h3
                        refine skip ?_
                        exact mid [(1, .int .i64 oc), (2, .int .i64 key), (3, .int .i64 val), (4, .pointer (some ⟨b4, 0, none⟩)), (8, .pointer (some ⟨b8, 0, none⟩))] ⟨rfl, rfl, rfl, rfl, rfl, trivial⟩ ⟨rfl, rfl, rfl, hk, (by unfold argsOk; grind)⟩
                · try simp only [decide_eq_true_eq, decide_eq_false_iff_not, beq_iff_eq, bne_iff_ne, ne_eq, beq_eq_false_iff_ne, bne_eq_false_iff_eq, Bool.not_eq_true', Bool.not_eq_false', Bool.not_eq_true, Bool.not_eq_false, Decidable.not_not, Int.not_lt, Int.not_le] at g45
                  refine opN rfl rfl rfl rfl ?_
                  refine opN rfl rfl rfl rfl ?_
                  refine opN rfl rfl rfl rfl ?_
                  refine opG rfl rfl (y (x_pickF rfl rfl) rfl ?_)
                  refine op (y (x_pickF rfl rfl) rfl ?_)
                  refine op (y (x_move rfl) rfl ?_)
                  refine opG rfl rfl (y (x_move rfl) rfl ?_)
                  refine opG rfl rfl (y (x_lss rfl rfl) rfl ?_)
                  refine op (y (x_pickF rfl rfl) rfl ?_)
                  refine op (y (x_move rfl) rfl ?_)
                  refine bsplit 55 rfl (fun g55 => ?_) (fun g55 => ?_)
                  · try simp only [decide_eq_true_eq, decide_eq_false_iff_not, beq_iff_eq, bne_iff_ne, ne_eq, beq_eq_false_iff_ne, bne_eq_false_iff_eq, Bool.not_eq_true', Bool.not_eq_false', Bool.not_eq_true, Bool.not_eq_false, Decidable.not_not, Int.not_lt, Int.not_le] at g55
                    refine opN rfl rfl rfl rfl ?_
                    refine opN rfl rfl rfl rfl ?_
                    refine op (y (x_pickT rfl rfl) rfl ?_)
                    refine nil ?_
                    refine n_then ?_
                    refine condT rfl ?_
                    refine seq ?_
                    have hj : doM s.v oc key val = 2 := by unfold doM; rw [if_neg hk, if_pos (by unfold argsOk; grind)]
                    have hGc := hG.err 2 (by omega) (by omega) (by omega)
                    refine draw (([] : List Blk)) (by kernel_rfl) ?_
                    refine d_take 0 rfl (by kernel_rfl) (by kernel_rfl) (by kernel_rfl) (fun _ _ _ h => h) rfl (.inl rfl) (x_build bu_29 rfl rfl) (fun w hi => J.of_le (Ro.le.refl _) (fun x hx => absurd hx (by simp)) hi) ?_
                    refine d_take 1 rfl (by kernel_rfl) (by kernel_rfl) (by kernel_rfl) (fun _ _ _ h => h) rfl (.inl rfl) (x_load1 ag_31 rfl (Cell.ofRo hGc)) (fun w hi => J.of_le (Ro.le.refl _) (fun x hx => absurd hx (by simp)) hi) ?_
                    first | refine d_one 2 rfl (by kernel_rfl) (.inl rfl) (e_store 0 rfl rfl ts_29 rfl rfl rfl rfl rfl rfl ?_) | refine d_one 2 rfl (by kernel_rfl) (.inl rfl) (e_store 1 rfl rfl ts_29 rfl rfl rfl rfl rfl rfl ?_) | refine d_one 2 rfl (by kernel_rfl) (.inl rfl) (e_store 2 rfl rfl ts_29 rfl rfl rfl rfl rfl rfl ?_) | refine d_one 2 rfl (by kernel_rfl) (.inl rfl) (e_store 3 rfl rfl ts_29 rfl rfl rfl rfl rfl rfl ?_) | refine d_one 2 rfl (by kernel_rfl) (.inl rfl) (e_store 4 rfl rfl ts_29 rfl rfl rfl rfl rfl rfl ?_) | refine d_one 2 rfl (by kernel_rfl) (.inl rfl) (e_store 5 rfl rfl ts_29 rfl rfl rfl rfl rfl rfl ?_) | refine d_one 2 rfl (by kernel_rfl) (.inl rfl) (e_store 6 rfl rfl ts_29 rfl rfl rfl rfl rfl rfl ?_) | refine d_one 2 rfl (by kernel_rfl) (.inl rfl) (e_store 7 rfl rfl ts_29 rfl rfl rfl rfl rfl rfl ?_) | refine d_one 2 rfl (by kernel_rfl) (.inl rfl) (e_store 8 rfl rfl ts_29 rfl rfl rfl rfl rfl rfl ?_) | refine d_one 2 rfl (by kernel_rfl) (.inl rfl) (e_store 9 rfl rfl ts_29 rfl rfl rfl rfl rfl rfl ?_)
                    refine d_next (fun w hi => J.of_le (Ro.le.refl _) (fun x hx => absurd hx (by simp)) hi) ?_
                    refine d_take 3 rfl (by kernel_rfl) (by kernel_rfl) (by kernel_rfl) (fun _ _ _ h => h) rfl (.inl rfl) (x_assign rfl) (fun w hi => J.of_le (Ro.le.refl _) (fun x hx => absurd hx (by simp)) hi) ?_
                    refine d_take 4 rfl (by kernel_rfl) (by kernel_rfl) (by kernel_rfl) (fun _ _ _ h => h) rfl (.inl rfl) (x_assign rfl) (fun w hi => J.of_le (Ro.le.refl _) (fun x hx => absurd hx (by simp)) hi) ?_
                    refine d_take 5 rfl (by kernel_rfl) (by kernel_rfl) (by kernel_rfl) (fun _ _ _ h => h) rfl (.inl rfl) (x_assign rfl) (fun w hi => J.of_le (Ro.le.refl _) (fun x hx => absurd hx (by simp)) hi) ?_
                    refine d_end (by kernel_rfl) ?_
                    refine n_then ?_
                    refine ret ?_
                    refine r_then ?_
                    exact done rfl (Res.cellN ag_29 rfl rfl (CellsAt.own 0 0 4 _ rfl rfl) (.tmp rfl (.tmp rfl (.tmp rfl (.nil))))) (Ro.le.refl _) (L) (subF (by (repeat (first | exact List.Sublist.refl _ | apply List.Sublist.cons_cons | apply List.Sublist.cons)); done)) (⟨zeroSn, 0, 0, by rw [hj]; rfl, SnOk.bare 0 0, rfl, .inr ⟨by omega, rfl, rfl, rfl⟩⟩)
                  · try simp only [decide_eq_true_eq, decide_eq_false_iff_not, beq_iff_eq, bne_iff_ne, ne_eq, beq_eq_false_iff_ne, bne_eq_false_iff_eq, Bool.not_eq_true', Bool.not_eq_false', Bool.not_eq_true, Bool.not_eq_false, Decidable.not_not, Int.not_lt, Int.not_le] at g55
                    refine opG rfl rfl (y (x_move rfl) rfl ?_)
                    refine opG rfl rfl (y (x_gtr rfl rfl) rfl ?_)
                    refine op (y (x_pickF rfl rfl) rfl ?_)
                    refine nil ?_
                    refine n_then ?_
                    refine cond rfl (fun h3 => ?_) (fun h3 => ?_)
                    · try simp only [decide_eq_true_eq, decide_eq_false_iff_not, beq_iff_eq, bne_iff_ne, ne_eq, beq_eq_false_iff_ne, bne_eq_false_iff_eq, Bool.not_eq_true', Bool.not_eq_false', Bool.not_eq_true, Bool.not_eq_false, Decidable.not_not, Int.not_lt, Int.not_le] at h3
                      refine seq ?_
                      have hj : doM s.v oc key val = 2 := by unfold doM; rw [if_neg hk, if_pos (by unfold argsOk; grind)]
                      have hGc := hG.err 2 (by omega) (by omega) (by omega)
                      refine draw (([] : List Blk)) (by kernel_rfl) ?_
                      refine d_take 0 rfl (by kernel_rfl) (by kernel_rfl) (by kernel_rfl) (fun _ _ _ h => h) rfl (.inl rfl) (x_build bu_29 rfl rfl) (fun w hi => J.of_le (Ro.le.refl _) (fun x hx => absurd hx (by simp)) hi) ?_
                      refine d_take 1 rfl (by kernel_rfl) (by kernel_rfl) (by kernel_rfl) (fun _ _ _ h => h) rfl (.inl rfl) (x_load1 ag_31 rfl (Cell.ofRo hGc)) (fun w hi => J.of_le (Ro.le.refl _) (fun x hx => absurd hx (by simp)) hi) ?_
                      first | refine d_one 2 rfl (by kernel_rfl) (.inl rfl) (e_store 0 rfl rfl ts_29 rfl rfl rfl rfl rfl rfl ?_) | refine d_one 2 rfl (by kernel_rfl) (.inl rfl) (e_store 1 rfl rfl ts_29 rfl rfl rfl rfl rfl rfl ?_) | refine d_one 2 rfl (by kernel_rfl) (.inl rfl) (e_store 2 rfl rfl ts_29 rfl rfl rfl rfl rfl rfl ?_) | refine d_one 2 rfl (by kernel_rfl) (.inl rfl) (e_store 3 rfl rfl ts_29 rfl rfl rfl rfl rfl rfl ?_) | refine d_one 2 rfl (by kernel_rfl) (.inl rfl) (e_store 4 rfl rfl ts_29 rfl rfl rfl rfl rfl rfl ?_) | refine d_one 2 rfl (by kernel_rfl) (.inl rfl) (e_store 5 rfl rfl ts_29 rfl rfl rfl rfl rfl rfl ?_) | refine d_one 2 rfl (by kernel_rfl) (.inl rfl) (e_store 6 rfl rfl ts_29 rfl rfl rfl rfl rfl rfl ?_) | refine d_one 2 rfl (by kernel_rfl) (.inl rfl) (e_store 7 rfl rfl ts_29 rfl rfl rfl rfl rfl rfl ?_) | refine d_one 2 rfl (by kernel_rfl) (.inl rfl) (e_store 8 rfl rfl ts_29 rfl rfl rfl rfl rfl rfl ?_) | refine d_one 2 rfl (by kernel_rfl) (.inl rfl) (e_store 9 rfl rfl ts_29 rfl rfl rfl rfl rfl rfl ?_)
                      refine d_next (fun w hi => J.of_le (Ro.le.refl _) (fun x hx => absurd hx (by simp)) hi) ?_
                      refine d_take 3 rfl (by kernel_rfl) (by kernel_rfl) (by kernel_rfl) (fun _ _ _ h => h) rfl (.inl rfl) (x_assign rfl) (fun w hi => J.of_le (Ro.le.refl _) (fun x hx => absurd hx (by simp)) hi) ?_
                      refine d_take 4 rfl (by kernel_rfl) (by kernel_rfl) (by kernel_rfl) (fun _ _ _ h => h) rfl (.inl rfl) (x_assign rfl) (fun w hi => J.of_le (Ro.le.refl _) (fun x hx => absurd hx (by simp)) hi) ?_
                      refine d_take 5 rfl (by kernel_rfl) (by kernel_rfl) (by kernel_rfl) (fun _ _ _ h => h) rfl (.inl rfl) (x_assign rfl) (fun w hi => J.of_le (Ro.le.refl _) (fun x hx => absurd hx (by simp)) hi) ?_
                      refine d_end (by kernel_rfl) ?_
                      refine n_then ?_
                      refine ret ?_
                      refine r_then ?_
                      exact done rfl (Res.cellN ag_29 rfl rfl (CellsAt.own 0 0 4 _ rfl rfl) (.tmp rfl (.tmp rfl (.tmp rfl (.nil))))) (Ro.le.refl _) (L) (subF (by (repeat (first | exact List.Sublist.refl _ | apply List.Sublist.cons_cons | apply List.Sublist.cons)); done)) (⟨zeroSn, 0, 0, by rw [hj]; rfl, SnOk.bare 0 0, rfl, .inr ⟨by omega, rfl, rfl, rfl⟩⟩)
                    · try simp only [decide_eq_true_eq, decide_eq_false_iff_not, beq_iff_eq, bne_iff_ne, ne_eq, beq_eq_false_iff_ne, bne_eq_false_iff_eq, Bool.not_eq_true', Bool.not_eq_false', Bool.not_eq_true, Bool.not_eq_false, Decidable.not_not, Int.not_lt, Int.not_le] at h3
                      refine skip ?_
                      exact mid [(1, .int .i64 oc), (2, .int .i64 key), (3, .int .i64 val), (4, .pointer (some ⟨b4, 0, none⟩)), (8, .pointer (some ⟨b8, 0, none⟩))] ⟨rfl, rfl, rfl, rfl, rfl, trivial⟩ ⟨rfl, rfl, rfl, hk, (by unfold argsOk; grind)⟩
        · try simp only [decide_eq_true_eq, decide_eq_false_iff_not, beq_iff_eq, bne_iff_ne, ne_eq, beq_eq_false_iff_ne, bne_eq_false_iff_eq, Bool.not_eq_true', Bool.not_eq_false', Bool.not_eq_true, Bool.not_eq_false, Decidable.not_not, Int.not_lt, Int.not_le] at g29
          refine opN rfl rfl rfl rfl ?_
          refine opN rfl rfl rfl rfl ?_
          refine opN rfl rfl rfl rfl ?_
          refine op (y (x_pickF rfl rfl) rfl ?_)
          refine op (y (x_move rfl) rfl ?_)
          refine opG rfl rfl (y (x_move rfl) rfl ?_)
          refine opG rfl rfl (y (x_lss rfl rfl) rfl ?_)
          refine op (y (x_pickF rfl rfl) rfl ?_)
          refine op (y (x_move rfl) rfl ?_)
          refine bsplit 38 rfl (fun g38 => ?_) (fun g38 => ?_)
          · try simp only [decide_eq_true_eq, decide_eq_false_iff_not, beq_iff_eq, bne_iff_ne, ne_eq, beq_eq_false_iff_ne, bne_eq_false_iff_eq, Bool.not_eq_true', Bool.not_eq_false', Bool.not_eq_true, Bool.not_eq_false, Decidable.not_not, Int.not_lt, Int.not_le] at g38
            refine opN rfl rfl rfl rfl ?_
            refine opN rfl rfl rfl rfl ?_
            refine op (y (x_pickT rfl rfl) rfl ?_)
            refine op (y (x_move rfl) rfl ?_)
            refine opN rfl rfl rfl rfl ?_
            refine opN rfl rfl rfl rfl ?_
            refine opN rfl rfl rfl rfl ?_
            refine opU rfl rfl rfl ?_
            refine opU rfl rfl rfl ?_
            refine opU rfl rfl rfl ?_
            refine opN rfl rfl rfl rfl ?_
            refine op (y (x_pickT rfl rfl) rfl ?_)
            refine op (y (x_move rfl) rfl ?_)
            refine opN rfl rfl rfl rfl ?_
            refine opN rfl rfl rfl rfl ?_
            refine op (y (x_pickT rfl rfl) rfl ?_)
            refine op (y (x_move rfl) rfl ?_)
            refine opN rfl rfl rfl rfl ?_
            refine opN rfl rfl rfl rfl ?_
            refine op (y (x_pickT rfl rfl) rfl ?_)
            refine nil ?_
            refine n_then ?_
            refine condT rfl ?_
            refine seq ?_
            have hj : doM s.v oc key val = 2 := by unfold doM; rw [if_neg hk, if_pos (by unfold argsOk; grind)]
            have hGc := hG.err 2 (by omega) (by omega) (by omega)
            refine draw (([] : List Blk)) (by kernel_rfl) ?_
            refine d_take 0 rfl (by kernel_rfl) (by kernel_rfl) (by kernel_rfl) (fun _ _ _ h => h) rfl (.inl rfl) (x_build bu_29 rfl rfl) (fun w hi => J.of_le (Ro.le.refl _) (fun x hx => absurd hx (by simp)) hi) ?_
            refine d_take 1 rfl (by kernel_rfl) (by kernel_rfl) (by kernel_rfl) (fun _ _ _ h => h) rfl (.inl rfl) (x_load1 ag_31 rfl (Cell.ofRo hGc)) (fun w hi => J.of_le (Ro.le.refl _) (fun x hx => absurd hx (by simp)) hi) ?_
            first | refine d_one 2 rfl (by kernel_rfl) (.inl rfl) (e_store 0 rfl rfl ts_29 rfl rfl rfl rfl rfl rfl ?_) | refine d_one 2 rfl (by kernel_rfl) (.inl rfl) (e_store 1 rfl rfl ts_29 rfl rfl rfl rfl rfl rfl ?_) | refine d_one 2 rfl (by kernel_rfl) (.inl rfl) (e_store 2 rfl rfl ts_29 rfl rfl rfl rfl rfl rfl ?_) | refine d_one 2 rfl (by kernel_rfl) (.inl rfl) (e_store 3 rfl rfl ts_29 rfl rfl rfl rfl rfl rfl ?_) | refine d_one 2 rfl (by kernel_rfl) (.inl rfl) (e_store 4 rfl rfl ts_29 rfl rfl rfl rfl rfl rfl ?_) | refine d_one 2 rfl (by kernel_rfl) (.inl rfl) (e_store 5 rfl rfl ts_29 rfl rfl rfl rfl rfl rfl ?_) | refine d_one 2 rfl (by kernel_rfl) (.inl rfl) (e_store 6 rfl rfl ts_29 rfl rfl rfl rfl rfl rfl ?_) | refine d_one 2 rfl (by kernel_rfl) (.inl rfl) (e_store 7 rfl rfl ts_29 rfl rfl rfl rfl rfl rfl ?_) | refine d_one 2 rfl (by kernel_rfl) (.inl rfl) (e_store 8 rfl rfl ts_29 rfl rfl rfl rfl rfl rfl ?_) | refine d_one 2 rfl (by kernel_rfl) (.inl rfl) (e_store 9 rfl rfl ts_29 rfl rfl rfl rfl rfl rfl ?_)
            refine d_next (fun w hi => J.of_le (Ro.le.refl _) (fun x hx => absurd hx (by simp)) hi) ?_
            refine d_take 3 rfl (by kernel_rfl) (by kernel_rfl) (by kernel_rfl) (fun _ _ _ h => h) rfl (.inl rfl) (x_assign rfl) (fun w hi => J.of_le (Ro.le.refl _) (fun x hx => absurd hx (by simp)) hi) ?_
            refine d_take 4 rfl (by kernel_rfl) (by kernel_rfl) (by kernel_rfl) (fun _ _ _ h => h) rfl (.inl rfl) (x_assign rfl) (fun w hi => J.of_le (Ro.le.refl _) (fun x hx => absurd hx (by simp)) hi) ?_
            refine d_take 5 rfl (by kernel_rfl) (by kernel_rfl) (by kernel_rfl) (fun _ _ _ h => h) rfl (.inl rfl) (x_assign rfl) (fun w hi => J.of_le (Ro.le.refl _) (fun x hx => absurd hx (by simp)) hi) ?_
            refine d_end (by kernel_rfl) ?_
            refine n_then ?_
            refine ret ?_
            refine r_then ?_
            exact done rfl (Res.cellN ag_29 rfl rfl (CellsAt.own 0 0 4 _ rfl rfl) (.tmp rfl (.tmp rfl (.tmp rfl (.nil))))) (Ro.le.refl _) (L) (subF (by (repeat (first | exact List.Sublist.refl _ | apply List.Sublist.cons_cons | apply List.Sublist.cons)); done)) (⟨zeroSn, 0, 0, by rw [hj]; rfl, SnOk.bare 0 0, rfl, .inr ⟨by omega, rfl, rfl, rfl⟩⟩)
          · try simp only [decide_eq_true_eq, decide_eq_false_iff_not, beq_iff_eq, bne_iff_ne, ne_eq, beq_eq_false_iff_ne, bne_eq_false_iff_eq, Bool.not_eq_true', Bool.not_eq_false', Bool.not_eq_true, Bool.not_eq_false, Decidable.not_not, Int.not_lt, Int.not_le] at g38
            refine opG rfl rfl (y (x_move rfl) rfl ?_)
            refine opG rfl rfl (y (x_gtr rfl rfl) rfl ?_)
            refine op (y (x_pickF rfl rfl) rfl ?_)
            refine op (y (x_move rfl) rfl ?_)
            refine bsplit 42 rfl (fun g42 => ?_) (fun g42 => ?_)
            · try simp only [decide_eq_true_eq, decide_eq_false_iff_not, beq_iff_eq, bne_iff_ne, ne_eq, beq_eq_false_iff_ne, bne_eq_false_iff_eq, Bool.not_eq_true', Bool.not_eq_false', Bool.not_eq_true, Bool.not_eq_false, Decidable.not_not, Int.not_lt, Int.not_le] at g42
              refine opN rfl rfl rfl rfl ?_
              refine opN rfl rfl rfl rfl ?_
              refine opN rfl rfl rfl rfl ?_
              refine opU rfl rfl rfl ?_
              refine opU rfl rfl rfl ?_
              refine opU rfl rfl rfl ?_
              refine opN rfl rfl rfl rfl ?_
              refine op (y (x_pickT rfl rfl) rfl ?_)
              refine op (y (x_move rfl) rfl ?_)
              refine opN rfl rfl rfl rfl ?_
              refine opN rfl rfl rfl rfl ?_
              refine op (y (x_pickT rfl rfl) rfl ?_)
              refine op (y (x_move rfl) rfl ?_)
              refine opN rfl rfl rfl rfl ?_
              refine opN rfl rfl rfl rfl ?_
              refine op (y (x_pickT rfl rfl) rfl ?_)
              refine nil ?_
              refine n_then ?_
              refine condT rfl ?_
              refine seq ?_
              have hj : doM s.v oc key val = 2 := by unfold doM; rw [if_neg hk, if_pos (by unfold argsOk; grind)]
              have hGc := hG.err 2 (by omega) (by omega) (by omega)
              refine draw (([] : List Blk)) (by kernel_rfl) ?_
              refine d_take 0 rfl (by kernel_rfl) (by kernel_rfl) (by kernel_rfl) (fun _ _ _ h => h) rfl (.inl rfl) (x_build bu_29 rfl rfl) (fun w hi => J.of_le (Ro.le.refl _) (fun x hx => absurd hx (by simp)) hi) ?_
              refine d_take 1 rfl (by kernel_rfl) (by kernel_rfl) (by kernel_rfl) (fun _ _ _ h => h) rfl (.inl rfl) (x_load1 ag_31 rfl (Cell.ofRo hGc)) (fun w hi => J.of_le (Ro.le.refl _) (fun x hx => absurd hx (by simp)) hi) ?_
              first | refine d_one 2 rfl (by kernel_rfl) (.inl rfl) (e_store 0 rfl rfl ts_29 rfl rfl rfl rfl rfl rfl ?_) | refine d_one 2 rfl (by kernel_rfl) (.inl rfl) (e_store 1 rfl rfl ts_29 rfl rfl rfl rfl rfl rfl ?_) | refine d_one 2 rfl (by kernel_rfl) (.inl rfl) (e_store 2 rfl rfl ts_29 rfl rfl rfl rfl rfl rfl ?_) | refine d_one 2 rfl (by kernel_rfl) (.inl rfl) (e_store 3 rfl rfl ts_29 rfl rfl rfl rfl rfl rfl ?_) | refine d_one 2 rfl (by kernel_rfl) (.inl rfl) (e_store 4 rfl rfl ts_29 rfl rfl rfl rfl rfl rfl ?_) | refine d_one 2 rfl (by kernel_rfl) (.inl rfl) (e_store 5 rfl rfl ts_29 rfl rfl rfl rfl rfl rfl ?_) | refine d_one 2 rfl (by kernel_rfl) (.inl rfl) (e_store 6 rfl rfl ts_29 rfl rfl rfl rfl rfl rfl ?_) | refine d_one 2 rfl (by kernel_rfl) (.inl rfl) (e_store 7 rfl rfl ts_29 rfl rfl rfl rfl rfl rfl ?_) | refine d_one 2 rfl (by kernel_rfl) (.inl rfl) (e_store 8 rfl rfl ts_29 rfl rfl rfl rfl rfl rfl ?_) | refine d_one 2 rfl (by kernel_rfl) (.inl rfl) (e_store 9 rfl rfl ts_29 rfl rfl rfl rfl rfl rfl ?_)
              refine d_next (fun w hi => J.of_le (Ro.le.refl _) (fun x hx => absurd hx (by simp)) hi) ?_
              refine d_take 3 rfl (by kernel_rfl) (by kernel_rfl) (by kernel_rfl) (fun _ _ _ h => h) rfl (.inl rfl) (x_assign rfl) (fun w hi => J.of_le (Ro.le.refl _) (fun x hx => absurd hx (by simp)) hi) ?_
              refine d_take 4 rfl (by kernel_rfl) (by kernel_rfl) (by kernel_rfl) (fun _ _ _ h => h) rfl (.inl rfl) (x_assign rfl) (fun w hi => J.of_le (Ro.le.refl _) (fun x hx => absurd hx (by simp)) hi) ?_
              refine d_take 5 rfl (by kernel_rfl) (by kernel_rfl) (by kernel_rfl) (fun _ _ _ h => h) rfl (.inl rfl) (x_assign rfl) (fun w hi => J.of_le (Ro.le.refl _) (fun x hx => absurd hx (by simp)) hi) ?_
              refine d_end (by kernel_rfl) ?_
              refine n_then ?_
              refine ret ?_
              refine r_then ?_
              exact done rfl (Res.cellN ag_29 rfl rfl (CellsAt.own 0 0 4 _ rfl rfl) (.tmp rfl (.tmp rfl (.tmp rfl (.nil))))) (Ro.le.refl _) (L) (subF (by (repeat (first | exact List.Sublist.refl _ | apply List.Sublist.cons_cons | apply List.Sublist.cons)); done)) (⟨zeroSn, 0, 0, by rw [hj]; rfl, SnOk.bare 0 0, rfl, .inr ⟨by omega, rfl, rfl, rfl⟩⟩)
            · try simp only [decide_eq_true_eq, decide_eq_false_iff_not, beq_iff_eq, bne_iff_ne, ne_eq, beq_eq_false_iff_ne, bne_eq_false_iff_eq, Bool.not_eq_true', Bool.not_eq_false', Bool.not_eq_true, Bool.not_eq_false, Decidable.not_not, Int.not_lt, Int.not_le] at g42
              refine opG rfl rfl (y (x_move rfl) rfl ?_)
              refine opG rfl rfl (y (x_neq rfl rfl) rfl ?_)
              refine opG rfl rfl (y (x_move rfl) rfl ?_)
              refine bsplit 45 rfl (fun g45 => ?_) (fun g45 => ?_)
              · try simp only [decide_eq_true_eq, decide_eq_false_iff_not, beq_iff_eq, bne_iff_ne, ne_eq, beq_eq_false_iff_ne, bne_eq_false_iff_eq, Bool.not_eq_true', Bool.not_eq_false', Bool.not_eq_true, Bool.not_eq_false, Decidable.not_not, Int.not_lt, Int.not_le] at g45
                refine opG rfl rfl (y (x_move rfl) rfl ?_)
                refine opG rfl rfl (e_call rfl fn_50 rfl rfl (Valued_c oc _ _) fun v47 ro47 L47 hle47 hp47 => ?_)
                obtain ⟨rfl, rfl, rfl⟩ := hp47
                refine opG rfl rfl (y (x_not rfl) rfl ?_)
                refine opG rfl rfl (y (x_pickT rfl rfl) rfl ?_)
                refine op (y (x_pickF rfl rfl) rfl ?_)
                refine op (y (x_move rfl) rfl ?_)
                refine bsplit 51 rfl (fun g51 => ?_) (fun g51 => ?_)
                · try simp only [decide_eq_true_eq, decide_eq_false_iff_not, beq_iff_eq, bne_iff_ne, ne_eq, beq_eq_false_iff_ne, bne_eq_false_iff_eq, Bool.not_eq_true', Bool.not_eq_false', Bool.not_eq_true, Bool.not_eq_false, Decidable.not_not, Int.not_lt, Int.not_le] at g51
                  refine opN rfl rfl rfl rfl ?_
                  refine opN rfl rfl rfl rfl ?_
                  refine op (y (x_pickT rfl rfl) rfl ?_)
                  refine op (y (x_move rfl) rfl ?_)
                  refine opN rfl rfl rfl rfl ?_
                  refine opN rfl rfl rfl rfl ?_
                  refine op (y (x_pickT rfl rfl) rfl ?_)
                  refine nil ?_
                  refine n_then ?_
                  refine condT rfl ?_
                  refine seq ?_
                  have hj : doM s.v oc key val = 2 := by unfold doM; rw [if_neg hk, if_pos (by unfold argsOk; grind)]
                  have hGc := hG.err 2 (by omega) (by omega) (by omega)
                  refine draw (([] : List Blk)) (by kernel_rfl) ?_
                  refine d_take 0 rfl (by kernel_rfl) (by kernel_rfl) (by kernel_rfl) (fun _ _ _ h => h) rfl (.inl rfl) (x_build bu_29 rfl rfl) (fun w hi => J.of_le (Ro.le.refl _) (fun x hx => absurd hx (by simp)) hi) ?_
                  refine d_take 1 rfl (by kernel_rfl) (by kernel_rfl) (by kernel_rfl) (fun _ _ _ h => h) rfl (.inl rfl) (x_load1 ag_31 rfl (Cell.ofRo hGc)) (fun w hi => J.of_le (Ro.le.refl _) (fun x hx => absurd hx (by simp)) hi) ?_
                  first | refine d_one 2 rfl (by kernel_rfl) (.inl rfl) (e_store 0 rfl rfl ts_29 rfl rfl rfl rfl rfl rfl ?_) | refine d_one 2 rfl (by kernel_rfl) (.inl rfl) (e_store 1 rfl rfl ts_29 rfl rfl rfl rfl rfl rfl ?_) | refine d_one 2 rfl (by kernel_rfl) (.inl rfl) (e_store 2 rfl rfl ts_29 rfl rfl rfl rfl rfl rfl ?_) | refine d_one 2 rfl (by kernel_rfl) (.inl rfl) (e_store 3 rfl rfl ts_29 rfl rfl rfl rfl rfl rfl ?_) | refine d_one 2 rfl (by kernel_rfl) (.inl rfl) (e_store 4 rfl rfl ts_29 rfl rfl rfl rfl rfl rfl ?_) | refine d_one 2 rfl (by kernel_rfl) (.inl rfl) (e_store 5 rfl rfl ts_29 rfl rfl rfl rfl rfl rfl ?_) | refine d_one 2 rfl (by kernel_rfl) (.inl rfl) (e_store 6 rfl rfl ts_29 rfl rfl rfl rfl rfl rfl ?_) | refine d_one 2 rfl (by kernel_rfl) (.inl rfl) (e_store 7 rfl rfl ts_29 rfl rfl rfl rfl rfl rfl ?_) | refine d_one 2 rfl (by kernel_rfl) (.inl rfl) (e_store 8 rfl rfl ts_29 rfl rfl rfl rfl rfl rfl ?_) | refine d_one 2 rfl (by kernel_rfl) (.inl rfl) (e_store 9 rfl rfl ts_29 rfl rfl rfl rfl rfl rfl ?_)
                  refine d_next (fun w hi => J.of_le (Ro.le.refl _) (fun x hx => absurd hx (by simp)) hi) ?_
                  refine d_take 3 rfl (by kernel_rfl) (by kernel_rfl) (by kernel_rfl) (fun _ _ _ h => h) rfl (.inl rfl) (x_assign rfl) (fun w hi => J.of_le (Ro.le.refl _) (fun x hx => absurd hx (by simp)) hi) ?_
                  refine d_take 4 rfl (by kernel_rfl) (by kernel_rfl) (by kernel_rfl) (fun _ _ _ h => h) rfl (.inl rfl) (x_assign rfl) (fun w hi => J.of_le (Ro.le.refl _) (fun x hx => absurd hx (by simp)) hi) ?_
                  refine d_take 5 rfl (by kernel_rfl) (by kernel_rfl) (by kernel_rfl) (fun _ _ _ h => h) rfl (.inl rfl) (x_assign rfl) (fun w hi => J.of_le (Ro.le.refl _) (fun x hx => absurd hx (by simp)) hi) ?_
                  refine d_end (by kernel_rfl) ?_
                  refine n_then ?_
                  refine ret ?_
                  refine r_then ?_
                  exact done rfl (Res.cellN ag_29 rfl rfl (CellsAt.own 0 0 4 _ rfl rfl) (.tmp rfl (.tmp rfl (.tmp rfl (.nil))))) (Ro.le.refl _) (L) (subF (by (repeat (first | exact List.Sublist.refl _ | apply List.Sublist.cons_cons | apply List.Sublist.cons)); done)) (⟨zeroSn, 0, 0, by rw [hj]; rfl, SnOk.bare 0 0, rfl, .inr ⟨by omega, rfl, rfl, rfl⟩⟩)
                · try simp only [decide_eq_true_eq, decide_eq_false_iff_not, beq_iff_eq, bne_iff_ne, ne_eq, beq_eq_false_iff_ne, bne_eq_false_iff_eq, Bool.not_eq_true', Bool.not_eq_false', Bool.not_eq_true, Bool.not_eq_false, Decidable.not_not, Int.not_lt, Int.not_le] at g51
                  refine opG rfl rfl (y (x_move rfl) rfl ?_)
                  refine opG rfl rfl (y (x_lss rfl rfl) rfl ?_)
                  refine op (y (x_pickF rfl rfl) rfl ?_)
                  refine op (y (x_move rfl) rfl ?_)
                  refine bsplit 55 rfl (fun g55 => ?_) (fun g55 => ?_)
                  · try simp only [decide_eq_true_eq, decide_eq_false_iff_not, beq_iff_eq, bne_iff_ne, ne_eq, beq_eq_false_iff_ne, bne_eq_false_iff_eq, Bool.not_eq_true', Bool.not_eq_false', Bool.not_eq_true, Bool.not_eq_false, Decidable.not_not, Int.not_lt, Int.not_le] at g55
                    refine opN rfl rfl rfl rfl ?_
                    refine opN rfl rfl rfl rfl ?_
                    refine op (y (x_pickT rfl rfl) rfl ?_)
                    refine nil ?_
                    refine n_then ?_
                    refine condT rfl ?_
                    refine seq ?_
                    have hj : doM s.v oc key val = 2 := by unfold doM; rw [if_neg hk, if_pos (by unfold argsOk; grind)]
                    have hGc := hG.err 2 (by omega) (by omega) (by omega)
                    refine draw (([] : List Blk)) (by kernel_rfl) ?_
                    refine d_take 0 rfl (by kernel_rfl) (by kernel_rfl) (by kernel_rfl) (fun _ _ _ h => h) rfl (.inl rfl) (x_build bu_29 rfl rfl) (fun w hi => J.of_le (Ro.le.refl _) (fun x hx => absurd hx (by simp)) hi) ?_
                    refine d_take 1 rfl (by kernel_rfl) (by kernel_rfl) (by kernel_rfl) (fun _ _ _ h => h) rfl (.inl rfl) (x_load1 ag_31 rfl (Cell.ofRo hGc)) (fun w hi => J.of_le (Ro.le.refl _) (fun x hx => absurd hx (by simp)) hi) ?_
                    first | refine d_one 2 rfl (by kernel_rfl) (.inl rfl) (e_store 0 rfl rfl ts_29 rfl rfl rfl rfl rfl rfl ?_) | refine d_one 2 rfl (by kernel_rfl) (.inl rfl) (e_store 1 rfl rfl ts_29 rfl rfl rfl rfl rfl rfl ?_) | refine d_one 2 rfl (by kernel_rfl) (.inl rfl) (e_store 2 rfl rfl ts_29 rfl rfl rfl rfl rfl rfl ?_) | refine d_one 2 rfl (by kernel_rfl) (.inl rfl) (e_store 3 rfl rfl ts_29 rfl rfl rfl rfl rfl rfl ?_) | refine d_one 2 rfl (by kernel_rfl) (.inl rfl) (e_store 4 rfl rfl ts_29 rfl rfl rfl rfl rfl rfl ?_) | refine d_one 2 rfl (by kernel_rfl) (.inl rfl) (e_store 5 rfl rfl ts_29 rfl rfl rfl rfl rfl rfl ?_) | refine d_one 2 rfl (by kernel_rfl) (.inl rfl) (e_store 6 rfl rfl ts_29 rfl rfl rfl rfl rfl rfl ?_) | refine d_one 2 rfl (by kernel_rfl) (.inl rfl) (e_store 7 rfl rfl ts_29 rfl rfl rfl rfl rfl rfl ?_) | refine d_one 2 rfl (by kernel_rfl) (.inl rfl) (e_store 8 rfl rfl ts_29 rfl rfl rfl rfl rfl rfl ?_) | refine d_one 2 rfl (by kernel_rfl) (.inl rfl) (e_store 9 rfl rfl ts_29 rfl rfl rfl rfl rfl rfl ?_)
                    refine d_next (fun w hi => J.of_le (Ro.le.refl _) (fun x hx => absurd hx (by simp)) hi) ?_
                    refine d_take 3 rfl (by kernel_rfl) (by kernel_rfl) (by kernel_rfl) (fun _ _ _ h => h) rfl (.inl rfl) (x_assign rfl) (fun w hi => J.of_le (Ro.le.refl _) (fun x hx => absurd hx (by simp)) hi) ?_
                    refine d_take 4 rfl (by kernel_rfl) (by kernel_rfl) (by kernel_rfl) (fun _ _ _ h => h) rfl (.inl rfl) (x_assign rfl) (fun w hi => J.of_le (Ro.le.refl _) (fun x hx => absurd hx (by simp)) hi) ?_
                    refine d_take 5 rfl (by kernel_rfl) (by kernel_rfl) (by kernel_rfl) (fun _ _ _ h => h) rfl (.inl rfl) (x_assign rfl) (fun w hi => J.of_le (Ro.le.refl _) (fun x hx => absurd hx (by simp)) hi) ?_
                    refine d_end (by kernel_rfl) ?_
                    refine n_then ?_
                    refine ret ?_
                    refine r_then ?_
                    exact done rfl (Res.cellN ag_29 rfl rfl (CellsAt.own 0 0 4 _ rfl rfl) (.tmp rfl (.tmp rfl (.tmp rfl (.nil))))) (Ro.le.refl _) (L) (subF (by (repeat (first | exact List.Sublist.refl _ | apply List.Sublist.cons_cons | apply List.Sublist.cons)); done)) (⟨zeroSn, 0, 0, by rw [hj]; rfl, SnOk.bare 0 0, rfl, .inr ⟨by omega, rfl, rfl, rfl⟩⟩)
                  · try simp only [decide_eq_true_eq, decide_eq_false_iff_not, beq_iff_eq, bne_iff_ne, ne_eq, beq_eq_false_iff_ne, bne_eq_false_iff_eq, Bool.not_eq_true', Bool.not_eq_false', Bool.not_eq_true, Bool.not_eq_false, Decidable.not_not, Int.not_lt, Int.not_le] at g55
                    refine opG rfl rfl (y (x_move rfl) rfl ?_)
                    refine opG rfl rfl (y (x_gtr rfl rfl) rfl ?_)
                    refine op (y (x_pickF rfl rfl) rfl ?_)
                    refine nil ?_
                    refine n_then ?_
                    refine cond rfl (fun h3 => ?_) (fun h3 => ?_)
                    · try simp only [decide_eq_true_eq, decide_eq_false_iff_not, beq_iff_eq, bne_iff_ne, ne_eq, beq_eq_false_iff_ne, bne_eq_false_iff_eq, Bool.not_eq_true', Bool.not_eq_false', Bool.not_eq_true, Bool.not_eq_false, Decidable.not_not, Int.not_lt, Int.not_le] at h3
                      refine seq ?_
                      have hj : doM s.v oc key val = 2 := by unfold doM; rw [if_neg hk, if_pos (by unfold argsOk; grind)]
                      have hGc := hG.err 2 (by omega) (by omega) (by omega)
                      refine draw (([] : List Blk)) (by kernel_rfl) ?_
                      refine d_take 0 rfl (by kernel_rfl) (by kernel_rfl) (by kernel_rfl) (fun _ _ _ h => h) rfl (.inl rfl) (x_build bu_29 rfl rfl) (fun w hi => J.of_le (Ro.le.refl _) (fun x hx => absurd hx (by simp)) hi) ?_
                      refine d_take 1 rfl (by kernel_rfl) (by kernel_rfl) (by kernel_rfl) (fun _ _ _ h => h) rfl (.inl rfl) (x_load1 ag_31 rfl (Cell.ofRo hGc)) (fun w hi => J.of_le (Ro.le.refl _) (fun x hx => absurd hx (by simp)) hi) ?_
                      first | refine d_one 2 rfl (by kernel_rfl) (.inl rfl) (e_store 0 rfl rfl ts_29 rfl rfl rfl rfl rfl rfl ?_) | refine d_one 2 rfl (by kernel_rfl) (.inl rfl) (e_store 1 rfl rfl ts_29 rfl rfl rfl rfl rfl rfl ?_) | refine d_one 2 rfl (by kernel_rfl) (.inl rfl) (e_store 2 rfl rfl ts_29 rfl rfl rfl rfl rfl rfl ?_) | refine d_one 2 rfl (by kernel_rfl) (.inl rfl) (e_store 3 rfl rfl ts_29 rfl rfl rfl rfl rfl rfl ?_) | refine d_one 2 rfl (by kernel_rfl) (.inl rfl) (e_store 4 rfl rfl ts_29 rfl rfl rfl rfl rfl rfl ?_) | refine d_one 2 rfl (by kernel_rfl) (.inl rfl) (e_store 5 rfl rfl ts_29 rfl rfl rfl rfl rfl rfl ?_) | refine d_one 2 rfl (by kernel_rfl) (.inl rfl) (e_store 6 rfl rfl ts_29 rfl rfl rfl rfl rfl rfl ?_) | refine d_one 2 rfl (by kernel_rfl) (.inl rfl) (e_store 7 rfl rfl ts_29 rfl rfl rfl rfl rfl rfl ?_) | refine d_one 2 rfl (by kernel_rfl) (.inl rfl) (e_store 8 rfl rfl ts_29 rfl rfl rfl rfl rfl rfl ?_) | refine d_one 2 rfl (by kernel_rfl) (.inl rfl) (e_store 9 rfl rfl ts_29 rfl rfl rfl rfl rfl rfl ?_)
                      refine d_next (fun w hi => J.of_le (Ro.le.refl _) (fun x hx => absurd hx (by simp)) hi) ?_
                      refine d_take 3 rfl (by kernel_rfl) (by kernel_rfl) (by kernel_rfl) (fun _ _ _ h => h) rfl (.inl rfl) (x_assign rfl) (fun w hi => J.of_le (Ro.le.refl _) (fun x hx => absurd hx (by simp)) hi) ?_
                      refine d_take 4 rfl (by kernel_rfl) (by kernel_rfl) (by kernel_rfl) (fun _ _ _ h => h) rfl (.inl rfl) (x_assign rfl) (fun w hi => J.of_le (Ro.le.refl _) (fun x hx => absurd hx (by simp)) hi) ?_
                      refine d_take 5 rfl (by kernel_rfl) (by kernel_rfl) (by kernel_rfl) (fun _ _ _ h => h) rfl (.inl rfl) (x_assign rfl) (fun w hi => J.of_le (Ro.le.refl _) (fun x hx => absurd hx (by simp)) hi) ?_
                      refine d_end (by kernel_rfl) ?_
                      refine n_then ?_
                      refine ret ?_
                      refine r_then ?_
                      exact done rfl (Res.cellN ag_29 rfl rfl (CellsAt.own 0 0 4 _ rfl rfl) (.tmp rfl (.tmp rfl (.tmp rfl (.nil))))) (Ro.le.refl _) (L) (subF (by (repeat (first | exact List.Sublist.refl _ | apply List.Sublist.cons_cons | apply List.Sublist.cons)); done)) (⟨zeroSn, 0, 0, by rw [hj]; rfl, SnOk.bare 0 0, rfl, .inr ⟨by omega, rfl, rfl, rfl⟩⟩)
                    · try simp only [decide_eq_true_eq, decide_eq_false_iff_not, beq_iff_eq, bne_iff_ne, ne_eq, beq_eq_false_iff_ne, bne_eq_false_iff_eq, Bool.not_eq_true', Bool.not_eq_false', Bool.not_eq_true, Bool.not_eq_false, Decidable.not_not, Int.not_lt, Int.not_le] at h3
                      refine skip ?_
                      exact mid [(1, .int .i64 oc), (2, .int .i64 key), (3, .int .i64 val), (4, .pointer (some ⟨b4, 0, none⟩)), (8, .pointer (some ⟨b8, 0, none⟩))] ⟨rfl, rfl, rfl, rfl, rfl, trivial⟩ ⟨rfl, rfl, rfl, hk, (by unfold argsOk; grind)⟩
              · try simp only [decide_eq_true_eq, decide_eq_false_iff_not, beq_iff_eq, bne_iff_ne, ne_eq, beq_eq_false_iff_ne, bne_eq_false_iff_eq, Bool.not_eq_true', Bool.not_eq_false', Bool.not_eq_true, Bool.not_eq_false, Decidable.not_not, Int.not_lt, Int.not_le] at g45
                refine opN rfl rfl rfl rfl ?_
                refine opN rfl rfl rfl rfl ?_
                refine opN rfl rfl rfl rfl ?_
                refine opG rfl rfl (y (x_pickF rfl rfl) rfl ?_)
                refine op (y (x_pickF rfl rfl) rfl ?_)
                refine op (y (x_move rfl) rfl ?_)
                refine opG rfl rfl (y (x_move rfl) rfl ?_)
                refine opG rfl rfl (y (x_lss rfl rfl) rfl ?_)
                refine op (y (x_pickF rfl rfl) rfl ?_)
                refine op (y (x_move rfl) rfl ?_)
                refine bsplit 55 rfl (fun g55 => ?_) (fun g55 => ?_)
                · try simp only [decide_eq_true_eq, decide_eq_false_iff_not, beq_iff_eq, bne_iff_ne, ne_eq, beq_eq_false_iff_ne, bne_eq_false_iff_eq, Bool.not_eq_true', Bool.not_eq_false', Bool.not_eq_true, Bool.not_eq_false, Decidable.not_not, Int.not_lt, Int.not_le] at g55
                  refine opN rfl rfl rfl rfl ?_
                  refine opN rfl rfl rfl rfl ?_
                  refine op (y (x_pickT rfl rfl) rfl ?_)
                  refine nil ?_
                  refine n_then ?_
                  refine condT rfl ?_
                  refine seq ?_
                  have hj : doM s.v oc key val = 2 := by unfold doM; rw [if_neg hk, if_pos (by unfold argsOk; grind)]
                  have hGc := hG.err 2 (by omega) (by omega) (by omega)
                  refine draw (([] : List Blk)) (by kernel_rfl) ?_
                  refine d_take 0 rfl (by kernel_rfl) (by kernel_rfl) (by kernel_rfl) (fun _ _ _ h => h) rfl (.inl rfl) (x_build bu_29 rfl rfl) (fun w hi => J.of_le (Ro.le.refl _) (fun x hx => absurd hx (by simp)) hi) ?_
                  refine d_take 1 rfl (by kernel_rfl) (by kernel_rfl) (by kernel_rfl) (fun _ _ _ h => h) rfl (.inl rfl) (x_load1 ag_31 rfl (Cell.ofRo hGc)) (fun w hi => J.of_le (Ro.le.refl _) (fun x hx => absurd hx (by simp)) hi) ?_
                  first | refine d_one 2 rfl (by kernel_rfl) (.inl rfl) (e_store 0 rfl rfl ts_29 rfl rfl rfl rfl rfl rfl ?_) | refine d_one 2 rfl (by kernel_rfl) (.inl rfl) (e_store 1 rfl rfl ts_29 rfl rfl rfl rfl rfl rfl ?_) | refine d_one 2 rfl (by kernel_rfl) (.inl rfl) (e_store 2 rfl rfl ts_29 rfl rfl rfl rfl rfl rfl ?_) | refine d_one 2 rfl (by kernel_rfl) (.inl rfl) (e_store 3 rfl rfl ts_29 rfl rfl rfl rfl rfl rfl ?_) | refine d_one 2 rfl (by kernel_rfl) (.inl rfl) (e_store 4 rfl rfl ts_29 rfl rfl rfl rfl rfl rfl ?_) | refine d_one 2 rfl (by kernel_rfl) (.inl rfl) (e_store 5 rfl rfl ts_29 rfl rfl rfl rfl rfl rfl ?_) | refine d_one 2 rfl (by kernel_rfl) (.inl rfl) (e_store 6 rfl rfl ts_29 rfl rfl rfl rfl rfl rfl ?_) | refine d_one 2 rfl (by kernel_rfl) (.inl rfl) (e_store 7 rfl rfl ts_29 rfl rfl rfl rfl rfl rfl ?_) | refine d_one 2 rfl (by kernel_rfl) (.inl rfl) (e_store 8 rfl rfl ts_29 rfl rfl rfl rfl rfl rfl ?_) | refine d_one 2 rfl (by kernel_rfl) (.inl rfl) (e_store 9 rfl rfl ts_29 rfl rfl rfl rfl rfl rfl ?_)
                  refine d_next (fun w hi => J.of_le (Ro.le.refl _) (fun x hx => absurd hx (by simp)) hi) ?_
                  refine d_take 3 rfl (by kernel_rfl) (by kernel_rfl) (by kernel_rfl) (fun _ _ _ h => h) rfl (.inl rfl) (x_assign rfl) (fun w hi => J.of_le (Ro.le.refl _) (fun x hx => absurd hx (by simp)) hi) ?_
                  refine d_take 4 rfl (by kernel_rfl) (by kernel_rfl) (by kernel_rfl) (fun _ _ _ h => h) rfl (.inl rfl) (x_assign rfl) (fun w hi => J.of_le (Ro.le.refl _) (fun x hx => absurd hx (by simp)) hi) ?_
                  refine d_take 5 rfl (by kernel_rfl) (by kernel_rfl) (by kernel_rfl) (fun _ _ _ h => h) rfl (.inl rfl) (x_assign rfl) (fun w hi => J.of_le (Ro.le.refl _) (fun x hx => absurd hx (by simp)) hi) ?_
                  refine d_end (by kernel_rfl) ?_
                  refine n_then ?_
                  refine ret ?_
                  refine r_then ?_
                  exact done rfl (Res.cellN ag_29 rfl rfl (CellsAt.own 0 0 4 _ rfl rfl) (.tmp rfl (.tmp rfl (.tmp rfl (.nil))))) (Ro.le.refl _) (L) (subF (by (repeat (first | exact List.Sublist.refl _ | apply List.Sublist.cons_cons | apply List.Sublist.cons)); done)) (⟨zeroSn, 0, 0, by rw [hj]; rfl, SnOk.bare 0 0, rfl, .inr ⟨by omega, rfl, rfl, rfl⟩⟩)
                · try simp only [decide_eq_true_eq, decide_eq_false_iff_not, beq_iff_eq, bne_iff_ne, ne_eq, beq_eq_false_iff_ne, bne_eq_false_iff_eq, Bool.not_eq_true', Bool.not_eq_false', Bool.not_eq_true, Bool.not_eq_false, Decidable.not_not, Int.not_lt, Int.not_le] at g55
                  refine opG rfl rfl (y (x_move rfl) rfl ?_)
                  refine opG rfl rfl (y (x_gtr rfl rfl) rfl ?_)
                  refine op (y (x_pickF rfl rfl) rfl ?_)
                  refine nil ?_
                  refine n_then ?_
                  refine cond rfl (fun h3 => ?_) (fun h3 => ?_)
                  · try simp only [decide_eq_true_eq, decide_eq_false_iff_not, beq_iff_eq, bne_iff_ne, ne_eq, beq_eq_false_iff_ne, bne_eq_false_iff_eq, Bool.not_eq_true', Bool.not_eq_false', Bool.not_eq_true, Bool.not_eq_false, Decidable.not_not, Int.not_lt, Int.not_le] at h3
                    refine seq ?_
                    have hj : doM s.v oc key val = 2 := by unfold doM; rw [if_neg hk, if_pos (by unfold argsOk; grind)]
                    have hGc := hG.err 2 (by omega) (by omega) (by omega)
                    refine draw (([] : List Blk)) (by kernel_rfl) ?_
                    refine d_take 0 rfl (by kernel_rfl) (by kernel_rfl) (by kernel_rfl) (fun _ _ _ h => h) rfl (.inl rfl) (x_build bu_29 rfl rfl) (fun w hi => J.of_le (Ro.le.refl _) (fun x hx => absurd hx (by simp)) hi) ?_
                    refine d_take 1 rfl (by kernel_rfl) (by kernel_rfl) (by kernel_rfl) (fun _ _ _ h => h) rfl (.inl rfl) (x_load1 ag_31 rfl (Cell.ofRo hGc)) (fun w hi => J.of_le (Ro.le.refl _) (fun x hx => absurd hx (by simp)) hi) ?_
                    first | refine d_one 2 rfl (by kernel_rfl) (.inl rfl) (e_store 0 rfl rfl ts_29 rfl rfl rfl rfl rfl rfl ?_) | refine d_one 2 rfl (by kernel_rfl) (.inl rfl) (e_store 1 rfl rfl ts_29 rfl rfl rfl rfl rfl rfl ?_) | refine d_one 2 rfl (by kernel_rfl) (.inl rfl) (e_store 2 rfl rfl ts_29 rfl rfl rfl rfl rfl rfl ?_) | refine d_one 2 rfl (by kernel_rfl) (.inl rfl) (e_store 3 rfl rfl ts_29 rfl rfl rfl rfl rfl rfl ?_) | refine d_one 2 rfl (by kernel_rfl) (.inl rfl) (e_store 4 rfl rfl ts_29 rfl rfl rfl rfl rfl rfl ?_) | refine d_one 2 rfl (by kernel_rfl) (.inl rfl) (e_store 5 rfl rfl ts_29 rfl rfl rfl rfl rfl rfl ?_) | refine d_one 2 rfl (by kernel_rfl) (.inl rfl) (e_store 6 rfl rfl ts_29 rfl rfl rfl rfl rfl rfl ?_) | refine d_one 2 rfl (by kernel_rfl) (.inl rfl) (e_store 7 rfl rfl ts_29 rfl rfl rfl rfl rfl rfl ?_) | refine d_one 2 rfl (by kernel_rfl) (.inl rfl) (e_store 8 rfl rfl ts_29 rfl rfl rfl rfl rfl rfl ?_) | refine d_one 2 rfl (by kernel_rfl) (.inl rfl) (e_store 9 rfl rfl ts_29 rfl rfl rfl rfl rfl rfl ?_)
                    refine d_next (fun w hi => J.of_le (Ro.le.refl _) (fun x hx => absurd hx (by simp)) hi) ?_
                    refine d_take 3 rfl (by kernel_rfl) (by kernel_rfl) (by kernel_rfl) (fun _ _ _ h => h) rfl (.inl rfl) (x_assign rfl) (fun w hi => J.of_le (Ro.le.refl _) (fun x hx => absurd hx (by simp)) hi) ?_
                    refine d_take 4 rfl (by kernel_rfl) (by kernel_rfl) (by kernel_rfl) (fun _ _ _ h => h) rfl (.inl rfl) (x_assign rfl) (fun w hi => J.of_le (Ro.le.refl _) (fun x hx => absurd hx (by simp)) hi) ?_
                    refine d_take 5 rfl (by kernel_rfl) (by kernel_rfl) (by kernel_rfl) (fun _ _ _ h => h) rfl (.inl rfl) (x_assign rfl) (fun w hi => J.of_le (Ro.le.refl _) (fun x hx => absurd hx (by simp)) hi) ?_
                    refine d_end (by kernel_rfl) ?_
                    refine n_then ?_
                    refine ret ?_
                    refine r_then ?_
                    exact done rfl (Res.cellN ag_29 rfl rfl (CellsAt.own 0 0 4 _ rfl rfl) (.tmp rfl (.tmp rfl (.tmp rfl (.nil))))) (Ro.le.refl _) (L) (subF (by (repeat (first | exact List.Sublist.refl _ | apply List.Sublist.cons_cons | apply List.Sublist.cons)); done)) (⟨zeroSn, 0, 0, by rw [hj]; rfl, SnOk.bare 0 0, rfl, .inr ⟨by omega, rfl, rfl, rfl⟩⟩)
                  · try simp only [decide_eq_true_eq, decide_eq_false_iff_not, beq_iff_eq, bne_iff_ne, ne_eq, beq_eq_false_iff_ne, bne_eq_false_iff_eq, Bool.not_eq_true', Bool.not_eq_false', Bool.not_eq_true, Bool.not_eq_false, Decidable.not_not, Int.not_lt, Int.not_le] at h3
                    refine skip ?_
                    exact mid [(1, .int .i64 oc), (2, .int .i64 key), (3, .int .i64 val), (4, .pointer (some ⟨b4, 0, none⟩)), (8, .pointer (some ⟨b8, 0, none⟩))] ⟨rfl, rfl, rfl, rfl, rfl, trivial⟩ ⟨rfl, rfl, rfl, hk, (by unfold argsOk; grind)⟩
      · rintro F ro' L' ⟨rfl, rfl, rfl, hk, ha⟩
        refine seqM (fun F ro' L' => (F = [(1, .int .i64 oc), (2, .int .i64 key), (3, .int .i64 val), (4, .pointer (some ⟨b4, 0, none⟩)), (8, .pointer (some ⟨b8, 0, none⟩))]) ∧ (ro = ro') ∧ (L' = [(b8, Obj.cells (encSn zeroSn).toArray 29 (0, 0))] :: [(b4, Obj.cells (encSn s).toArray 29 (0, 0))] :: L) ∧ (¬ (s.v.kind = 0 ∨ ofK oc ≠ s.v.kind)) ∧ (doM s.v oc key val = 0)) ?_ ?_
        · skip
          refine seq ?_
          have hv1 := ha.2.2.2.2.1
          have hv2 := ha.2.2.2.2.2
          refine region ?_
          refine op (y (x_move rfl) rfl ?_)
          refine op (y (x_eql rfl rfl) rfl ?_)
          refine op (y (x_move rfl) rfl ?_)
          refine bsplit 63 rfl (fun g63 => ?_) (fun g63 => ?_)
          · try simp only [decide_eq_true_eq, decide_eq_false_iff_not, beq_iff_eq, bne_iff_ne, ne_eq, beq_eq_false_iff_ne, bne_eq_false_iff_eq, Bool.not_eq_true', Bool.not_eq_false', Bool.not_eq_true, Bool.not_eq_false, Decidable.not_not, Int.not_lt, Int.not_le] at g63
            refine opG rfl rfl (y (x_fieldAddr fo_29_0 rfl) rfl ?_)
            refine opG rfl rfl (y (x_load1 ag_3 rfl (by first | assumption | exact Cell.own 0 rfl rfl | exact Cell.own 1 rfl rfl | exact Cell.own 2 rfl rfl | exact Cell.own 3 rfl rfl | exact Cell.own 4 rfl rfl | exact Cell.own 5 rfl rfl | exact Cell.own 6 rfl rfl | exact Cell.own 7 rfl rfl | exact Cell.own 8 rfl rfl | exact Cell.own 9 rfl rfl | exact Cell.ofRo (by assumption))) rfl ?_)
            refine opG rfl rfl (y (x_fieldAddr fo_29_1 rfl) rfl ?_)
            refine opG rfl rfl (y (x_load1 ag_3 rfl (by first | assumption | exact Cell.own 0 rfl rfl | exact Cell.own 1 rfl rfl | exact Cell.own 2 rfl rfl | exact Cell.own 3 rfl rfl | exact Cell.own 4 rfl rfl | exact Cell.own 5 rfl rfl | exact Cell.own 6 rfl rfl | exact Cell.own 7 rfl rfl | exact Cell.own 8 rfl rfl | exact Cell.own 9 rfl rfl | exact Cell.ofRo (by assumption))) rfl ?_)
            refine opG rfl rfl (y (x_move rfl) rfl ?_)
            refine opG rfl rfl (y (x_add rfl rfl _ (wr (by omega) (by omega))) rfl ?_)
            refine opG rfl rfl (e_call rfl fn_51 rfl rfl (Beyond_c s.kind 0 (s.num + val) _ _) fun v70 ro70 L70 hle70 hp70 => ?_)
            obtain ⟨rfl, rfl, rfl⟩ := hp70
            refine op (y (x_pickT rfl rfl) rfl ?_)
            refine nil ?_
            refine n_then ?_
            refine cond rfl (fun h5 => ?_) (fun h5 => ?_)
            · try simp only [decide_eq_true_eq, decide_eq_false_iff_not, beq_iff_eq, bne_iff_ne, ne_eq, beq_eq_false_iff_ne, bne_eq_false_iff_eq, Bool.not_eq_true', Bool.not_eq_false', Bool.not_eq_true, Bool.not_eq_false, Decidable.not_not, Int.not_lt, Int.not_le] at h5
              refine seq ?_
              have hj : doM s.v oc key val = 2 := by unfold doM; rw [if_neg hk, if_neg (not_not_intro ha), if_pos (by show oc = 3 ∧ beyondM s.kind 0 (s.num + val) = true; grind)]
              have hGc := hG.err 2 (by omega) (by omega) (by omega)
              refine draw (([] : List Blk)) (by kernel_rfl) ?_
              refine d_take 0 rfl (by kernel_rfl) (by kernel_rfl) (by kernel_rfl) (fun _ _ _ h => h) rfl (.inl rfl) (x_build bu_29 rfl rfl) (fun w hi => J.of_le (Ro.le.refl _) (fun x hx => absurd hx (by simp)) hi) ?_
              refine d_take 1 rfl (by kernel_rfl) (by kernel_rfl) (by kernel_rfl) (fun _ _ _ h => h) rfl (.inl rfl) (x_load1 ag_31 rfl (Cell.ofRo hGc)) (fun w hi => J.of_le (Ro.le.refl _) (fun x hx => absurd hx (by simp)) hi) ?_
              first | refine d_one 2 rfl (by kernel_rfl) (.inl rfl) (e_store 0 rfl rfl ts_29 rfl rfl rfl rfl rfl rfl ?_) | refine d_one 2 rfl (by kernel_rfl) (.inl rfl) (e_store 1 rfl rfl ts_29 rfl rfl rfl rfl rfl rfl ?_) | refine d_one 2 rfl (by kernel_rfl) (.inl rfl) (e_store 2 rfl rfl ts_29 rfl rfl rfl rfl rfl rfl ?_) | refine d_one 2 rfl (by kernel_rfl) (.inl rfl) (e_store 3 rfl rfl ts_29 rfl rfl rfl rfl rfl rfl ?_) | refine d_one 2 rfl (by kernel_rfl) (.inl rfl) (e_store 4 rfl rfl ts_29 rfl rfl rfl rfl rfl rfl ?_) | refine d_one 2 rfl (by kernel_rfl) (.inl rfl) (e_store 5 rfl rfl ts_29 rfl rfl rfl rfl rfl rfl ?_) | refine d_one 2 rfl (by kernel_rfl) (.inl rfl) (e_store 6 rfl rfl ts_29 rfl rfl rfl rfl rfl rfl ?_) | refine d_one 2 rfl (by kernel_rfl) (.inl rfl) (e_store 7 rfl rfl ts_29 rfl rfl rfl rfl rfl rfl ?_) | refine d_one 2 rfl (by kernel_rfl) (.inl rfl) (e_store 8 rfl rfl ts_29 rfl rfl rfl rfl rfl rfl ?_) | refine d_one 2 rfl (by kernel_rfl) (.inl rfl) (e_store 9 rfl rfl ts_29 rfl rfl rfl rfl rfl rfl ?_)
              refine d_next (fun w hi => J.of_le (Ro.le.refl _) (fun x hx => absurd hx (by simp)) hi) ?_
              refine d_take 3 rfl (by kernel_rfl) (by kernel_rfl) (by kernel_rfl) (fun _ _ _ h => h) rfl (.inl rfl) (x_assign rfl) (fun w hi => J.of_le (Ro.le.refl _) (fun x hx => absurd hx (by simp)) hi) ?_
              refine d_take 4 rfl (by kernel_rfl) (by kernel_rfl) (by kernel_rfl) (fun _ _ _ h => h) rfl (.inl rfl) (x_assign rfl) (fun w hi => J.of_le (Ro.le.refl _) (fun x hx => absurd hx (by simp)) hi) ?_
              refine d_take 5 rfl (by kernel_rfl) (by kernel_rfl) (by kernel_rfl) (fun _ _ _ h => h) rfl (.inl rfl) (x_assign rfl) (fun w hi => J.of_le (Ro.le.refl _) (fun x hx => absurd hx (by simp)) hi) ?_
              refine d_end (by kernel_rfl) ?_
              refine n_then ?_
              refine ret ?_
              refine r_then ?_
              exact done rfl (Res.cellN ag_29 rfl rfl (CellsAt.own 0 0 4 _ rfl rfl) (.tmp rfl (.tmp rfl (.tmp rfl (.nil))))) (Ro.le.refl _) (L) (subF (by (repeat (first | exact List.Sublist.refl _ | apply List.Sublist.cons_cons | apply List.Sublist.cons)); done)) (⟨zeroSn, 0, 0, by rw [hj]; rfl, SnOk.bare 0 0, rfl, .inr ⟨by omega, rfl, rfl, rfl⟩⟩)
            · try simp only [decide_eq_true_eq, decide_eq_false_iff_not, beq_iff_eq, bne_iff_ne, ne_eq, beq_eq_false_iff_ne, bne_eq_false_iff_eq, Bool.not_eq_true', Bool.not_eq_false', Bool.not_eq_true, Bool.not_eq_false, Decidable.not_not, Int.not_lt, Int.not_le] at h5
              refine skip ?_
              exact mid [(1, .int .i64 oc), (2, .int .i64 key), (3, .int .i64 val), (4, .pointer (some ⟨b4, 0, none⟩)), (8, .pointer (some ⟨b8, 0, none⟩))] ⟨rfl, rfl, rfl, rfl, rfl, trivial⟩ ⟨rfl, rfl, rfl, hk, by unfold doM; rw [if_neg hk, if_neg (not_not_intro ha), if_neg (by show ¬ (oc = 3 ∧ beyondM s.kind 0 (s.num + val) = true); grind)]⟩
          · try simp only [decide_eq_true_eq, decide_eq_false_iff_not, beq_iff_eq, bne_iff_ne, ne_eq, beq_eq_false_iff_ne, bne_eq_false_iff_eq, Bool.not_eq_true', Bool.not_eq_false', Bool.not_eq_true, Bool.not_eq_false, Decidable.not_not, Int.not_lt, Int.not_le] at g63
            refine opN rfl rfl rfl rfl ?_
            refine opN rfl rfl rfl rfl ?_
            refine opN rfl rfl rfl rfl ?_
            refine opN rfl rfl rfl rfl ?_
            refine opN rfl rfl rfl rfl ?_
            refine opN rfl rfl rfl rfl ?_
            refine opN rfl rfl rfl rfl ?_
            refine op (y (x_pickF rfl rfl) rfl ?_)
            refine nil ?_
            refine n_then ?_
            refine condF rfl ?_
            refine skip ?_
            exact mid [(1, .int .i64 oc), (2, .int .i64 key), (3, .int .i64 val), (4, .pointer (some ⟨b4, 0, none⟩)), (8, .pointer (some ⟨b8, 0, none⟩))] ⟨rfl, rfl, rfl, rfl, rfl, trivial⟩ ⟨rfl, rfl, rfl, hk, by unfold doM; rw [if_neg hk, if_neg (not_not_intro ha), if_neg (by show ¬ (oc = 3 ∧ beyondM s.kind 0 (s.num + val) = true); grind)]⟩
        · rintro F ro' L' ⟨rfl, rfl, rfl, hk, hj⟩
          refine seqM (fun F ro' L' => ∃ (b12 : Nat) (s' : Sn), (F = [(8, .pointer (some ⟨b8, 0, none⟩)), (12, .pointer (some ⟨b12, 0, none⟩)), (13, .int .i64 (deedM oc key val s.v).2.1), (14, .int .i64 (deedM oc key val s.v).2.2)]) ∧ (L' = [(b12, Obj.cells (encSn s').toArray 29 (0, 0))] :: [(b8, Obj.cells (encSn zeroSn).toArray 29 (0, 0))] :: [(b4, Obj.cells (encSn s).toArray 29 (0, 0))] :: L) ∧ (ro.le ro') ∧ (SnOk ro' s') ∧ (s'.v = (deedM oc key val s.v).1) ∧ (doM s.v oc key val = 0)) ?_ ?_
          · skip
            have hop := ofK_rng (op := oc) (fun h => hk (.inr (by rw [h]; intro e; exact hk (.inl e.symm))))
            refine draw ([(b4, Obj.cells (encSn s).toArray 29 (0, 0))]) (by kernel_rfl) ?_
            refine d_take 1 rfl (by kernel_rfl) (by kernel_rfl) (by kernel_rfl) (fun _ _ _ h => h) rfl (.inl rfl) (x_move rfl) (fun w hi => J.of_le (by first | exact Ro.le.refl _ | exact hle75 | exact hle75.trans hle81) (fun x hx => by simp at hx; subst hx; simp) hi) ?_
            refine d_take 3 rfl (by kernel_rfl) (by kernel_rfl) (by kernel_rfl) (fun _ _ _ h => h) rfl (.inl rfl) (x_loadN ag_29 rfl rfl ((fun j v hv => Cell.blk (List.mem_singleton.2 rfl) (by simpa using hv) : CellsAt _ _ b4 0 (encSn s)))) (fun w hi => J.of_le (by first | exact Ro.le.refl _ | exact hle75 | exact hle75.trans hle81) (fun x hx => by simp at hx; subst hx; simp) hi) ?_
            refine d_take 4 rfl (by kernel_rfl) (by kernel_rfl) (by kernel_rfl) (fun _ _ _ h => h) rfl (.inl rfl) (x_move rfl) (fun w hi => J.of_le (by first | exact Ro.le.refl _ | exact hle75 | exact hle75.trans hle81) (fun x hx => by simp at hx; subst hx; simp) hi) ?_
            refine d_take 5 rfl (by kernel_rfl) (by kernel_rfl) (by kernel_rfl) (fun _ _ _ h => h) rfl (.inl rfl) (x_move rfl) (fun w hi => J.of_le (by first | exact Ro.le.refl _ | exact hle75 | exact hle75.trans hle81) (fun x hx => by simp at hx; subst hx; simp) hi) ?_
            refine d_two 0 11 (by kernel_rfl) ?_ ?_
            · skip
              refine d_the rfl (.inl rfl) (e_call rfl fn_52 rfl rfl (deeds_c _ _) fun v75 ro75 L75 hle75 hp75 => ?_)
              obtain ⟨rm, em, cm, mm, rfl, hcr, hE, hM, rfl⟩ := hp75
              have hmg := hM oc hop.1 hop.2
              refine d_next (fun w hi => J.of_le (by first | exact Ro.le.refl _ | exact hle75 | exact hle75.trans hle81) (fun x hx => by simp at hx; subst hx; simp) hi) ?_
              refine d_two 2 11 (by kernel_rfl) ?_ ?_
              · skip
                refine d_the rfl (.inl rfl) (y (x_lookupH (v := .func (.func (deedF oc)) #[] [].toArray) Tryz.underlying106 keI zc_105 rfl rfl (HasMap.ofRo hcr) hE (by rw [hmg]; rfl)) rfl ?_)
                refine d_next (fun w hi => J.of_le (by first | exact Ro.le.refl _ | exact hle75 | exact hle75.trans hle81) (fun x hx => by simp at hx; subst hx; simp) hi) ?_
                refine d_two 6 11 (by kernel_rfl) ?_ ?_
                · skip
                  refine d_the rfl (.inl rfl) (e_call rfl (deedF_fn oc) rfl rfl (hd hj _ _ hle75) fun v81 ro81 L81 hle81 hp81 => ?_)
                  obtain ⟨s', rfl, hs', hv', rfl⟩ := hp81
                  refine d_next (fun w hi => J.of_le (by first | exact Ro.le.refl _ | exact hle75 | exact hle75.trans hle81) (fun x hx => by simp at hx; subst hx; simp) hi) ?_
                  refine d_take 7 rfl (by kernel_rfl) (by kernel_rfl) (by kernel_rfl) (fun _ _ _ h => h) rfl (.inl rfl) (x_move rfl) (fun w hi => J.of_le (by first | exact Ro.le.refl _ | exact hle75 | exact hle75.trans hle81) (fun x hx => by simp at hx; subst hx; simp) hi) ?_
                  refine d_take 8 rfl (by kernel_rfl) (by kernel_rfl) (by kernel_rfl) (fun _ _ _ h => h) rfl (.inl rfl) (x_extract rfl rfl) (fun w hi => J.of_le (by first | exact Ro.le.refl _ | exact hle75 | exact hle75.trans hle81) (fun x hx => by simp at hx; subst hx; simp) hi) ?_
                  refine d_take 9 rfl (by kernel_rfl) (by kernel_rfl) (by kernel_rfl) (fun _ _ _ h => h) rfl (.inl rfl) (x_extract rfl rfl) (fun w hi => J.of_le (by first | exact Ro.le.refl _ | exact hle75 | exact hle75.trans hle81) (fun x hx => by simp at hx; subst hx; simp) hi) ?_
                  refine d_take 10 rfl (by kernel_rfl) (by kernel_rfl) (by kernel_rfl) (fun _ _ _ h => h) rfl (.inl rfl) (x_extract rfl rfl) (fun w hi => J.of_le (by first | exact Ro.le.refl _ | exact hle75 | exact hle75.trans hle81) (fun x hx => by simp at hx; subst hx; simp) hi) ?_
                  refine d_one 11 rfl (by kernel_rfl) (.inl rfl) (e_alloc rfl zc_29 rfl fun b12 => ?_)
                  refine d_next (fun w hi => J.of_le (by first | exact Ro.le.refl _ | exact hle75 | exact hle75.trans hle81) (fun x hx => by simp at hx; subst hx; simp) hi) ?_
                  first | refine d_one 12 rfl (by kernel_rfl) (.inl rfl) (e_store 0 rfl rfl ts_29 rfl rfl rfl rfl rfl rfl ?_) | refine d_one 12 rfl (by kernel_rfl) (.inl rfl) (e_store 1 rfl rfl ts_29 rfl rfl rfl rfl rfl rfl ?_) | refine d_one 12 rfl (by kernel_rfl) (.inl rfl) (e_store 2 rfl rfl ts_29 rfl rfl rfl rfl rfl rfl ?_) | refine d_one 12 rfl (by kernel_rfl) (.inl rfl) (e_store 3 rfl rfl ts_29 rfl rfl rfl rfl rfl rfl ?_) | refine d_one 12 rfl (by kernel_rfl) (.inl rfl) (e_store 4 rfl rfl ts_29 rfl rfl rfl rfl rfl rfl ?_) | refine d_one 12 rfl (by kernel_rfl) (.inl rfl) (e_store 5 rfl rfl ts_29 rfl rfl rfl rfl rfl rfl ?_) | refine d_one 12 rfl (by kernel_rfl) (.inl rfl) (e_store 6 rfl rfl ts_29 rfl rfl rfl rfl rfl rfl ?_) | refine d_one 12 rfl (by kernel_rfl) (.inl rfl) (e_store 7 rfl rfl ts_29 rfl rfl rfl rfl rfl rfl ?_) | refine d_one 12 rfl (by kernel_rfl) (.inl rfl) (e_store 8 rfl rfl ts_29 rfl rfl rfl rfl rfl rfl ?_) | refine d_one 12 rfl (by kernel_rfl) (.inl rfl) (e_store 9 rfl rfl ts_29 rfl rfl rfl rfl rfl rfl ?_)
                  refine d_next (fun w hi => J.of_le (by first | exact Ro.le.refl _ | exact hle75 | exact hle75.trans hle81) (fun x hx => by simp at hx; subst hx; simp) hi) ?_
                  refine d_take 13 rfl (by kernel_rfl) (by kernel_rfl) (by kernel_rfl) (fun _ _ _ h => h) rfl (.inl rfl) (x_assign rfl) (fun w hi => J.of_le (by first | exact Ro.le.refl _ | exact hle75 | exact hle75.trans hle81) (fun x hx => by simp at hx; subst hx; simp) hi) ?_
                  refine d_take 14 rfl (by kernel_rfl) (by kernel_rfl) (by kernel_rfl) (fun _ _ _ h => h) rfl (.inl rfl) (x_assign rfl) (fun w hi => J.of_le (by first | exact Ro.le.refl _ | exact hle75 | exact hle75.trans hle81) (fun x hx => by simp at hx; subst hx; simp) hi) ?_
                  refine d_end (by kernel_rfl) ?_
                  exact mid [(8, .pointer (some ⟨b8, 0, none⟩)), (12, .pointer (some ⟨b12, 0, none⟩)), (13, .int .i64 (deedM oc key val s.v).2.1), (14, .int .i64 (deedM oc key val s.v).2.2)] ⟨rfl, rfl, rfl, rfl, trivial⟩ ⟨b12, s', rfl, rfl, hle75.trans hle81, hs', hv', hj⟩
                · skip
                  refine d_the rfl (.inl rfl) (e_alloc rfl zc_29 rfl fun b12 => ?_)
                  refine d_next (fun w hi => J.of_le (by first | exact Ro.le.refl _ | exact hle75 | exact hle75.trans hle81) (fun x hx => by simp at hx; subst hx; simp) hi) ?_
                  refine d_one 6 rfl (by kernel_rfl) (.inl rfl) (e_call rfl (deedF_fn oc) rfl rfl (hd hj _ _ hle75) fun v81 ro81 L81 hle81 hp81 => ?_)
                  obtain ⟨s', rfl, hs', hv', rfl⟩ := hp81
                  refine d_next (fun w hi => J.of_le (by first | exact Ro.le.refl _ | exact hle75 | exact hle75.trans hle81) (fun x hx => by simp at hx; subst hx; simp) hi) ?_
                  refine d_take 7 rfl (by kernel_rfl) (by kernel_rfl) (by kernel_rfl) (fun _ _ _ h => h) rfl (.inl rfl) (x_move rfl) (fun w hi => J.of_le (by first | exact Ro.le.refl _ | exact hle75 | exact hle75.trans hle81) (fun x hx => by simp at hx; subst hx; simp) hi) ?_
                  refine d_take 8 rfl (by kernel_rfl) (by kernel_rfl) (by kernel_rfl) (fun _ _ _ h => h) rfl (.inl rfl) (x_extract rfl rfl) (fun w hi => J.of_le (by first | exact Ro.le.refl _ | exact hle75 | exact hle75.trans hle81) (fun x hx => by simp at hx; subst hx; simp) hi) ?_
                  refine d_take 9 rfl (by kernel_rfl) (by kernel_rfl) (by kernel_rfl) (fun _ _ _ h => h) rfl (.inl rfl) (x_extract rfl rfl) (fun w hi => J.of_le (by first | exact Ro.le.refl _ | exact hle75 | exact hle75.trans hle81) (fun x hx => by simp at hx; subst hx; simp) hi) ?_
                  refine d_take 10 rfl (by kernel_rfl) (by kernel_rfl) (by kernel_rfl) (fun _ _ _ h => h) rfl (.inl rfl) (x_extract rfl rfl) (fun w hi => J.of_le (by first | exact Ro.le.refl _ | exact hle75 | exact hle75.trans hle81) (fun x hx => by simp at hx; subst hx; simp) hi) ?_
                  first | refine d_one 12 rfl (by kernel_rfl) (.inl rfl) (e_store 0 rfl rfl ts_29 rfl rfl rfl rfl rfl rfl ?_) | refine d_one 12 rfl (by kernel_rfl) (.inl rfl) (e_store 1 rfl rfl ts_29 rfl rfl rfl rfl rfl rfl ?_) | refine d_one 12 rfl (by kernel_rfl) (.inl rfl) (e_store 2 rfl rfl ts_29 rfl rfl rfl rfl rfl rfl ?_) | refine d_one 12 rfl (by kernel_rfl) (.inl rfl) (e_store 3 rfl rfl ts_29 rfl rfl rfl rfl rfl rfl ?_) | refine d_one 12 rfl (by kernel_rfl) (.inl rfl) (e_store 4 rfl rfl ts_29 rfl rfl rfl rfl rfl rfl ?_) | refine d_one 12 rfl (by kernel_rfl) (.inl rfl) (e_store 5 rfl rfl ts_29 rfl rfl rfl rfl rfl rfl ?_) | refine d_one 12 rfl (by kernel_rfl) (.inl rfl) (e_store 6 rfl rfl ts_29 rfl rfl rfl rfl rfl rfl ?_) | refine d_one 12 rfl (by kernel_rfl) (.inl rfl) (e_store 7 rfl rfl ts_29 rfl rfl rfl rfl rfl rfl ?_) | refine d_one 12 rfl (by kernel_rfl) (.inl rfl) (e_store 8 rfl rfl ts_29 rfl rfl rfl rfl rfl rfl ?_) | refine d_one 12 rfl (by kernel_rfl) (.inl rfl) (e_store 9 rfl rfl ts_29 rfl rfl rfl rfl rfl rfl ?_)
                  refine d_next (fun w hi => J.of_le (by first | exact Ro.le.refl _ | exact hle75 | exact hle75.trans hle81) (fun x hx => by simp at hx; subst hx; simp) hi) ?_
                  refine d_take 13 rfl (by kernel_rfl) (by kernel_rfl) (by kernel_rfl) (fun _ _ _ h => h) rfl (.inl rfl) (x_assign rfl) (fun w hi => J.of_le (by first | exact Ro.le.refl _ | exact hle75 | exact hle75.trans hle81) (fun x hx => by simp at hx; subst hx; simp) hi) ?_
                  refine d_take 14 rfl (by kernel_rfl) (by kernel_rfl) (by kernel_rfl) (fun _ _ _ h => h) rfl (.inl rfl) (x_assign rfl) (fun w hi => J.of_le (by first | exact Ro.le.refl _ | exact hle75 | exact hle75.trans hle81) (fun x hx => by simp at hx; subst hx; simp) hi) ?_
                  refine d_end (by kernel_rfl) ?_
                  exact mid [(8, .pointer (some ⟨b8, 0, none⟩)), (12, .pointer (some ⟨b12, 0, none⟩)), (13, .int .i64 (deedM oc key val s.v).2.1), (14, .int .i64 (deedM oc key val s.v).2.2)] ⟨rfl, rfl, rfl, rfl, trivial⟩ ⟨b12, s', rfl, rfl, hle75.trans hle81, hs', hv', hj⟩
              · skip
                refine d_the rfl (.inl rfl) (e_alloc rfl zc_29 rfl fun b12 => ?_)
                refine d_next (fun w hi => J.of_le (by first | exact Ro.le.refl _ | exact hle75 | exact hle75.trans hle81) (fun x hx => by simp at hx; subst hx; simp) hi) ?_
                refine d_one 2 rfl (by kernel_rfl) (.inl rfl) (y (x_lookupH (v := .func (.func (deedF oc)) #[] [].toArray) Tryz.underlying106 keI zc_105 rfl rfl (HasMap.ofRo hcr) hE (by rw [hmg]; rfl)) rfl ?_)
                refine d_next (fun w hi => J.of_le (by first | exact Ro.le.refl _ | exact hle75 | exact hle75.trans hle81) (fun x hx => by simp at hx; subst hx; simp) hi) ?_
                refine d_one 6 rfl (by kernel_rfl) (.inl rfl) (e_call rfl (deedF_fn oc) rfl rfl (hd hj _ _ hle75) fun v81 ro81 L81 hle81 hp81 => ?_)
                obtain ⟨s', rfl, hs', hv', rfl⟩ := hp81
                refine d_next (fun w hi => J.of_le (by first | exact Ro.le.refl _ | exact hle75 | exact hle75.trans hle81) (fun x hx => by simp at hx; subst hx; simp) hi) ?_
                refine d_take 7 rfl (by kernel_rfl) (by kernel_rfl) (by kernel_rfl) (fun _ _ _ h => h) rfl (.inl rfl) (x_move rfl) (fun w hi => J.of_le (by first | exact Ro.le.refl _ | exact hle75 | exact hle75.trans hle81) (fun x hx => by simp at hx; subst hx; simp) hi) ?_
                refine d_take 8 rfl (by kernel_rfl) (by kernel_rfl) (by kernel_rfl) (fun _ _ _ h => h) rfl (.inl rfl) (x_extract rfl rfl) (fun w hi => J.of_le (by first | exact Ro.le.refl _ | exact hle75 | exact hle75.trans hle81) (fun x hx => by simp at hx; subst hx; simp) hi) ?_
                refine d_take 9 rfl (by kernel_rfl) (by kernel_rfl) (by kernel_rfl) (fun _ _ _ h => h) rfl (.inl rfl) (x_extract rfl rfl) (fun w hi => J.of_le (by first | exact Ro.le.refl _ | exact hle75 | exact hle75.trans hle81) (fun x hx => by simp at hx; subst hx; simp) hi) ?_
                refine d_take 10 rfl (by kernel_rfl) (by kernel_rfl) (by kernel_rfl) (fun _ _ _ h => h) rfl (.inl rfl) (x_extract rfl rfl) (fun w hi => J.of_le (by first | exact Ro.le.refl _ | exact hle75 | exact hle75.trans hle81) (fun x hx => by simp at hx; subst hx; simp) hi) ?_
                first | refine d_one 12 rfl (by kernel_rfl) (.inl rfl) (e_store 0 rfl rfl ts_29 rfl rfl rfl rfl rfl rfl ?_) | refine d_one 12 rfl (by kernel_rfl) (.inl rfl) (e_store 1 rfl rfl ts_29 rfl rfl rfl rfl rfl rfl ?_) | refine d_one 12 rfl (by kernel_rfl) (.inl rfl) (e_store 2 rfl rfl ts_29 rfl rfl rfl rfl rfl rfl ?_) | refine d_one 12 rfl (by kernel_rfl) (.inl rfl) (e_store 3 rfl rfl ts_29 rfl rfl rfl rfl rfl rfl ?_) | refine d_one 12 rfl (by kernel_rfl) (.inl rfl) (e_store 4 rfl rfl ts_29 rfl rfl rfl rfl rfl rfl ?_) | refine d_one 12 rfl (by kernel_rfl) (.inl rfl) (e_store 5 rfl rfl ts_29 rfl rfl rfl rfl rfl rfl ?_) | refine d_one 12 rfl (by kernel_rfl) (.inl rfl) (e_store 6 rfl rfl ts_29 rfl rfl rfl rfl rfl rfl ?_) | refine d_one 12 rfl (by kernel_rfl) (.inl rfl) (e_store 7 rfl rfl ts_29 rfl rfl rfl rfl rfl rfl ?_) | refine d_one 12 rfl (by kernel_rfl) (.inl rfl) (e_store 8 rfl rfl ts_29 rfl rfl rfl rfl rfl rfl ?_) | refine d_one 12 rfl (by kernel_rfl) (.inl rfl) (e_store 9 rfl rfl ts_29 rfl rfl rfl rfl rfl rfl ?_)
                refine d_next (fun w hi => J.of_le (by first | exact Ro.le.refl _ | exact hle75 | exact hle75.trans hle81) (fun x hx => by simp at hx; subst hx; simp) hi) ?_
                refine d_take 13 rfl (by kernel_rfl) (by kernel_rfl) (by kernel_rfl) (fun _ _ _ h => h) rfl (.inl rfl) (x_assign rfl) (fun w hi => J.of_le (by first | exact Ro.le.refl _ | exact hle75 | exact hle75.trans hle81) (fun x hx => by simp at hx; subst hx; simp) hi) ?_
                refine d_take 14 rfl (by kernel_rfl) (by kernel_rfl) (by kernel_rfl) (fun _ _ _ h => h) rfl (.inl rfl) (x_assign rfl) (fun w hi => J.of_le (by first | exact Ro.le.refl _ | exact hle75 | exact hle75.trans hle81) (fun x hx => by simp at hx; subst hx; simp) hi) ?_
                refine d_end (by kernel_rfl) ?_
                exact mid [(8, .pointer (some ⟨b8, 0, none⟩)), (12, .pointer (some ⟨b12, 0, none⟩)), (13, .int .i64 (deedM oc key val s.v).2.1), (14, .int .i64 (deedM oc key val s.v).2.2)] ⟨rfl, rfl, rfl, rfl, trivial⟩ ⟨b12, s', rfl, rfl, hle75.trans hle81, hs', hv', hj⟩
            · skip
              refine d_the rfl (.inl rfl) (e_alloc rfl zc_29 rfl fun b12 => ?_)
              refine d_next (fun w hi => J.of_le (by first | exact Ro.le.refl _ | exact hle75 | exact hle75.trans hle81) (fun x hx => by simp at hx; subst hx; simp) hi) ?_
              refine d_one 0 rfl (by kernel_rfl) (.inl rfl) (e_call rfl fn_52 rfl rfl (deeds_c _ _) fun v75 ro75 L75 hle75 hp75 => ?_)
              obtain ⟨rm, em, cm, mm, rfl, hcr, hE, hM, rfl⟩ := hp75
              have hmg := hM oc hop.1 hop.2
              refine d_next (fun w hi => J.of_le (by first | exact Ro.le.refl _ | exact hle75 | exact hle75.trans hle81) (fun x hx => by simp at hx; subst hx; simp) hi) ?_
              refine d_one 2 rfl (by kernel_rfl) (.inl rfl) (y (x_lookupH (v := .func (.func (deedF oc)) #[] [].toArray) Tryz.underlying106 keI zc_105 rfl rfl (HasMap.ofRo hcr) hE (by rw [hmg]; rfl)) rfl ?_)
              refine d_next (fun w hi => J.of_le (by first | exact Ro.le.refl _ | exact hle75 | exact hle75.trans hle81) (fun x hx => by simp at hx; subst hx; simp) hi) ?_
              refine d_one 6 rfl (by kernel_rfl) (.inl rfl) (e_call rfl (deedF_fn oc) rfl rfl (hd hj _ _ hle75) fun v81 ro81 L81 hle81 hp81 => ?_)
              obtain ⟨s', rfl, hs', hv', rfl⟩ := hp81
              refine d_next (fun w hi => J.of_le (by first | exact Ro.le.refl _ | exact hle75 | exact hle75.trans hle81) (fun x hx => by simp at hx; subst hx; simp) hi) ?_
              refine d_take 7 rfl (by kernel_rfl) (by kernel_rfl) (by kernel_rfl) (fun _ _ _ h => h) rfl (.inl rfl) (x_move rfl) (fun w hi => J.of_le (by first | exact Ro.le.refl _ | exact hle75 | exact hle75.trans hle81) (fun x hx => by simp at hx; subst hx; simp) hi) ?_
              refine d_take 8 rfl (by kernel_rfl) (by kernel_rfl) (by kernel_rfl) (fun _ _ _ h => h) rfl (.inl rfl) (x_extract rfl rfl) (fun w hi => J.of_le (by first | exact Ro.le.refl _ | exact hle75 | exact hle75.trans hle81) (fun x hx => by simp at hx; subst hx; simp) hi) ?_
              refine d_take 9 rfl (by kernel_rfl) (by kernel_rfl) (by kernel_rfl) (fun _ _ _ h => h) rfl (.inl rfl) (x_extract rfl rfl) (fun w hi => J.of_le (by first | exact Ro.le.refl _ | exact hle75 | exact hle75.trans hle81) (fun x hx => by simp at hx; subst hx; simp) hi) ?_
              refine d_take 10 rfl (by kernel_rfl) (by kernel_rfl) (by kernel_rfl) (fun _ _ _ h => h) rfl (.inl rfl) (x_extract rfl rfl) (fun w hi => J.of_le (by first | exact Ro.le.refl _ | exact hle75 | exact hle75.trans hle81) (fun x hx => by simp at hx; subst hx; simp) hi) ?_
              first | refine d_one 12 rfl (by kernel_rfl) (.inl rfl) (e_store 0 rfl rfl ts_29 rfl rfl rfl rfl rfl rfl ?_) | refine d_one 12 rfl (by kernel_rfl) (.inl rfl) (e_store 1 rfl rfl ts_29 rfl rfl rfl rfl rfl rfl ?_) | refine d_one 12 rfl (by kernel_rfl) (.inl rfl) (e_store 2 rfl rfl ts_29 rfl rfl rfl rfl rfl rfl ?_) | refine d_one 12 rfl (by kernel_rfl) (.inl rfl) (e_store 3 rfl rfl ts_29 rfl rfl rfl rfl rfl rfl ?_) | refine d_one 12 rfl (by kernel_rfl) (.inl rfl) (e_store 4 rfl rfl ts_29 rfl rfl rfl rfl rfl rfl ?_) | refine d_one 12 rfl (by kernel_rfl) (.inl rfl) (e_store 5 rfl rfl ts_29 rfl rfl rfl rfl rfl rfl ?_) | refine d_one 12 rfl (by kernel_rfl) (.inl rfl) (e_store 6 rfl rfl ts_29 rfl rfl rfl rfl rfl rfl ?_) | refine d_one 12 rfl (by kernel_rfl) (.inl rfl) (e_store 7 rfl rfl ts_29 rfl rfl rfl rfl rfl rfl ?_) | refine d_one 12 rfl (by kernel_rfl) (.inl rfl) (e_store 8 rfl rfl ts_29 rfl rfl rfl rfl rfl rfl ?_) | refine d_one 12 rfl (by kernel_rfl) (.inl rfl) (e_store 9 rfl rfl ts_29 rfl rfl rfl rfl rfl rfl ?_)
              refine d_next (fun w hi => J.of_le (by first | exact Ro.le.refl _ | exact hle75 | exact hle75.trans hle81) (fun x hx => by simp at hx; subst hx; simp) hi) ?_
              refine d_take 13 rfl (by kernel_rfl) (by kernel_rfl) (by kernel_rfl) (fun _ _ _ h => h) rfl (.inl rfl) (x_assign rfl) (fun w hi => J.of_le (by first | exact Ro.le.refl _ | exact hle75 | exact hle75.trans hle81) (fun x hx => by simp at hx; subst hx; simp) hi) ?_
              refine d_take 14 rfl (by kernel_rfl) (by kernel_rfl) (by kernel_rfl) (fun _ _ _ h => h) rfl (.inl rfl) (x_assign rfl) (fun w hi => J.of_le (by first | exact Ro.le.refl _ | exact hle75 | exact hle75.trans hle81) (fun x hx => by simp at hx; subst hx; simp) hi) ?_
              refine d_end (by kernel_rfl) ?_
              exact mid [(8, .pointer (some ⟨b8, 0, none⟩)), (12, .pointer (some ⟨b12, 0, none⟩)), (13, .int .i64 (deedM oc key val s.v).2.1), (14, .int .i64 (deedM oc key val s.v).2.2)] ⟨rfl, rfl, rfl, rfl, trivial⟩ ⟨b12, s', rfl, rfl, hle75.trans hle81, hs', hv', hj⟩
          · rintro F ro' L' ⟨b12, s', rfl, rfl, hro, hs2, hv2, hj⟩
            refine seq ?_
            refine region ?_
            refine op (y ((by first | exact x_loadOwn 0 _ ag_29 rfl rfl rfl rfl | exact x_loadOwn 1 _ ag_29 rfl rfl rfl rfl | exact x_loadOwn 2 _ ag_29 rfl rfl rfl rfl | exact x_loadOwn 3 _ ag_29 rfl rfl rfl rfl | exact x_loadOwn 4 _ ag_29 rfl rfl rfl rfl | exact x_loadOwn 5 _ ag_29 rfl rfl rfl rfl | exact x_loadOwn 6 _ ag_29 rfl rfl rfl rfl | exact x_loadOwn 7 _ ag_29 rfl rfl rfl rfl | exact x_loadOwn 8 _ ag_29 rfl rfl rfl rfl | exact x_loadOwn 9 _ ag_29 rfl rfl rfl rfl | exact x_loadOwn 10 _ ag_29 rfl rfl rfl rfl | exact x_loadOwn 11 _ ag_29 rfl rfl rfl rfl)) rfl ?_)
            refine op (y (x_move rfl) rfl ?_)
            refine op (y (x_move rfl) rfl ?_)
            first | refine op (e_store 0 rfl rfl ts_29 rfl rfl rfl rfl rfl rfl ?_) | refine op (e_store 1 rfl rfl ts_29 rfl rfl rfl rfl rfl rfl ?_) | refine op (e_store 2 rfl rfl ts_29 rfl rfl rfl rfl rfl rfl ?_) | refine op (e_store 3 rfl rfl ts_29 rfl rfl rfl rfl rfl rfl ?_) | refine op (e_store 4 rfl rfl ts_29 rfl rfl rfl rfl rfl rfl ?_) | refine op (e_store 5 rfl rfl ts_29 rfl rfl rfl rfl rfl rfl ?_) | refine op (e_store 6 rfl rfl ts_29 rfl rfl rfl rfl rfl rfl ?_) | refine op (e_store 7 rfl rfl ts_29 rfl rfl rfl rfl rfl rfl ?_) | refine op (e_store 8 rfl rfl ts_29 rfl rfl rfl rfl rfl rfl ?_) | refine op (e_store 9 rfl rfl ts_29 rfl rfl rfl rfl rfl rfl ?_)
            refine op (y (x_assign rfl) rfl ?_)
            refine op (y (x_assign rfl) rfl ?_)
            refine op (y (x_assign rfl) rfl ?_)
            refine nil ?_
            refine n_then ?_
            refine ret ?_
            exact done rfl (Res.cellN ag_29 rfl rfl (CellsAt.own 1 0 4 _ rfl rfl) (.tmp rfl (.tmp rfl (.tmp rfl (.nil))))) (hro) (L) (subF (by (repeat (first | exact List.Sublist.refl _ | apply List.Sublist.cons_cons | apply List.Sublist.cons)); done)) (⟨s', _, _, by rw [hj]; rfl, hs2, rfl, .inl ⟨hj, by rw [hv2]⟩⟩)

end Go.Proofs.YtgkngljojfkkfaaGreatDoor
