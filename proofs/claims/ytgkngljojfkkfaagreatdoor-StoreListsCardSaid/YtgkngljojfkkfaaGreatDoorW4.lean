/- The walks of lists that never change: an element; another element at a place; lists of numbers. -/
import Derived.Test.YtgkngljojfkkfaaGreatDoorW3
namespace Go.Proofs.YtgkngljojfkkfaaGreatDoor
open Go Go.U
set_option maxRecDepth 20000
set_option linter.unusedSimpArgs false
set_option linter.unusedVariables false

def atL {α : Type} (l : List α) (i : Int) : Option α := if 0 ≤ i then l[i.toNat]? else none
theorem atL_none {α : Type} {l : List α} {i : Int} (h : i < 0 ∨ (l.length : Int) ≤ i) : atL l i = none := by
  unfold atL
  split
  · rw [List.getElem?_eq_none (by omega)]
  · rfl
theorem atL_some {α : Type} {l : List α} {j : Nat} {x : α} (h : l[j]? = some x) : atL l (j : Int) = some x := by
  unfold atL
  rw [if_pos (by omega)]; simpa using h
def setL {α : Type} (l : List α) (i : Int) (x : α) : List α := if 0 ≤ i then l.set i.toNat x else l
theorem setL_none {α : Type} {l : List α} {i : Int} {x : α} (h : i < 0 ∨ (l.length : Int) ≤ i) : setL l i x = l := by
  unfold setL
  split
  · rw [List.set_eq_of_length_le (by omega)]
  · rfl
theorem setL_some {α : Type} {l : List α} {j : Nat} {x : α} : setL l (j : Int) x = l.set j x := by
  unfold setL
  rw [if_pos (by omega)]; simp
theorem setL_len {α : Type} {l : List α} {i : Int} {x : α} : (setL l i x).length = l.length := by
  unfold setL
  split <;> simp

theorem AtI_c (l : List Int) (A : Option Addr) (cap : Nat) (i : Int) (ro : Ro) (L : List (List Blk)) (hl : Sl ro 1 encInt A cap l) :
    CT Tryz.prog 25 [.agg [.slice A l.length cap].toArray, .int .i64 i].toArray ro L (PQ (.tuple [.int .i64 ((atL l i).getD 0), .bool (atL l i).isSome].toArray) ro L) := by
  have hcap := cap_ge hl
  refine enter Tryz.func25 rfl Tryz.ntmps25 rfl ?_
  refine seq ?_
  refine region ?_
  refine op (e_box rfl rfl rfl fun b2 => ?_)
  refine op (y (x_assign rfl) rfl ?_)
  refine op (y (x_assign rfl) rfl ?_)
  refine nil ?_
  refine n_then ?_
  refine seq ?_
  refine seq ?_
  refine region ?_
  refine op (y (x_move rfl) rfl ?_)
  refine op (y (x_lss rfl rfl) rfl ?_)
  refine op (y (x_move rfl) rfl ?_)
  refine bsplit 9 rfl (fun g9 => ?_) (fun g9 => ?_)
  · try simp only [decide_eq_true_eq, decide_eq_false_iff_not, beq_iff_eq, bne_iff_ne, ne_eq, beq_eq_false_iff_ne, bne_eq_false_iff_eq, Bool.not_eq_true', Bool.not_eq_false', Bool.not_eq_true, Bool.not_eq_false, Decidable.not_not, Int.not_lt, Int.not_le] at g9
    refine opN rfl rfl rfl rfl ?_
    refine opN rfl rfl rfl rfl ?_
    refine opN rfl rfl rfl rfl ?_
    refine opN rfl rfl rfl rfl ?_
    refine opN rfl rfl rfl rfl ?_
    refine op (y (x_pickT rfl rfl) rfl ?_)
    refine nil ?_
    refine n_then ?_
    refine condT rfl ?_
    refine seq ?_
    refine region ?_
    refine op (y (x_assign rfl) rfl ?_)
    refine nil ?_
    refine n_then ?_
    refine seq ?_
    refine region ?_
    refine op (y (x_move rfl) rfl ?_)
    refine op (y (x_assign rfl) rfl ?_)
    refine op (y (x_assign rfl) rfl ?_)
    refine nil ?_
    refine n_then ?_
    refine ret ?_
    refine r_then ?_
    exact done rfl (.tmp rfl (.tmp rfl (.nil))) (Ro.le.refl _) (L) (subF (by (repeat (first | exact List.Sublist.refl _ | apply List.Sublist.cons_cons | apply List.Sublist.cons)); done)) (⟨by rw [atL_none (l := l) (i := i) (by omega)]; rfl, rfl, rfl⟩)
  · try simp only [decide_eq_true_eq, decide_eq_false_iff_not, beq_iff_eq, bne_iff_ne, ne_eq, beq_eq_false_iff_ne, bne_eq_false_iff_eq, Bool.not_eq_true', Bool.not_eq_false', Bool.not_eq_true, Bool.not_eq_false, Decidable.not_not, Int.not_lt, Int.not_le] at g9
    refine opG rfl rfl (y (x_move rfl) rfl ?_)
    refine opG rfl rfl (y (x_fieldAddr fo_46_0 rfl) rfl ?_)
    refine opG rfl rfl (y (x_load1 ag_26 rfl (by first | assumption | exact Cell.own 0 rfl rfl | exact Cell.own 1 rfl rfl | exact Cell.own 2 rfl rfl | exact Cell.own 3 rfl rfl | exact Cell.own 4 rfl rfl | exact Cell.own 5 rfl rfl | exact Cell.own 6 rfl rfl | exact Cell.own 7 rfl rfl | exact Cell.own 8 rfl rfl | exact Cell.own 9 rfl rfl | exact Cell.ofRo (by assumption))) rfl ?_)
    refine opG rfl rfl (y (x_lenSl sz_26 rfl) rfl ?_)
    refine opG rfl rfl (y (x_geq rfl rfl) rfl ?_)
    refine op (y (x_pickF rfl rfl) rfl ?_)
    refine nil ?_
    refine n_then ?_
    refine cond rfl (fun h1 => ?_) (fun h1 => ?_)
    · try simp only [decide_eq_true_eq, decide_eq_false_iff_not, beq_iff_eq, bne_iff_ne, ne_eq, beq_eq_false_iff_ne, bne_eq_false_iff_eq, Bool.not_eq_true', Bool.not_eq_false', Bool.not_eq_true, Bool.not_eq_false, Decidable.not_not, Int.not_lt, Int.not_le] at h1
      refine seq ?_
      refine region ?_
      refine op (y (x_assign rfl) rfl ?_)
      refine nil ?_
      refine n_then ?_
      refine seq ?_
      refine region ?_
      refine op (y (x_move rfl) rfl ?_)
      refine op (y (x_assign rfl) rfl ?_)
      refine op (y (x_assign rfl) rfl ?_)
      refine nil ?_
      refine n_then ?_
      refine ret ?_
      refine r_then ?_
      exact done rfl (.tmp rfl (.tmp rfl (.nil))) (Ro.le.refl _) (L) (subF (by (repeat (first | exact List.Sublist.refl _ | apply List.Sublist.cons_cons | apply List.Sublist.cons)); done)) (⟨by rw [atL_none (l := l) (i := i) (by omega)]; rfl, rfl, rfl⟩)
    · try simp only [decide_eq_true_eq, decide_eq_false_iff_not, beq_iff_eq, bne_iff_ne, ne_eq, beq_eq_false_iff_ne, bne_eq_false_iff_eq, Bool.not_eq_true', Bool.not_eq_false', Bool.not_eq_true, Bool.not_eq_false, Decidable.not_not, Int.not_lt, Int.not_le] at h1
      refine skip ?_
      refine n_then ?_
      refine seq ?_
      obtain ⟨j, rfl⟩ := Int.eq_ofNat_of_zero_le (show 0 ≤ i by omega)
      obtain ⟨bbx, offx, rfl, hcx⟩ := hl.at_ (i := j) (by omega)
      have hx := List.getElem?_eq_getElem (show j < l.length from by omega)
      refine region ?_
      refine op (y (x_fieldAddr fo_46_0 rfl) rfl ?_)
      refine op (y (x_load1 ag_26 rfl (by first | assumption | exact Cell.own 0 rfl rfl | exact Cell.own 1 rfl rfl | exact Cell.own 2 rfl rfl | exact Cell.own 3 rfl rfl | exact Cell.own 4 rfl rfl | exact Cell.own 5 rfl rfl | exact Cell.own 6 rfl rfl | exact Cell.own 7 rfl rfl | exact Cell.own 8 rfl rfl | exact Cell.own 9 rfl rfl | exact Cell.ofRo (by assumption))) rfl ?_)
      refine op (y (x_move rfl) rfl ?_)
      refine op (y (x_indexNat sz_26 rfl rfl (by omega)) rfl ?_)
      refine op (y (x_load1 ag_3 rfl (Cell.ofRo (hcx j _ hx 0 _ rfl))) rfl ?_)
      refine op (y (x_assign rfl) rfl ?_)
      refine op (y (x_assign rfl) rfl ?_)
      refine nil ?_
      refine n_then ?_
      refine ret ?_
      exact done rfl (.tmp rfl (.tmp rfl (.nil))) (Ro.le.refl _) (L) (subF (by (repeat (first | exact List.Sublist.refl _ | apply List.Sublist.cons_cons | apply List.Sublist.cons)); done)) (⟨by rw [atL_some (l := l) hx]; rfl, rfl, rfl⟩)

theorem WithI_c (l : List Int) (A : Option Addr) (cap : Nat) (i : Int) (x : Int) (ro : Ro) (L : List (List Blk)) (hl : Sl ro 1 encInt A cap l) (hn : l.length ≤ 1000000) :
    CT Tryz.prog 23 [.agg [.slice A l.length cap].toArray, .int .i64 i, .int .i64 x].toArray ro L (PL 1 encInt (setL l i x) L) := by
  have hcap := cap_ge hl
  refine enter Tryz.func23 rfl Tryz.ntmps23 rfl ?_
  refine seq ?_
  refine region ?_
  refine op (e_box rfl rfl rfl fun b3 => ?_)
  refine op (e_alloc rfl zc_46 rfl fun b6 => ?_)
  refine nil ?_
  refine n_then ?_
  refine seq ?_
  refine seq ?_
  refine region ?_
  refine op (y (x_move rfl) rfl ?_)
  refine op (y (x_lss rfl rfl) rfl ?_)
  refine op (y (x_move rfl) rfl ?_)
  refine bsplit 10 rfl (fun g10 => ?_) (fun g10 => ?_)
  · try simp only [decide_eq_true_eq, decide_eq_false_iff_not, beq_iff_eq, bne_iff_ne, ne_eq, beq_eq_false_iff_ne, bne_eq_false_iff_eq, Bool.not_eq_true', Bool.not_eq_false', Bool.not_eq_true, Bool.not_eq_false, Decidable.not_not, Int.not_lt, Int.not_le] at g10
    refine opN rfl rfl rfl rfl ?_
    refine opN rfl rfl rfl rfl ?_
    refine opN rfl rfl rfl rfl ?_
    refine opN rfl rfl rfl rfl ?_
    refine opN rfl rfl rfl rfl ?_
    refine op (y (x_pickT rfl rfl) rfl ?_)
    refine nil ?_
    refine n_then ?_
    refine condT rfl ?_
    refine seq ?_
    refine region ?_
    refine op (y ((by first | exact x_loadOwn 0 _ ag_46 rfl rfl rfl rfl | exact x_loadOwn 1 _ ag_46 rfl rfl rfl rfl | exact x_loadOwn 2 _ ag_46 rfl rfl rfl rfl | exact x_loadOwn 3 _ ag_46 rfl rfl rfl rfl | exact x_loadOwn 4 _ ag_46 rfl rfl rfl rfl | exact x_loadOwn 5 _ ag_46 rfl rfl rfl rfl | exact x_loadOwn 6 _ ag_46 rfl rfl rfl rfl | exact x_loadOwn 7 _ ag_46 rfl rfl rfl rfl | exact x_loadOwn 8 _ ag_46 rfl rfl rfl rfl | exact x_loadOwn 9 _ ag_46 rfl rfl rfl rfl | exact x_loadOwn 10 _ ag_46 rfl rfl rfl rfl | exact x_loadOwn 11 _ ag_46 rfl rfl rfl rfl)) rfl ?_)
    first | refine op (e_store 0 rfl rfl ts_46 rfl rfl rfl rfl rfl rfl ?_) | refine op (e_store 1 rfl rfl ts_46 rfl rfl rfl rfl rfl rfl ?_) | refine op (e_store 2 rfl rfl ts_46 rfl rfl rfl rfl rfl rfl ?_) | refine op (e_store 3 rfl rfl ts_46 rfl rfl rfl rfl rfl rfl ?_) | refine op (e_store 4 rfl rfl ts_46 rfl rfl rfl rfl rfl rfl ?_) | refine op (e_store 5 rfl rfl ts_46 rfl rfl rfl rfl rfl rfl ?_) | refine op (e_store 6 rfl rfl ts_46 rfl rfl rfl rfl rfl rfl ?_) | refine op (e_store 7 rfl rfl ts_46 rfl rfl rfl rfl rfl rfl ?_) | refine op (e_store 8 rfl rfl ts_46 rfl rfl rfl rfl rfl rfl ?_) | refine op (e_store 9 rfl rfl ts_46 rfl rfl rfl rfl rfl rfl ?_)
    refine nil ?_
    refine n_then ?_
    refine ret ?_
    refine r_then ?_
    exact done rfl (Res.cellN ag_46 rfl rfl (CellsAt.own 0 0 1 _ rfl rfl) (.nil)) (Ro.le.refl _) (L) (subF (by (repeat (first | exact List.Sublist.refl _ | apply List.Sublist.cons_cons | apply List.Sublist.cons)); done)) (⟨A, cap, by rw [setL_none (by omega)]; rfl, by rw [setL_none (by omega)]; exact hl, rfl⟩)
  · try simp only [decide_eq_true_eq, decide_eq_false_iff_not, beq_iff_eq, bne_iff_ne, ne_eq, beq_eq_false_iff_ne, bne_eq_false_iff_eq, Bool.not_eq_true', Bool.not_eq_false', Bool.not_eq_true, Bool.not_eq_false, Decidable.not_not, Int.not_lt, Int.not_le] at g10
    refine opG rfl rfl (y (x_move rfl) rfl ?_)
    refine opG rfl rfl (y (x_fieldAddr fo_46_0 rfl) rfl ?_)
    refine opG rfl rfl (y (x_load1 ag_26 rfl (by first | assumption | exact Cell.own 0 rfl rfl | exact Cell.own 1 rfl rfl | exact Cell.own 2 rfl rfl | exact Cell.own 3 rfl rfl | exact Cell.own 4 rfl rfl | exact Cell.own 5 rfl rfl | exact Cell.own 6 rfl rfl | exact Cell.own 7 rfl rfl | exact Cell.own 8 rfl rfl | exact Cell.own 9 rfl rfl | exact Cell.ofRo (by assumption))) rfl ?_)
    refine opG rfl rfl (y (x_lenSl sz_26 rfl) rfl ?_)
    refine opG rfl rfl (y (x_geq rfl rfl) rfl ?_)
    refine op (y (x_pickF rfl rfl) rfl ?_)
    refine nil ?_
    refine n_then ?_
    refine cond rfl (fun h1 => ?_) (fun h1 => ?_)
    · try simp only [decide_eq_true_eq, decide_eq_false_iff_not, beq_iff_eq, bne_iff_ne, ne_eq, beq_eq_false_iff_ne, bne_eq_false_iff_eq, Bool.not_eq_true', Bool.not_eq_false', Bool.not_eq_true, Bool.not_eq_false, Decidable.not_not, Int.not_lt, Int.not_le] at h1
      refine seq ?_
      refine region ?_
      refine op (y ((by first | exact x_loadOwn 0 _ ag_46 rfl rfl rfl rfl | exact x_loadOwn 1 _ ag_46 rfl rfl rfl rfl | exact x_loadOwn 2 _ ag_46 rfl rfl rfl rfl | exact x_loadOwn 3 _ ag_46 rfl rfl rfl rfl | exact x_loadOwn 4 _ ag_46 rfl rfl rfl rfl | exact x_loadOwn 5 _ ag_46 rfl rfl rfl rfl | exact x_loadOwn 6 _ ag_46 rfl rfl rfl rfl | exact x_loadOwn 7 _ ag_46 rfl rfl rfl rfl | exact x_loadOwn 8 _ ag_46 rfl rfl rfl rfl | exact x_loadOwn 9 _ ag_46 rfl rfl rfl rfl | exact x_loadOwn 10 _ ag_46 rfl rfl rfl rfl | exact x_loadOwn 11 _ ag_46 rfl rfl rfl rfl)) rfl ?_)
      first | refine op (e_store 0 rfl rfl ts_46 rfl rfl rfl rfl rfl rfl ?_) | refine op (e_store 1 rfl rfl ts_46 rfl rfl rfl rfl rfl rfl ?_) | refine op (e_store 2 rfl rfl ts_46 rfl rfl rfl rfl rfl rfl ?_) | refine op (e_store 3 rfl rfl ts_46 rfl rfl rfl rfl rfl rfl ?_) | refine op (e_store 4 rfl rfl ts_46 rfl rfl rfl rfl rfl rfl ?_) | refine op (e_store 5 rfl rfl ts_46 rfl rfl rfl rfl rfl rfl ?_) | refine op (e_store 6 rfl rfl ts_46 rfl rfl rfl rfl rfl rfl ?_) | refine op (e_store 7 rfl rfl ts_46 rfl rfl rfl rfl rfl rfl ?_) | refine op (e_store 8 rfl rfl ts_46 rfl rfl rfl rfl rfl rfl ?_) | refine op (e_store 9 rfl rfl ts_46 rfl rfl rfl rfl rfl rfl ?_)
      refine nil ?_
      refine n_then ?_
      refine ret ?_
      refine r_then ?_
      exact done rfl (Res.cellN ag_46 rfl rfl (CellsAt.own 0 0 1 _ rfl rfl) (.nil)) (Ro.le.refl _) (L) (subF (by (repeat (first | exact List.Sublist.refl _ | apply List.Sublist.cons_cons | apply List.Sublist.cons)); done)) (⟨A, cap, by rw [setL_none (by omega)]; rfl, by rw [setL_none (by omega)]; exact hl, rfl⟩)
    · try simp only [decide_eq_true_eq, decide_eq_false_iff_not, beq_iff_eq, bne_iff_ne, ne_eq, beq_eq_false_iff_ne, bne_eq_false_iff_eq, Bool.not_eq_true', Bool.not_eq_false', Bool.not_eq_true, Bool.not_eq_false, Decidable.not_not, Int.not_lt, Int.not_le] at h1
      refine skip ?_
      refine n_then ?_
      refine seq ?_
      refine region ?_
      refine op (y (x_fieldAddr fo_46_0 rfl) rfl ?_)
      refine op (y (x_load1 ag_26 rfl (by first | assumption | exact Cell.own 0 rfl rfl | exact Cell.own 1 rfl rfl | exact Cell.own 2 rfl rfl | exact Cell.own 3 rfl rfl | exact Cell.own 4 rfl rfl | exact Cell.own 5 rfl rfl | exact Cell.own 6 rfl rfl | exact Cell.own 7 rfl rfl | exact Cell.own 8 rfl rfl | exact Cell.own 9 rfl rfl | exact Cell.ofRo (by assumption))) rfl ?_)
      refine op (e_call rfl fn_22 rfl rfl (OfI_o l A cap _ _ (Sl.src hl (by decide)) hn) fun v20 ro20 L20 hle20 hp20 => ?_)
      obtain ⟨A20, c20, R20, rfl, hO20, rfl⟩ := hp20
      refine op (e_alloc rfl zc_46 rfl fun b7 => ?_)
      first | refine op (e_store 0 rfl rfl ts_46 rfl rfl rfl rfl rfl rfl ?_) | refine op (e_store 1 rfl rfl ts_46 rfl rfl rfl rfl rfl rfl ?_) | refine op (e_store 2 rfl rfl ts_46 rfl rfl rfl rfl rfl rfl ?_) | refine op (e_store 3 rfl rfl ts_46 rfl rfl rfl rfl rfl rfl ?_) | refine op (e_store 4 rfl rfl ts_46 rfl rfl rfl rfl rfl rfl ?_) | refine op (e_store 5 rfl rfl ts_46 rfl rfl rfl rfl rfl rfl ?_) | refine op (e_store 6 rfl rfl ts_46 rfl rfl rfl rfl rfl rfl ?_) | refine op (e_store 7 rfl rfl ts_46 rfl rfl rfl rfl rfl rfl ?_) | refine op (e_store 8 rfl rfl ts_46 rfl rfl rfl rfl rfl rfl ?_) | refine op (e_store 9 rfl rfl ts_46 rfl rfl rfl rfl rfl rfl ?_)
      refine nil ?_
      refine n_then ?_
      refine seq ?_
      obtain ⟨j, rfl⟩ := Int.eq_ofNat_of_zero_le (show 0 ≤ i by omega)
      have hjl : j < l.length := by omega
      obtain ⟨bt, ot, curt, rfl, rfl, _, hct⟩ := hO20.at_ (show 0 < l.length by omega)
      refine region ?_
      refine op (y (x_fieldAddr fo_46_0 rfl) rfl ?_)
      refine op (y (x_load1 ag_26 rfl (by first | assumption | exact Cell.own 0 rfl rfl | exact Cell.own 1 rfl rfl | exact Cell.own 2 rfl rfl | exact Cell.own 3 rfl rfl | exact Cell.own 4 rfl rfl | exact Cell.own 5 rfl rfl | exact Cell.own 6 rfl rfl | exact Cell.own 7 rfl rfl | exact Cell.own 8 rfl rfl | exact Cell.own 9 rfl rfl | exact Cell.ofRo (by assumption))) rfl ?_)
      refine op (y (x_move rfl) rfl ?_)
      refine op (y (x_move rfl) rfl ?_)
      refine op (y (x_indexNat sz_26 rfl rfl (by omega)) rfl ?_)
      refine op (e_storeS (q := j * 1) (xs := l.flatMap encInt) (m := l.length) 1 rfl rfl ts_3 rfl rfl rfl rfl hO20 (by simp [encInt]; omega) (fun _ => rfl) fun R4 hO4 => ?_)
      refine nil ?_
      refine n_then ?_
      refine seq ?_
      have hO5 : OwnS 3 1 (some ⟨bt, ot, none⟩) (setL l (j : Int) x).length c20 ((setL l (j : Int) x).flatMap encInt) R4 := by
        rw [setL_len, setL_some, ← flat_set (k := 1) (enc := encInt) rfl (fun _ _ => rfl) hjl]
        exact hO4
      refine swap0 (R := [(b7, _)]) (S := R4) ?_
      refine ufreeze fun rz hz hR => ?_
      have hS5 := hO5.sl int_len hR
      refine region ?_
      refine op (y ((by first | exact x_loadOwn 0 _ ag_46 rfl rfl rfl rfl | exact x_loadOwn 1 _ ag_46 rfl rfl rfl rfl | exact x_loadOwn 2 _ ag_46 rfl rfl rfl rfl | exact x_loadOwn 3 _ ag_46 rfl rfl rfl rfl | exact x_loadOwn 4 _ ag_46 rfl rfl rfl rfl | exact x_loadOwn 5 _ ag_46 rfl rfl rfl rfl | exact x_loadOwn 6 _ ag_46 rfl rfl rfl rfl | exact x_loadOwn 7 _ ag_46 rfl rfl rfl rfl | exact x_loadOwn 8 _ ag_46 rfl rfl rfl rfl | exact x_loadOwn 9 _ ag_46 rfl rfl rfl rfl | exact x_loadOwn 10 _ ag_46 rfl rfl rfl rfl | exact x_loadOwn 11 _ ag_46 rfl rfl rfl rfl)) rfl ?_)
      first | refine op (e_store 0 rfl rfl ts_46 rfl rfl rfl rfl rfl rfl ?_) | refine op (e_store 1 rfl rfl ts_46 rfl rfl rfl rfl rfl rfl ?_) | refine op (e_store 2 rfl rfl ts_46 rfl rfl rfl rfl rfl rfl ?_) | refine op (e_store 3 rfl rfl ts_46 rfl rfl rfl rfl rfl rfl ?_) | refine op (e_store 4 rfl rfl ts_46 rfl rfl rfl rfl rfl rfl ?_) | refine op (e_store 5 rfl rfl ts_46 rfl rfl rfl rfl rfl rfl ?_) | refine op (e_store 6 rfl rfl ts_46 rfl rfl rfl rfl rfl rfl ?_) | refine op (e_store 7 rfl rfl ts_46 rfl rfl rfl rfl rfl rfl ?_) | refine op (e_store 8 rfl rfl ts_46 rfl rfl rfl rfl rfl rfl ?_) | refine op (e_store 9 rfl rfl ts_46 rfl rfl rfl rfl rfl rfl ?_)
      refine nil ?_
      refine n_then ?_
      refine ret ?_
      exact done rfl (Res.cellN ag_46 rfl rfl (CellsAt.own 1 0 1 _ rfl rfl) (.nil)) (hle20.trans hz) (L) (subF (by (repeat (first | exact List.Sublist.refl _ | apply List.Sublist.cons_cons | apply List.Sublist.cons)); done)) (⟨_, c20, by rw [setL_len]; rfl, hS5, rfl⟩)

theorem AtS_c (l : List Sn) (A : Option Addr) (cap : Nat) (i : Int) (ro : Ro) (L : List (List Blk)) (hl : Sl ro 4 encSn A cap l) :
    CT Tryz.prog 72 [.agg [.slice A l.length cap].toArray, .int .i64 i].toArray ro L (PQ (.tuple [.agg (encSn ((atL l i).getD zeroSn)).toArray, .bool (atL l i).isSome].toArray) ro L) := by
  have hcap := cap_ge hl
  refine enter Tryz.func72 rfl Tryz.ntmps72 rfl ?_
  refine seq ?_
  refine region ?_
  refine op (e_box rfl rfl rfl fun b2 => ?_)
  refine op (e_alloc rfl zc_29 rfl fun b4 => ?_)
  refine op (y (x_assign rfl) rfl ?_)
  refine nil ?_
  refine n_then ?_
  refine seq ?_
  refine seq ?_
  refine region ?_
  refine op (y (x_move rfl) rfl ?_)
  refine op (y (x_lss rfl rfl) rfl ?_)
  refine op (y (x_move rfl) rfl ?_)
  refine bsplit 9 rfl (fun g9 => ?_) (fun g9 => ?_)
  · try simp only [decide_eq_true_eq, decide_eq_false_iff_not, beq_iff_eq, bne_iff_ne, ne_eq, beq_eq_false_iff_ne, bne_eq_false_iff_eq, Bool.not_eq_true', Bool.not_eq_false', Bool.not_eq_true, Bool.not_eq_false, Decidable.not_not, Int.not_lt, Int.not_le] at g9
    refine opN rfl rfl rfl rfl ?_
    refine opN rfl rfl rfl rfl ?_
    refine opN rfl rfl rfl rfl ?_
    refine opN rfl rfl rfl rfl ?_
    refine opN rfl rfl rfl rfl ?_
    refine op (y (x_pickT rfl rfl) rfl ?_)
    refine nil ?_
    refine n_then ?_
    refine condT rfl ?_
    refine seq ?_
    refine region ?_
    refine op (e_alloc rfl zc_29 rfl fun b6 => ?_)
    refine nil ?_
    refine n_then ?_
    refine seq ?_
    refine region ?_
    refine op (y ((by first | exact x_loadOwn 0 _ ag_29 rfl rfl rfl rfl | exact x_loadOwn 1 _ ag_29 rfl rfl rfl rfl | exact x_loadOwn 2 _ ag_29 rfl rfl rfl rfl | exact x_loadOwn 3 _ ag_29 rfl rfl rfl rfl | exact x_loadOwn 4 _ ag_29 rfl rfl rfl rfl | exact x_loadOwn 5 _ ag_29 rfl rfl rfl rfl | exact x_loadOwn 6 _ ag_29 rfl rfl rfl rfl | exact x_loadOwn 7 _ ag_29 rfl rfl rfl rfl | exact x_loadOwn 8 _ ag_29 rfl rfl rfl rfl | exact x_loadOwn 9 _ ag_29 rfl rfl rfl rfl | exact x_loadOwn 10 _ ag_29 rfl rfl rfl rfl | exact x_loadOwn 11 _ ag_29 rfl rfl rfl rfl)) rfl ?_)
    first | refine op (e_store 0 rfl rfl ts_29 rfl rfl rfl rfl rfl rfl ?_) | refine op (e_store 1 rfl rfl ts_29 rfl rfl rfl rfl rfl rfl ?_) | refine op (e_store 2 rfl rfl ts_29 rfl rfl rfl rfl rfl rfl ?_) | refine op (e_store 3 rfl rfl ts_29 rfl rfl rfl rfl rfl rfl ?_) | refine op (e_store 4 rfl rfl ts_29 rfl rfl rfl rfl rfl rfl ?_) | refine op (e_store 5 rfl rfl ts_29 rfl rfl rfl rfl rfl rfl ?_) | refine op (e_store 6 rfl rfl ts_29 rfl rfl rfl rfl rfl rfl ?_) | refine op (e_store 7 rfl rfl ts_29 rfl rfl rfl rfl rfl rfl ?_) | refine op (e_store 8 rfl rfl ts_29 rfl rfl rfl rfl rfl rfl ?_) | refine op (e_store 9 rfl rfl ts_29 rfl rfl rfl rfl rfl rfl ?_)
    refine op (y (x_assign rfl) rfl ?_)
    refine nil ?_
    refine n_then ?_
    refine ret ?_
    refine r_then ?_
    exact done rfl (Res.cellN ag_29 rfl rfl (CellsAt.own 1 0 4 _ rfl rfl) (.tmp rfl (.nil))) (Ro.le.refl _) (L) (subF (by (repeat (first | exact List.Sublist.refl _ | apply List.Sublist.cons_cons | apply List.Sublist.cons)); done)) (⟨by rw [atL_none (l := l) (i := i) (by omega)]; rfl, rfl, rfl⟩)
  · try simp only [decide_eq_true_eq, decide_eq_false_iff_not, beq_iff_eq, bne_iff_ne, ne_eq, beq_eq_false_iff_ne, bne_eq_false_iff_eq, Bool.not_eq_true', Bool.not_eq_false', Bool.not_eq_true, Bool.not_eq_false, Decidable.not_not, Int.not_lt, Int.not_le] at g9
    refine opG rfl rfl (y (x_move rfl) rfl ?_)
    refine opG rfl rfl (y (x_fieldAddr fo_64_0 rfl) rfl ?_)
    refine opG rfl rfl (y (x_load1 ag_62 rfl (by first | assumption | exact Cell.own 0 rfl rfl | exact Cell.own 1 rfl rfl | exact Cell.own 2 rfl rfl | exact Cell.own 3 rfl rfl | exact Cell.own 4 rfl rfl | exact Cell.own 5 rfl rfl | exact Cell.own 6 rfl rfl | exact Cell.own 7 rfl rfl | exact Cell.own 8 rfl rfl | exact Cell.own 9 rfl rfl | exact Cell.ofRo (by assumption))) rfl ?_)
    refine opG rfl rfl (y (x_lenSl sz_62 rfl) rfl ?_)
    refine opG rfl rfl (y (x_geq rfl rfl) rfl ?_)
    refine op (y (x_pickF rfl rfl) rfl ?_)
    refine nil ?_
    refine n_then ?_
    refine cond rfl (fun h1 => ?_) (fun h1 => ?_)
    · try simp only [decide_eq_true_eq, decide_eq_false_iff_not, beq_iff_eq, bne_iff_ne, ne_eq, beq_eq_false_iff_ne, bne_eq_false_iff_eq, Bool.not_eq_true', Bool.not_eq_false', Bool.not_eq_true, Bool.not_eq_false, Decidable.not_not, Int.not_lt, Int.not_le] at h1
      refine seq ?_
      refine region ?_
      refine op (e_alloc rfl zc_29 rfl fun b6 => ?_)
      refine nil ?_
      refine n_then ?_
      refine seq ?_
      refine region ?_
      refine op (y ((by first | exact x_loadOwn 0 _ ag_29 rfl rfl rfl rfl | exact x_loadOwn 1 _ ag_29 rfl rfl rfl rfl | exact x_loadOwn 2 _ ag_29 rfl rfl rfl rfl | exact x_loadOwn 3 _ ag_29 rfl rfl rfl rfl | exact x_loadOwn 4 _ ag_29 rfl rfl rfl rfl | exact x_loadOwn 5 _ ag_29 rfl rfl rfl rfl | exact x_loadOwn 6 _ ag_29 rfl rfl rfl rfl | exact x_loadOwn 7 _ ag_29 rfl rfl rfl rfl | exact x_loadOwn 8 _ ag_29 rfl rfl rfl rfl | exact x_loadOwn 9 _ ag_29 rfl rfl rfl rfl | exact x_loadOwn 10 _ ag_29 rfl rfl rfl rfl | exact x_loadOwn 11 _ ag_29 rfl rfl rfl rfl)) rfl ?_)
      first | refine op (e_store 0 rfl rfl ts_29 rfl rfl rfl rfl rfl rfl ?_) | refine op (e_store 1 rfl rfl ts_29 rfl rfl rfl rfl rfl rfl ?_) | refine op (e_store 2 rfl rfl ts_29 rfl rfl rfl rfl rfl rfl ?_) | refine op (e_store 3 rfl rfl ts_29 rfl rfl rfl rfl rfl rfl ?_) | refine op (e_store 4 rfl rfl ts_29 rfl rfl rfl rfl rfl rfl ?_) | refine op (e_store 5 rfl rfl ts_29 rfl rfl rfl rfl rfl rfl ?_) | refine op (e_store 6 rfl rfl ts_29 rfl rfl rfl rfl rfl rfl ?_) | refine op (e_store 7 rfl rfl ts_29 rfl rfl rfl rfl rfl rfl ?_) | refine op (e_store 8 rfl rfl ts_29 rfl rfl rfl rfl rfl rfl ?_) | refine op (e_store 9 rfl rfl ts_29 rfl rfl rfl rfl rfl rfl ?_)
      refine op (y (x_assign rfl) rfl ?_)
      refine nil ?_
      refine n_then ?_
      refine ret ?_
      refine r_then ?_
      exact done rfl (Res.cellN ag_29 rfl rfl (CellsAt.own 1 0 4 _ rfl rfl) (.tmp rfl (.nil))) (Ro.le.refl _) (L) (subF (by (repeat (first | exact List.Sublist.refl _ | apply List.Sublist.cons_cons | apply List.Sublist.cons)); done)) (⟨by rw [atL_none (l := l) (i := i) (by omega)]; rfl, rfl, rfl⟩)
    · try simp only [decide_eq_true_eq, decide_eq_false_iff_not, beq_iff_eq, bne_iff_ne, ne_eq, beq_eq_false_iff_ne, bne_eq_false_iff_eq, Bool.not_eq_true', Bool.not_eq_false', Bool.not_eq_true, Bool.not_eq_false, Decidable.not_not, Int.not_lt, Int.not_le] at h1
      refine skip ?_
      refine n_then ?_
      refine seq ?_
      obtain ⟨j, rfl⟩ := Int.eq_ofNat_of_zero_le (show 0 ≤ i by omega)
      obtain ⟨bbx, offx, rfl, hcx⟩ := hl.at_ (i := j) (by omega)
      have hx := List.getElem?_eq_getElem (show j < l.length from by omega)
      refine region ?_
      refine op (y (x_fieldAddr fo_64_0 rfl) rfl ?_)
      refine op (y (x_load1 ag_62 rfl (by first | assumption | exact Cell.own 0 rfl rfl | exact Cell.own 1 rfl rfl | exact Cell.own 2 rfl rfl | exact Cell.own 3 rfl rfl | exact Cell.own 4 rfl rfl | exact Cell.own 5 rfl rfl | exact Cell.own 6 rfl rfl | exact Cell.own 7 rfl rfl | exact Cell.own 8 rfl rfl | exact Cell.own 9 rfl rfl | exact Cell.ofRo (by assumption))) rfl ?_)
      refine op (y (x_move rfl) rfl ?_)
      refine op (y (x_indexNat sz_62 rfl rfl (by omega)) rfl ?_)
      refine op (y (x_loadN ag_29 rfl rfl (CellsAt.ofRo (fun q v hv => hcx j _ hx q v hv))) rfl ?_)
      first | refine op (e_store 0 rfl rfl ts_29 rfl rfl rfl rfl rfl rfl ?_) | refine op (e_store 1 rfl rfl ts_29 rfl rfl rfl rfl rfl rfl ?_) | refine op (e_store 2 rfl rfl ts_29 rfl rfl rfl rfl rfl rfl ?_) | refine op (e_store 3 rfl rfl ts_29 rfl rfl rfl rfl rfl rfl ?_) | refine op (e_store 4 rfl rfl ts_29 rfl rfl rfl rfl rfl rfl ?_) | refine op (e_store 5 rfl rfl ts_29 rfl rfl rfl rfl rfl rfl ?_) | refine op (e_store 6 rfl rfl ts_29 rfl rfl rfl rfl rfl rfl ?_) | refine op (e_store 7 rfl rfl ts_29 rfl rfl rfl rfl rfl rfl ?_) | refine op (e_store 8 rfl rfl ts_29 rfl rfl rfl rfl rfl rfl ?_) | refine op (e_store 9 rfl rfl ts_29 rfl rfl rfl rfl rfl rfl ?_)
      refine op (y (x_assign rfl) rfl ?_)
      refine nil ?_
      refine n_then ?_
      refine ret ?_
      exact done rfl (Res.cellN ag_29 rfl rfl (CellsAt.own 0 0 4 _ rfl rfl) (.tmp rfl (.nil))) (Ro.le.refl _) (L) (subF (by (repeat (first | exact List.Sublist.refl _ | apply List.Sublist.cons_cons | apply List.Sublist.cons)); done)) (⟨by rw [atL_some (l := l) hx]; rfl, rfl, rfl⟩)

theorem WithS_c (l : List Sn) (A : Option Addr) (cap : Nat) (i : Int) (x : Sn) (ro : Ro) (L : List (List Blk)) (hl : Sl ro 4 encSn A cap l) (hn : l.length ≤ 1000000) :
    CT Tryz.prog 69 [.agg [.slice A l.length cap].toArray, .int .i64 i, .agg (encSn x).toArray].toArray ro L (PL 4 encSn (setL l i x) L) := by
  have hcap := cap_ge hl
  refine enter Tryz.func69 rfl Tryz.ntmps69 rfl ?_
  refine seq ?_
  refine region ?_
  refine op (e_box rfl rfl rfl fun b3 => ?_)
  refine op (e_box rfl rfl rfl fun b5 => ?_)
  refine op (e_alloc rfl zc_64 rfl fun b6 => ?_)
  refine nil ?_
  refine n_then ?_
  refine seq ?_
  refine seq ?_
  refine region ?_
  refine op (y (x_move rfl) rfl ?_)
  refine op (y (x_lss rfl rfl) rfl ?_)
  refine op (y (x_move rfl) rfl ?_)
  refine bsplit 10 rfl (fun g10 => ?_) (fun g10 => ?_)
  · try simp only [decide_eq_true_eq, decide_eq_false_iff_not, beq_iff_eq, bne_iff_ne, ne_eq, beq_eq_false_iff_ne, bne_eq_false_iff_eq, Bool.not_eq_true', Bool.not_eq_false', Bool.not_eq_true, Bool.not_eq_false, Decidable.not_not, Int.not_lt, Int.not_le] at g10
    refine opN rfl rfl rfl rfl ?_
    refine opN rfl rfl rfl rfl ?_
    refine opN rfl rfl rfl rfl ?_
    refine opN rfl rfl rfl rfl ?_
    refine opN rfl rfl rfl rfl ?_
    refine op (y (x_pickT rfl rfl) rfl ?_)
    refine nil ?_
    refine n_then ?_
    refine condT rfl ?_
    refine seq ?_
    refine region ?_
    refine op (y ((by first | exact x_loadOwn 0 _ ag_64 rfl rfl rfl rfl | exact x_loadOwn 1 _ ag_64 rfl rfl rfl rfl | exact x_loadOwn 2 _ ag_64 rfl rfl rfl rfl | exact x_loadOwn 3 _ ag_64 rfl rfl rfl rfl | exact x_loadOwn 4 _ ag_64 rfl rfl rfl rfl | exact x_loadOwn 5 _ ag_64 rfl rfl rfl rfl | exact x_loadOwn 6 _ ag_64 rfl rfl rfl rfl | exact x_loadOwn 7 _ ag_64 rfl rfl rfl rfl | exact x_loadOwn 8 _ ag_64 rfl rfl rfl rfl | exact x_loadOwn 9 _ ag_64 rfl rfl rfl rfl | exact x_loadOwn 10 _ ag_64 rfl rfl rfl rfl | exact x_loadOwn 11 _ ag_64 rfl rfl rfl rfl)) rfl ?_)
    first | refine op (e_store 0 rfl rfl ts_64 rfl rfl rfl rfl rfl rfl ?_) | refine op (e_store 1 rfl rfl ts_64 rfl rfl rfl rfl rfl rfl ?_) | refine op (e_store 2 rfl rfl ts_64 rfl rfl rfl rfl rfl rfl ?_) | refine op (e_store 3 rfl rfl ts_64 rfl rfl rfl rfl rfl rfl ?_) | refine op (e_store 4 rfl rfl ts_64 rfl rfl rfl rfl rfl rfl ?_) | refine op (e_store 5 rfl rfl ts_64 rfl rfl rfl rfl rfl rfl ?_) | refine op (e_store 6 rfl rfl ts_64 rfl rfl rfl rfl rfl rfl ?_) | refine op (e_store 7 rfl rfl ts_64 rfl rfl rfl rfl rfl rfl ?_) | refine op (e_store 8 rfl rfl ts_64 rfl rfl rfl rfl rfl rfl ?_) | refine op (e_store 9 rfl rfl ts_64 rfl rfl rfl rfl rfl rfl ?_)
    refine nil ?_
    refine n_then ?_
    refine ret ?_
    refine r_then ?_
    exact done rfl (Res.cellN ag_64 rfl rfl (CellsAt.own 0 0 1 _ rfl rfl) (.nil)) (Ro.le.refl _) (L) (subF (by (repeat (first | exact List.Sublist.refl _ | apply List.Sublist.cons_cons | apply List.Sublist.cons)); done)) (⟨A, cap, by rw [setL_none (by omega)]; rfl, by rw [setL_none (by omega)]; exact hl, rfl⟩)
  · try simp only [decide_eq_true_eq, decide_eq_false_iff_not, beq_iff_eq, bne_iff_ne, ne_eq, beq_eq_false_iff_ne, bne_eq_false_iff_eq, Bool.not_eq_true', Bool.not_eq_false', Bool.not_eq_true, Bool.not_eq_false, Decidable.not_not, Int.not_lt, Int.not_le] at g10
    refine opG rfl rfl (y (x_move rfl) rfl ?_)
    refine opG rfl rfl (y (x_fieldAddr fo_64_0 rfl) rfl ?_)
    refine opG rfl rfl (y (x_load1 ag_62 rfl (by first | assumption | exact Cell.own 0 rfl rfl | exact Cell.own 1 rfl rfl | exact Cell.own 2 rfl rfl | exact Cell.own 3 rfl rfl | exact Cell.own 4 rfl rfl | exact Cell.own 5 rfl rfl | exact Cell.own 6 rfl rfl | exact Cell.own 7 rfl rfl | exact Cell.own 8 rfl rfl | exact Cell.own 9 rfl rfl | exact Cell.ofRo (by assumption))) rfl ?_)
    refine opG rfl rfl (y (x_lenSl sz_62 rfl) rfl ?_)
    refine opG rfl rfl (y (x_geq rfl rfl) rfl ?_)
    refine op (y (x_pickF rfl rfl) rfl ?_)
    refine nil ?_
    refine n_then ?_
    refine cond rfl (fun h1 => ?_) (fun h1 => ?_)
    · try simp only [decide_eq_true_eq, decide_eq_false_iff_not, beq_iff_eq, bne_iff_ne, ne_eq, beq_eq_false_iff_ne, bne_eq_false_iff_eq, Bool.not_eq_true', Bool.not_eq_false', Bool.not_eq_true, Bool.not_eq_false, Decidable.not_not, Int.not_lt, Int.not_le] at h1
      refine seq ?_
      refine region ?_
      refine op (y ((by first | exact x_loadOwn 0 _ ag_64 rfl rfl rfl rfl | exact x_loadOwn 1 _ ag_64 rfl rfl rfl rfl | exact x_loadOwn 2 _ ag_64 rfl rfl rfl rfl | exact x_loadOwn 3 _ ag_64 rfl rfl rfl rfl | exact x_loadOwn 4 _ ag_64 rfl rfl rfl rfl | exact x_loadOwn 5 _ ag_64 rfl rfl rfl rfl | exact x_loadOwn 6 _ ag_64 rfl rfl rfl rfl | exact x_loadOwn 7 _ ag_64 rfl rfl rfl rfl | exact x_loadOwn 8 _ ag_64 rfl rfl rfl rfl | exact x_loadOwn 9 _ ag_64 rfl rfl rfl rfl | exact x_loadOwn 10 _ ag_64 rfl rfl rfl rfl | exact x_loadOwn 11 _ ag_64 rfl rfl rfl rfl)) rfl ?_)
      first | refine op (e_store 0 rfl rfl ts_64 rfl rfl rfl rfl rfl rfl ?_) | refine op (e_store 1 rfl rfl ts_64 rfl rfl rfl rfl rfl rfl ?_) | refine op (e_store 2 rfl rfl ts_64 rfl rfl rfl rfl rfl rfl ?_) | refine op (e_store 3 rfl rfl ts_64 rfl rfl rfl rfl rfl rfl ?_) | refine op (e_store 4 rfl rfl ts_64 rfl rfl rfl rfl rfl rfl ?_) | refine op (e_store 5 rfl rfl ts_64 rfl rfl rfl rfl rfl rfl ?_) | refine op (e_store 6 rfl rfl ts_64 rfl rfl rfl rfl rfl rfl ?_) | refine op (e_store 7 rfl rfl ts_64 rfl rfl rfl rfl rfl rfl ?_) | refine op (e_store 8 rfl rfl ts_64 rfl rfl rfl rfl rfl rfl ?_) | refine op (e_store 9 rfl rfl ts_64 rfl rfl rfl rfl rfl rfl ?_)
      refine nil ?_
      refine n_then ?_
      refine ret ?_
      refine r_then ?_
      exact done rfl (Res.cellN ag_64 rfl rfl (CellsAt.own 0 0 1 _ rfl rfl) (.nil)) (Ro.le.refl _) (L) (subF (by (repeat (first | exact List.Sublist.refl _ | apply List.Sublist.cons_cons | apply List.Sublist.cons)); done)) (⟨A, cap, by rw [setL_none (by omega)]; rfl, by rw [setL_none (by omega)]; exact hl, rfl⟩)
    · try simp only [decide_eq_true_eq, decide_eq_false_iff_not, beq_iff_eq, bne_iff_ne, ne_eq, beq_eq_false_iff_ne, bne_eq_false_iff_eq, Bool.not_eq_true', Bool.not_eq_false', Bool.not_eq_true, Bool.not_eq_false, Decidable.not_not, Int.not_lt, Int.not_le] at h1
      refine skip ?_
      refine n_then ?_
      refine seq ?_
      refine region ?_
      refine op (y (x_fieldAddr fo_64_0 rfl) rfl ?_)
      refine op (y (x_load1 ag_62 rfl (by first | assumption | exact Cell.own 0 rfl rfl | exact Cell.own 1 rfl rfl | exact Cell.own 2 rfl rfl | exact Cell.own 3 rfl rfl | exact Cell.own 4 rfl rfl | exact Cell.own 5 rfl rfl | exact Cell.own 6 rfl rfl | exact Cell.own 7 rfl rfl | exact Cell.own 8 rfl rfl | exact Cell.own 9 rfl rfl | exact Cell.ofRo (by assumption))) rfl ?_)
      refine op (e_call rfl fn_106 rfl rfl (OfS_o l A cap _ _ (Sl.src hl (by decide)) hn) fun v20 ro20 L20 hle20 hp20 => ?_)
      obtain ⟨A20, c20, R20, rfl, hO20, rfl⟩ := hp20
      refine op (e_alloc rfl zc_64 rfl fun b7 => ?_)
      first | refine op (e_store 0 rfl rfl ts_64 rfl rfl rfl rfl rfl rfl ?_) | refine op (e_store 1 rfl rfl ts_64 rfl rfl rfl rfl rfl rfl ?_) | refine op (e_store 2 rfl rfl ts_64 rfl rfl rfl rfl rfl rfl ?_) | refine op (e_store 3 rfl rfl ts_64 rfl rfl rfl rfl rfl rfl ?_) | refine op (e_store 4 rfl rfl ts_64 rfl rfl rfl rfl rfl rfl ?_) | refine op (e_store 5 rfl rfl ts_64 rfl rfl rfl rfl rfl rfl ?_) | refine op (e_store 6 rfl rfl ts_64 rfl rfl rfl rfl rfl rfl ?_) | refine op (e_store 7 rfl rfl ts_64 rfl rfl rfl rfl rfl rfl ?_) | refine op (e_store 8 rfl rfl ts_64 rfl rfl rfl rfl rfl rfl ?_) | refine op (e_store 9 rfl rfl ts_64 rfl rfl rfl rfl rfl rfl ?_)
      refine nil ?_
      refine n_then ?_
      refine seq ?_
      obtain ⟨j, rfl⟩ := Int.eq_ofNat_of_zero_le (show 0 ≤ i by omega)
      have hjl : j < l.length := by omega
      obtain ⟨bt, ot, curt, rfl, rfl, _, hct⟩ := hO20.at_ (show 0 < l.length by omega)
      refine region ?_
      refine op (y (x_fieldAddr fo_64_0 rfl) rfl ?_)
      refine op (y (x_load1 ag_62 rfl (by first | assumption | exact Cell.own 0 rfl rfl | exact Cell.own 1 rfl rfl | exact Cell.own 2 rfl rfl | exact Cell.own 3 rfl rfl | exact Cell.own 4 rfl rfl | exact Cell.own 5 rfl rfl | exact Cell.own 6 rfl rfl | exact Cell.own 7 rfl rfl | exact Cell.own 8 rfl rfl | exact Cell.own 9 rfl rfl | exact Cell.ofRo (by assumption))) rfl ?_)
      refine op (y (x_move rfl) rfl ?_)
      refine op (y ((by first | exact x_loadOwn 0 _ ag_29 rfl rfl rfl rfl | exact x_loadOwn 1 _ ag_29 rfl rfl rfl rfl | exact x_loadOwn 2 _ ag_29 rfl rfl rfl rfl | exact x_loadOwn 3 _ ag_29 rfl rfl rfl rfl | exact x_loadOwn 4 _ ag_29 rfl rfl rfl rfl | exact x_loadOwn 5 _ ag_29 rfl rfl rfl rfl | exact x_loadOwn 6 _ ag_29 rfl rfl rfl rfl | exact x_loadOwn 7 _ ag_29 rfl rfl rfl rfl | exact x_loadOwn 8 _ ag_29 rfl rfl rfl rfl | exact x_loadOwn 9 _ ag_29 rfl rfl rfl rfl | exact x_loadOwn 10 _ ag_29 rfl rfl rfl rfl | exact x_loadOwn 11 _ ag_29 rfl rfl rfl rfl)) rfl ?_)
      refine op (y (x_indexNat sz_62 rfl rfl (by omega)) rfl ?_)
      refine op (e_storeS (q := j * 4) (xs := l.flatMap encSn) (m := l.length) 1 rfl rfl ts_29 rfl rfl rfl rfl hO20 (by simp [encSn]; omega) (fun _ => rfl) fun R4 hO4 => ?_)
      refine nil ?_
      refine n_then ?_
      refine seq ?_
      have hO5 : OwnS 29 4 (some ⟨bt, ot, none⟩) (setL l (j : Int) x).length c20 ((setL l (j : Int) x).flatMap encSn) R4 := by
        rw [setL_len, setL_some, ← flat_set (k := 4) (enc := encSn) rfl (fun _ _ => rfl) hjl]
        exact hO4
      refine swap0 (R := [(b7, _)]) (S := R4) ?_
      refine ufreeze fun rz hz hR => ?_
      have hS5 := hO5.sl enc_sn hR
      refine region ?_
      refine op (y ((by first | exact x_loadOwn 0 _ ag_64 rfl rfl rfl rfl | exact x_loadOwn 1 _ ag_64 rfl rfl rfl rfl | exact x_loadOwn 2 _ ag_64 rfl rfl rfl rfl | exact x_loadOwn 3 _ ag_64 rfl rfl rfl rfl | exact x_loadOwn 4 _ ag_64 rfl rfl rfl rfl | exact x_loadOwn 5 _ ag_64 rfl rfl rfl rfl | exact x_loadOwn 6 _ ag_64 rfl rfl rfl rfl | exact x_loadOwn 7 _ ag_64 rfl rfl rfl rfl | exact x_loadOwn 8 _ ag_64 rfl rfl rfl rfl | exact x_loadOwn 9 _ ag_64 rfl rfl rfl rfl | exact x_loadOwn 10 _ ag_64 rfl rfl rfl rfl | exact x_loadOwn 11 _ ag_64 rfl rfl rfl rfl)) rfl ?_)
      first | refine op (e_store 0 rfl rfl ts_64 rfl rfl rfl rfl rfl rfl ?_) | refine op (e_store 1 rfl rfl ts_64 rfl rfl rfl rfl rfl rfl ?_) | refine op (e_store 2 rfl rfl ts_64 rfl rfl rfl rfl rfl rfl ?_) | refine op (e_store 3 rfl rfl ts_64 rfl rfl rfl rfl rfl rfl ?_) | refine op (e_store 4 rfl rfl ts_64 rfl rfl rfl rfl rfl rfl ?_) | refine op (e_store 5 rfl rfl ts_64 rfl rfl rfl rfl rfl rfl ?_) | refine op (e_store 6 rfl rfl ts_64 rfl rfl rfl rfl rfl rfl ?_) | refine op (e_store 7 rfl rfl ts_64 rfl rfl rfl rfl rfl rfl ?_) | refine op (e_store 8 rfl rfl ts_64 rfl rfl rfl rfl rfl rfl ?_) | refine op (e_store 9 rfl rfl ts_64 rfl rfl rfl rfl rfl rfl ?_)
      refine nil ?_
      refine n_then ?_
      refine ret ?_
      exact done rfl (Res.cellN ag_64 rfl rfl (CellsAt.own 1 0 1 _ rfl rfl) (.nil)) (hle20.trans hz) (L) (subF (by (repeat (first | exact List.Sublist.refl _ | apply List.Sublist.cons_cons | apply List.Sublist.cons)); done)) (⟨_, c20, by rw [setL_len]; rfl, hS5, rfl⟩)

theorem SameInts_c (l : List Int) (A : Option Addr) (cap : Nat) (o : List Int) (B : Option Addr) (cap2 : Nat) (ro : Ro) (L : List (List Blk)) (hl : Sl ro 1 encInt A cap l) (ho : Sl ro 1 encInt B cap2 o) :
    CT Tryz.prog 26 [.slice A l.length cap, .slice B o.length cap2].toArray ro L (PQ (.bool (decide (l = o))) ro L) := by
  have hcap := cap_ge hl
  have hcap2 := cap_ge ho
  refine enter Tryz.func26 rfl Tryz.ntmps26 rfl ?_
  refine seq ?_
  refine region ?_
  refine op (y (x_assign rfl) rfl ?_)
  refine nil ?_
  refine n_then ?_
  refine seq ?_
  refine seq ?_
  refine region ?_
  refine op (y (x_move rfl) rfl ?_)
  refine op (y (x_lenSl sz_26 rfl) rfl ?_)
  refine op (y (x_move rfl) rfl ?_)
  refine op (y (x_lenSl sz_26 rfl) rfl ?_)
  refine op (y (x_neq rfl rfl) rfl ?_)
  refine nil ?_
  refine n_then ?_
  refine cond rfl (fun h1 => ?_) (fun h1 => ?_)
  · try simp only [decide_eq_true_eq, decide_eq_false_iff_not, beq_iff_eq, bne_iff_ne, ne_eq, beq_eq_false_iff_ne, bne_eq_false_iff_eq, Bool.not_eq_true', Bool.not_eq_false', Bool.not_eq_true, Bool.not_eq_false, Decidable.not_not, Int.not_lt, Int.not_le] at h1
    refine seq ?_
    refine region ?_
    refine op (y (x_assign rfl) rfl ?_)
    refine nil ?_
    refine n_then ?_
    refine ret ?_
    refine r_then ?_
    exact done rfl (.tmp rfl (.nil)) (Ro.le.refl _) (L) (⟨_, .refl _, .refl _⟩) (⟨by rw [decide_eq_false]; rfl; intro e; subst e; exact h1 rfl, rfl, rfl⟩)
  · try simp only [decide_eq_true_eq, decide_eq_false_iff_not, beq_iff_eq, bne_iff_ne, ne_eq, beq_eq_false_iff_ne, bne_eq_false_iff_eq, Bool.not_eq_true', Bool.not_eq_false', Bool.not_eq_true, Bool.not_eq_false, Decidable.not_not, Int.not_lt, Int.not_le] at h1
    refine skip ?_
    refine n_then ?_
    refine seq ?_
    refine seq ?_
    refine region ?_
    refine op (y (x_assign rfl) rfl ?_)
    refine nil ?_
    refine n_then ?_
    refine block ?_
    refine loop (fun m F ro' L' => ∃ (k : Nat), (m = l.length - k) ∧ (F = [(0, .slice A l.length cap), (1, .slice B o.length cap2), (5, .int .i64 (k : Nat))]) ∧ (ro = ro') ∧ (L = L') ∧ (k ≤ l.length) ∧ (l.take k = o.take k)) (l.length - 0) [(0, .slice A l.length cap), (1, .slice B o.length cap2), (5, .int .i64 (0 : Nat))] ⟨rfl, rfl, rfl, trivial⟩ ⟨0, rfl, rfl, rfl, rfl, by omega, rfl⟩ ?_
    rintro m F ro' L' ⟨k, rfl, rfl, rfl, rfl, hk, hall⟩
    refine seq ?_
    refine seq ?_
    refine region ?_
    refine op (y (x_move rfl) rfl ?_)
    refine op (y (x_move rfl) rfl ?_)
    refine op (y (x_lenSl sz_26 rfl) rfl ?_)
    refine op (y (x_lss rfl rfl) rfl ?_)
    refine nil ?_
    refine n_then ?_
    refine cond rfl (fun h4 => ?_) (fun h4 => ?_)
    · try simp only [decide_eq_true_eq, decide_eq_false_iff_not, beq_iff_eq, bne_iff_ne, ne_eq, beq_eq_false_iff_ne, bne_eq_false_iff_eq, Bool.not_eq_true', Bool.not_eq_false', Bool.not_eq_true, Bool.not_eq_false, Decidable.not_not, Int.not_lt, Int.not_le] at h4
      refine skip ?_
      refine n_then ?_
      refine seq ?_
      refine block ?_
      refine seq ?_
      obtain ⟨bbx, offx, rfl, hcx⟩ := hl.at_ (i := k) (by omega)
      have hx := List.getElem?_eq_getElem (show k < l.length from by omega)
      have cx0 := hcx k _ hx 0 _ rfl
      obtain ⟨bbz, offz, rfl, hcz⟩ := ho.at_ (i := k) (by omega)
      have hz := List.getElem?_eq_getElem (show k < o.length from by omega)
      have cz0 := hcz k _ hz 0 _ rfl
      refine drawL (by kernel_rfl) ?_
      refine d_take 0 rfl (by kernel_rfl) (by kernel_rfl) (by kernel_rfl) (fun _ _ _ h => h) rfl (.inl rfl) (x_move rfl) (fun w hi => by first | exact hi.j | exact J.of_le (Ro.le.refl _) (fun x hx => List.mem_append_right _ hx) hi | exact J.of_le (Ro.le.refl _) (fun x hx => List.mem_append_right _ (List.mem_append_right _ hx)) hi | exact J.of_le (Ro.le.refl _) (fun x hx => absurd hx (by simp)) hi | exact J.of_le (by assumption) (fun x hx => absurd hx (by simp)) hi) ?_
      refine d_take 1 rfl (by kernel_rfl) (by kernel_rfl) (by kernel_rfl) (fun _ _ _ h => h) rfl (.inl rfl) (x_move rfl) (fun w hi => by first | exact hi.j | exact J.of_le (Ro.le.refl _) (fun x hx => List.mem_append_right _ hx) hi | exact J.of_le (Ro.le.refl _) (fun x hx => List.mem_append_right _ (List.mem_append_right _ hx)) hi | exact J.of_le (Ro.le.refl _) (fun x hx => absurd hx (by simp)) hi | exact J.of_le (by assumption) (fun x hx => absurd hx (by simp)) hi) ?_
      refine d_take 2 rfl (by kernel_rfl) (by kernel_rfl) (by kernel_rfl) (fun _ _ _ h => h) rfl (.inl rfl) (x_indexNat sz_26 rfl rfl (by omega)) (fun w hi => by first | exact hi.j | exact J.of_le (Ro.le.refl _) (fun x hx => List.mem_append_right _ hx) hi | exact J.of_le (Ro.le.refl _) (fun x hx => List.mem_append_right _ (List.mem_append_right _ hx)) hi | exact J.of_le (Ro.le.refl _) (fun x hx => absurd hx (by simp)) hi | exact J.of_le (by assumption) (fun x hx => absurd hx (by simp)) hi) ?_
      refine d_take 3 rfl (by kernel_rfl) (by kernel_rfl) (by kernel_rfl) (fun _ _ _ h => h) rfl (.inl rfl) (x_load1 ag_3 rfl (by first | assumption | exact Cell.own 0 rfl rfl | exact Cell.own 1 rfl rfl | exact Cell.own 2 rfl rfl | exact Cell.own 3 rfl rfl | exact Cell.own 4 rfl rfl | exact Cell.own 5 rfl rfl | exact Cell.own 6 rfl rfl | exact Cell.own 7 rfl rfl | exact Cell.own 8 rfl rfl | exact Cell.own 9 rfl rfl | exact Cell.ofRo (by assumption))) (fun w hi => by first | exact hi.j | exact J.of_le (Ro.le.refl _) (fun x hx => List.mem_append_right _ hx) hi | exact J.of_le (Ro.le.refl _) (fun x hx => List.mem_append_right _ (List.mem_append_right _ hx)) hi | exact J.of_le (Ro.le.refl _) (fun x hx => absurd hx (by simp)) hi | exact J.of_le (by assumption) (fun x hx => absurd hx (by simp)) hi) ?_
      refine d_take 4 rfl (by kernel_rfl) (by kernel_rfl) (by kernel_rfl) (fun _ _ _ h => h) rfl (.inl rfl) (x_move rfl) (fun w hi => by first | exact hi.j | exact J.of_le (Ro.le.refl _) (fun x hx => List.mem_append_right _ hx) hi | exact J.of_le (Ro.le.refl _) (fun x hx => List.mem_append_right _ (List.mem_append_right _ hx)) hi | exact J.of_le (Ro.le.refl _) (fun x hx => absurd hx (by simp)) hi | exact J.of_le (by assumption) (fun x hx => absurd hx (by simp)) hi) ?_
      refine d_take 5 rfl (by kernel_rfl) (by kernel_rfl) (by kernel_rfl) (fun _ _ _ h => h) rfl (.inl rfl) (x_move rfl) (fun w hi => by first | exact hi.j | exact J.of_le (Ro.le.refl _) (fun x hx => List.mem_append_right _ hx) hi | exact J.of_le (Ro.le.refl _) (fun x hx => List.mem_append_right _ (List.mem_append_right _ hx)) hi | exact J.of_le (Ro.le.refl _) (fun x hx => absurd hx (by simp)) hi | exact J.of_le (by assumption) (fun x hx => absurd hx (by simp)) hi) ?_
      refine d_take 6 rfl (by kernel_rfl) (by kernel_rfl) (by kernel_rfl) (fun _ _ _ h => h) rfl (.inl rfl) (x_indexNat sz_26 rfl rfl (by omega)) (fun w hi => by first | exact hi.j | exact J.of_le (Ro.le.refl _) (fun x hx => List.mem_append_right _ hx) hi | exact J.of_le (Ro.le.refl _) (fun x hx => List.mem_append_right _ (List.mem_append_right _ hx)) hi | exact J.of_le (Ro.le.refl _) (fun x hx => absurd hx (by simp)) hi | exact J.of_le (by assumption) (fun x hx => absurd hx (by simp)) hi) ?_
      refine d_take 7 rfl (by kernel_rfl) (by kernel_rfl) (by kernel_rfl) (fun _ _ _ h => h) rfl (.inl rfl) (x_load1 ag_3 rfl (by first | assumption | exact Cell.own 0 rfl rfl | exact Cell.own 1 rfl rfl | exact Cell.own 2 rfl rfl | exact Cell.own 3 rfl rfl | exact Cell.own 4 rfl rfl | exact Cell.own 5 rfl rfl | exact Cell.own 6 rfl rfl | exact Cell.own 7 rfl rfl | exact Cell.own 8 rfl rfl | exact Cell.own 9 rfl rfl | exact Cell.ofRo (by assumption))) (fun w hi => by first | exact hi.j | exact J.of_le (Ro.le.refl _) (fun x hx => List.mem_append_right _ hx) hi | exact J.of_le (Ro.le.refl _) (fun x hx => List.mem_append_right _ (List.mem_append_right _ hx)) hi | exact J.of_le (Ro.le.refl _) (fun x hx => absurd hx (by simp)) hi | exact J.of_le (by assumption) (fun x hx => absurd hx (by simp)) hi) ?_
      refine d_take 8 rfl (by kernel_rfl) (by kernel_rfl) (by kernel_rfl) (fun _ _ _ h => h) rfl (.inl rfl) (x_eql rfl rfl) (fun w hi => by first | exact hi.j | exact J.of_le (Ro.le.refl _) (fun x hx => List.mem_append_right _ hx) hi | exact J.of_le (Ro.le.refl _) (fun x hx => List.mem_append_right _ (List.mem_append_right _ hx)) hi | exact J.of_le (Ro.le.refl _) (fun x hx => absurd hx (by simp)) hi | exact J.of_le (by assumption) (fun x hx => absurd hx (by simp)) hi) ?_
      refine d_take 9 rfl (by kernel_rfl) (by kernel_rfl) (by kernel_rfl) (fun _ _ _ h => h) rfl (.inl rfl) (x_assign rfl) (fun w hi => by first | exact hi.j | exact J.of_le (Ro.le.refl _) (fun x hx => List.mem_append_right _ hx) hi | exact J.of_le (Ro.le.refl _) (fun x hx => List.mem_append_right _ (List.mem_append_right _ hx)) hi | exact J.of_le (Ro.le.refl _) (fun x hx => absurd hx (by simp)) hi | exact J.of_le (by assumption) (fun x hx => absurd hx (by simp)) hi) ?_
      refine d_end (by kernel_rfl) ?_
      refine n_then ?_
      refine seq ?_
      refine region ?_
      refine op (y (x_move rfl) rfl ?_)
      refine op (y (x_not rfl) rfl ?_)
      refine nil ?_
      refine n_then ?_
      refine cond rfl (fun h7 => ?_) (fun h7 => ?_)
      · try simp only [decide_eq_true_eq, decide_eq_false_iff_not, beq_iff_eq, bne_iff_ne, ne_eq, beq_eq_false_iff_ne, bne_eq_false_iff_eq, Bool.not_eq_true', Bool.not_eq_false', Bool.not_eq_true, Bool.not_eq_false, Decidable.not_not, Int.not_lt, Int.not_le] at h7
        refine seq ?_
        refine region ?_
        refine op (y (x_assign rfl) rfl ?_)
        refine nil ?_
        refine n_then ?_
        refine ret ?_
        refine r_in ?_
        refine r_then ?_
        refine r_then ?_
        refine r_in ?_
        refine r_then ?_
        exact done rfl (.tmp rfl (.nil)) (Ro.le.refl _) (L) (⟨_, .refl _, .refl _⟩) (⟨by rw [decide_eq_false]; rfl; intro e; subst e; exact h7 rfl, rfl, rfl⟩)
      · try simp only [decide_eq_true_eq, decide_eq_false_iff_not, beq_iff_eq, bne_iff_ne, ne_eq, beq_eq_false_iff_ne, bne_eq_false_iff_eq, Bool.not_eq_true', Bool.not_eq_false', Bool.not_eq_true, Bool.not_eq_false, Decidable.not_not, Int.not_lt, Int.not_le] at h7
        refine skip ?_
        refine n_in ?_
        refine n_then ?_
        refine region ?_
        refine op (y (x_move rfl) rfl ?_)
        refine op (y (x_add rfl rfl _ (wr (by omega) (by omega))) rfl ?_)
        refine op (y (x_assign rfl) rfl ?_)
        refine nil ?_
        exact round (l.length - (k + 1)) [(0, .slice _ l.length cap), (1, .slice _ o.length cap2), (5, .int .i64 ((k + 1) : Nat))] (by omega) ⟨rfl, rfl, rfl, trivial⟩ ⟨k + 1, rfl, rfl, rfl, rfl, by omega, by rw [take_snoc' hx, take_snoc' hz, hall, h7]⟩
    · try simp only [decide_eq_true_eq, decide_eq_false_iff_not, beq_iff_eq, bne_iff_ne, ne_eq, beq_eq_false_iff_ne, bne_eq_false_iff_eq, Bool.not_eq_true', Bool.not_eq_false', Bool.not_eq_true, Bool.not_eq_false, Decidable.not_not, Int.not_lt, Int.not_le] at h4
      refine exit ?_
      refine e_then ?_
      refine e_then ?_
      refine e_in ?_
      refine n_then ?_
      refine seq ?_
      refine region ?_
      refine op (y (x_assign rfl) rfl ?_)
      refine nil ?_
      refine n_then ?_
      refine ret ?_
      exact done rfl (.tmp rfl (.nil)) (Ro.le.refl _) (L) (⟨_, .refl _, .refl _⟩) (⟨by rw [decide_eq_true]; rfl; rw [show k = l.length by omega, List.take_length, List.take_of_length_le (by omega)] at hall; exact hall, rfl, rfl⟩)

theorem Ints_o (l : List Int) (A : Option Addr) (cap : Nat) (ro : Ro) (L : List (List Blk)) (hl : Sl ro 1 encInt A cap l) (hn : l.length ≤ 1000000) :
    CT Tryz.prog 21 [.slice A l.length cap].toArray ro L (PO 3 1 encInt l L) := by
  have hcap := cap_ge hl
  refine enter Tryz.func21 rfl Tryz.ntmps21 rfl ?_
  refine seq ?_
  refine region ?_
  refine op (y (x_assign rfl) rfl ?_)
  refine nil ?_
  refine n_then ?_
  refine seq ?_
  refine region ?_
  refine op (y (x_move rfl) rfl ?_)
  refine op (y (x_lenSl sz_26 rfl) rfl ?_)
  refine op (e_make rfl st_26 rfl rfl (by omega) (by omega) (by omega) (by omega) fun b7 R7 xs7 hO7 hR7 => ?_)
  obtain rfl : xs7 = [] := List.eq_nil_of_length_eq_zero (by simpa using hO7.1)
  refine op (y (x_assign rfl) rfl ?_)
  refine nil ?_
  refine n_then ?_
  refine seq ?_
  refine seq ?_
  refine region ?_
  refine op (y (x_assign rfl) rfl ?_)
  refine nil ?_
  refine n_then ?_
  refine block ?_
  refine loop (fun m F ro' L' => ∃ (k : Nat) (A3 : Option Addr) (cap3 : Nat) (R : List Blk), (m = l.length - k) ∧ (F = [(0, .slice A l.length cap), (3, .slice A3 k cap3), (4, .int .i64 (k : Nat))]) ∧ (ro = ro') ∧ (L' = R :: L) ∧ (k ≤ l.length) ∧ (OwnS 3 1 A3 k cap3 ((l.take k).flatMap encInt) R)) (l.length - 0) [(0, .slice A l.length cap), (3, .slice _ 0 l.length), (4, .int .i64 (0 : Nat))] ⟨rfl, rfl, rfl, trivial⟩ ⟨0, _, l.length, _, rfl, rfl, rfl, rfl, by omega, by simpa using hO7⟩ ?_
  rintro m F ro' L' ⟨k, A3, cap3, R, rfl, rfl, rfl, rfl, hk, hO⟩
  refine seq ?_
  refine seq ?_
  refine region ?_
  refine op (y (x_move rfl) rfl ?_)
  refine op (y (x_move rfl) rfl ?_)
  refine op (y (x_lenSl sz_26 rfl) rfl ?_)
  refine op (y (x_lss rfl rfl) rfl ?_)
  refine nil ?_
  refine n_then ?_
  refine cond rfl (fun h3 => ?_) (fun h3 => ?_)
  · try simp only [decide_eq_true_eq, decide_eq_false_iff_not, beq_iff_eq, bne_iff_ne, ne_eq, beq_eq_false_iff_ne, bne_eq_false_iff_eq, Bool.not_eq_true', Bool.not_eq_false', Bool.not_eq_true, Bool.not_eq_false, Decidable.not_not, Int.not_lt, Int.not_le] at h3
    refine skip ?_
    refine n_then ?_
    refine seq ?_
    refine block ?_
    obtain ⟨bbx, offx, rfl, hcx⟩ := hl.at_ (i := k) (by omega)
    have hx := List.getElem?_eq_getElem (show k < l.length from by omega)
    refine region ?_
    refine op (y (x_move rfl) rfl ?_)
    refine op (y (x_move rfl) rfl ?_)
    refine op (y (x_move rfl) rfl ?_)
    refine op (y (x_indexNat sz_26 rfl rfl (by omega)) rfl ?_)
    refine op (y (x_load1 ag_3 rfl (Cell.ofRo (hcx k _ hx 0 _ rfl))) rfl ?_)
    refine op (e_slice1 rfl Tryz.underlying26 ti_3 rfl rfl (by decide) (by decide) rfl rfl rfl fun b19 => ?_)
    refine op (e_append1 0 rfl st_26 rfl rfl rfl hO rfl rfl (by omega) (by omega) (fun _ => rfl) fun A20 cap20 R20 hO20 => ?_)
    refine op (y (x_assign rfl) rfl ?_)
    refine nil ?_
    refine n_in ?_
    refine n_then ?_
    refine region ?_
    refine op (y (x_move rfl) rfl ?_)
    refine op (y (x_add rfl rfl _ (wr (by omega) (by omega))) rfl ?_)
    refine op (y (x_assign rfl) rfl ?_)
    refine nil ?_
    exact round (l.length - (k + 1)) [(0, .slice _ l.length cap), (3, .slice _ (k + 1) _), (4, .int .i64 ((k + 1) : Nat))] (by omega) ⟨rfl, rfl, rfl, trivial⟩ ⟨k + 1, _, _, _, rfl, rfl, rfl, rfl, by omega, by rw [take_snoc' hx]; exact hO20.snoc (enc := encInt)⟩
  · try simp only [decide_eq_true_eq, decide_eq_false_iff_not, beq_iff_eq, bne_iff_ne, ne_eq, beq_eq_false_iff_ne, bne_eq_false_iff_eq, Bool.not_eq_true', Bool.not_eq_false', Bool.not_eq_true, Bool.not_eq_false, Decidable.not_not, Int.not_lt, Int.not_le] at h3
    refine exit ?_
    refine e_then ?_
    refine e_then ?_
    refine e_in ?_
    refine n_then ?_
    refine seq ?_
    refine region ?_
    refine op (y (x_move rfl) rfl ?_)
    refine op (y (x_assign rfl) rfl ?_)
    refine nil ?_
    refine n_then ?_
    refine ret ?_
    obtain rfl : k = l.length := by omega
    rw [List.take_length] at hO
    exact done rfl (.tmp rfl (.nil)) (Ro.le.refl _) (_) (⟨_, .refl _, .refl _⟩) (⟨_, _, _, rfl, hO, rfl⟩)

end Go.Proofs.YtgkngljojfkkfaaGreatDoor
