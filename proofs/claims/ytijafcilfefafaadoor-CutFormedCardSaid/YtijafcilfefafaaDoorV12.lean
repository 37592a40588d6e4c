/- The walks that tell whether an object, a history may be. -/
import Derived.Test.YtijafcilfefafaaDoorV11
namespace Go.Proofs.YtijafcilfefafaaDoor
open Go Go.U
set_option maxRecDepth 20000
set_option linter.unusedSimpArgs false
set_option linter.unusedVariables false

def ObOk (o : Ob) : Prop := (1 ≤ o.kind ∧ o.kind ≤ 4) ∧ -1000000000 ≤ o.init ∧ o.init ≤ 1000000000 ∧ ((o.kind = 1 ∨ o.kind = 2) ∨ o.init = 0)
/-- a call names an object that is there and has the operation -/
def EvIn (os : List Ob) (e : Ev) : Prop := e.kind = 2 → e.obj < os.length ∧ ∀ o, os[e.obj.toNat]? = some o → ofK e.op = o.kind
def HV (h : Hi) : Prop := h.os.length ≤ 8 ∧ h.es.length ≤ 400 ∧ (∀ o ∈ h.os, ObOk o) ∧ ∀ e ∈ h.es, EvOk e ∧ EvIn h.os e
structure HI (h : Hi) : Prop where
  o : ∀ o ∈ h.os, I64 o.kind ∧ I64 o.init
  e : ∀ e ∈ h.es, EvI e
theorem EvOk.fld {e : Ev} (h : EvOk e) {j : Nat} (hj : j ∈ flds e) : minJ j ≤ evGet e j ∧ evGet e j ≤ maxJ j := h.2.2.2.1 j hj
theorem EvOk.obj {e : Ev} (h : EvOk e) (hk : e.kind = 2) : 0 ≤ e.obj ∧ e.obj ≤ 7 := by
  have := h.fld (j := 3) (by simp [flds, hk])
  simpa [minJ, maxJ, evGet] using this
theorem EvOk.tx {e : Ev} (h : EvOk e) : 1 ≤ e.tx ∧ e.tx ≤ 1000 := by
  have := h.fld (j := 1) (by
    unfold flds
    split
    · simp
    · split
      · simp
      · split <;> simp)
  simpa [minJ, maxJ, evGet] using this
theorem EvOk.thread {e : Ev} (h : EvOk e) (hk : e.kind = 1) : 0 ≤ e.thread ∧ e.thread ≤ 7 := by
  have := h.fld (j := 2) (by simp [flds, hk])
  simpa [minJ, maxJ, evGet] using this
theorem ifv_some {v : Value} (hv : IfV v) (h : isNilI v = false) : ∃ t u, v = .iface t u := by
  rcases hv with rfl | h2
  · cases h
  · exact h2
theorem allq {α : Type} {l : List α} {p : α → Prop} (h : ∀ q : Nat, q < l.length → ∀ o, l[q]? = some o → p o) : ∀ o ∈ l, p o := fun o ho => by
  obtain ⟨i, hi, rfl⟩ := List.getElem_of_mem ho
  exact h i hi _ (List.getElem?_eq_getElem hi)
/-- an error comes back -/
def PErr (L : List (List Blk)) : Value → Ro → List (List Blk) → Prop := fun v _ L' => (∃ t u, v = .iface t u) ∧ L = L'

theorem ValidObject_c (o : Ob) (hk : I64 o.kind) (er : Nat → Addr) (ro : Ro) (L : List (List Blk)) (hG : Glob er ro) :
    CT Tryd.prog 54 [.agg (encOb o).toArray].toArray ro L (PE (ObOk o) L) := by
  refine enter Tryd.func54 rfl Tryd.ntmps54 rfl ?_
  refine seq ?_
  refine region ?_
  refine op (e_box rfl rfl rfl fun b1 => ?_)
  refine op (y (x_assign rfl) rfl ?_)
  refine nil ?_
  refine n_then ?_
  refine seq ?_
  refine region ?_
  refine op (y (x_fieldAddr fo_31_0 rfl) rfl ?_)
  refine op (y (x_load1 ag_3 rfl (by first | assumption | exact Cell.own 0 rfl rfl | exact Cell.own 1 rfl rfl | exact Cell.own 2 rfl rfl | exact Cell.own 3 rfl rfl | exact Cell.own 4 rfl rfl | exact Cell.own 5 rfl rfl | exact Cell.own 6 rfl rfl | exact Cell.own 7 rfl rfl | exact Cell.own 8 rfl rfl | exact Cell.own 9 rfl rfl | exact Cell.ofRo (by assumption))) rfl ?_)
  refine op (y (x_eql rfl rfl) rfl ?_)
  refine op (y (x_move rfl) rfl ?_)
  refine bsplit 7 rfl (fun g7 => ?_) (fun g7 => ?_)
  · try simp only [decide_eq_true_eq, decide_eq_false_iff_not, beq_iff_eq, bne_iff_ne, ne_eq, beq_eq_false_iff_ne, bne_eq_false_iff_eq, Bool.not_eq_true', Bool.not_eq_false', Bool.not_eq_true, Bool.not_eq_false, Decidable.not_not, Int.not_lt, Int.not_le] at g7
    refine opN rfl rfl rfl rfl ?_
    refine opN rfl rfl rfl rfl ?_
    refine opN rfl rfl rfl rfl ?_
    refine op (y (x_pickT rfl rfl) rfl ?_)
    refine op (y (x_assign rfl) rfl ?_)
    refine nil ?_
    refine n_then ?_
    refine seq ?_
    refine seq ?_
    refine region ?_
    refine op (y (x_fieldAddr fo_31_0 rfl) rfl ?_)
    refine op (y (x_load1 ag_3 rfl (by first | assumption | exact Cell.own 0 rfl rfl | exact Cell.own 1 rfl rfl | exact Cell.own 2 rfl rfl | exact Cell.own 3 rfl rfl | exact Cell.own 4 rfl rfl | exact Cell.own 5 rfl rfl | exact Cell.own 6 rfl rfl | exact Cell.own 7 rfl rfl | exact Cell.own 8 rfl rfl | exact Cell.own 9 rfl rfl | exact Cell.ofRo (by assumption))) rfl ?_)
    refine op (e_call rfl fn_61 rfl rfl (Word1_c o.kind hk er _ _ hG) fun v14 ro14 L14 hle14 hp14 => ?_)
    obtain ⟨sw, rfl, hsw, rfl, rfl⟩ := hp14
    refine op (y (x_seql rfl rfl) rfl ?_)
    refine op (y (x_move rfl) rfl ?_)
    refine bsplit 16 rfl (fun g16 => ?_) (fun g16 => ?_)
    · try simp only [decide_eq_true_eq, decide_eq_false_iff_not, beq_iff_eq, bne_iff_ne, ne_eq, beq_eq_false_iff_ne, bne_eq_false_iff_eq, Bool.not_eq_true', Bool.not_eq_false', Bool.not_eq_true, Bool.not_eq_false, Decidable.not_not, Int.not_lt, Int.not_le] at g16
      refine opN rfl rfl rfl rfl ?_
      refine opN rfl rfl rfl rfl ?_
      refine opN rfl rfl rfl rfl ?_
      refine op (y (x_pickT rfl rfl) rfl ?_)
      refine op (y (x_move rfl) rfl ?_)
      refine opN rfl rfl rfl rfl ?_
      refine opN rfl rfl rfl rfl ?_
      refine opN rfl rfl rfl rfl ?_
      refine op (y (x_pickT rfl rfl) rfl ?_)
      refine op (y (x_move rfl) rfl ?_)
      refine opN rfl rfl rfl rfl ?_
      refine opN rfl rfl rfl rfl ?_
      refine opN rfl rfl rfl rfl ?_
      refine opU rfl rfl rfl ?_
      refine opU rfl rfl rfl ?_
      refine opU rfl rfl rfl ?_
      refine opN rfl rfl rfl rfl ?_
      refine op (y (x_pickT rfl rfl) rfl ?_)
      refine nil ?_
      refine n_then ?_
      refine condT rfl ?_
      refine seq ?_
      have hGc := hG.err 3 (by omega)
      refine region ?_
      refine op (y (x_load1 ag_43 rfl (Cell.ofRo hGc)) rfl ?_)
      refine op (y (x_assign rfl) rfl ?_)
      refine nil ?_
      refine n_then ?_
      refine ret ?_
      refine r_then ?_
      exact done rfl (.tmp rfl (.nil)) (Ro.le.refl _) (L) (subF (by (repeat (first | exact List.Sublist.refl _ | apply List.Sublist.cons_cons | apply List.Sublist.cons)); done)) (⟨IfV.mk _ _, ⟨fun h => (by cases h), fun h => absurd h (fun hk => by unfold ObOk at hk; grind [bytes_nil])⟩, rfl⟩)
    · try simp only [decide_eq_true_eq, decide_eq_false_iff_not, beq_iff_eq, bne_iff_ne, ne_eq, beq_eq_false_iff_ne, bne_eq_false_iff_eq, Bool.not_eq_true', Bool.not_eq_false', Bool.not_eq_true, Bool.not_eq_false, Decidable.not_not, Int.not_lt, Int.not_le] at g16
      refine opG rfl rfl (y (x_fieldAddr fo_31_1 rfl) rfl ?_)
      refine opG rfl rfl (y (x_load1 ag_3 rfl (by first | assumption | exact Cell.own 0 rfl rfl | exact Cell.own 1 rfl rfl | exact Cell.own 2 rfl rfl | exact Cell.own 3 rfl rfl | exact Cell.own 4 rfl rfl | exact Cell.own 5 rfl rfl | exact Cell.own 6 rfl rfl | exact Cell.own 7 rfl rfl | exact Cell.own 8 rfl rfl | exact Cell.own 9 rfl rfl | exact Cell.ofRo (by assumption))) rfl ?_)
      refine opG rfl rfl (y (x_lss rfl rfl) rfl ?_)
      refine op (y (x_pickF rfl rfl) rfl ?_)
      refine op (y (x_move rfl) rfl ?_)
      refine bsplit 21 rfl (fun g21 => ?_) (fun g21 => ?_)
      · try simp only [decide_eq_true_eq, decide_eq_false_iff_not, beq_iff_eq, bne_iff_ne, ne_eq, beq_eq_false_iff_ne, bne_eq_false_iff_eq, Bool.not_eq_true', Bool.not_eq_false', Bool.not_eq_true, Bool.not_eq_false, Decidable.not_not, Int.not_lt, Int.not_le] at g21
        refine opN rfl rfl rfl rfl ?_
        refine opN rfl rfl rfl rfl ?_
        refine opN rfl rfl rfl rfl ?_
        refine op (y (x_pickT rfl rfl) rfl ?_)
        refine op (y (x_move rfl) rfl ?_)
        refine opN rfl rfl rfl rfl ?_
        refine opN rfl rfl rfl rfl ?_
        refine opN rfl rfl rfl rfl ?_
        refine opU rfl rfl rfl ?_
        refine opU rfl rfl rfl ?_
        refine opU rfl rfl rfl ?_
        refine opN rfl rfl rfl rfl ?_
        refine op (y (x_pickT rfl rfl) rfl ?_)
        refine nil ?_
        refine n_then ?_
        refine condT rfl ?_
        refine seq ?_
        have hGc := hG.err 3 (by omega)
        refine region ?_
        refine op (y (x_load1 ag_43 rfl (Cell.ofRo hGc)) rfl ?_)
        refine op (y (x_assign rfl) rfl ?_)
        refine nil ?_
        refine n_then ?_
        refine ret ?_
        refine r_then ?_
        exact done rfl (.tmp rfl (.nil)) (Ro.le.refl _) (L) (subF (by (repeat (first | exact List.Sublist.refl _ | apply List.Sublist.cons_cons | apply List.Sublist.cons)); done)) (⟨IfV.mk _ _, ⟨fun h => (by cases h), fun h => absurd h (fun hk => by unfold ObOk at hk; grind [bytes_nil])⟩, rfl⟩)
      · try simp only [decide_eq_true_eq, decide_eq_false_iff_not, beq_iff_eq, bne_iff_ne, ne_eq, beq_eq_false_iff_ne, bne_eq_false_iff_eq, Bool.not_eq_true', Bool.not_eq_false', Bool.not_eq_true, Bool.not_eq_false, Decidable.not_not, Int.not_lt, Int.not_le] at g21
        refine opG rfl rfl (y (x_fieldAddr fo_31_1 rfl) rfl ?_)
        refine opG rfl rfl (y (x_load1 ag_3 rfl (by first | assumption | exact Cell.own 0 rfl rfl | exact Cell.own 1 rfl rfl | exact Cell.own 2 rfl rfl | exact Cell.own 3 rfl rfl | exact Cell.own 4 rfl rfl | exact Cell.own 5 rfl rfl | exact Cell.own 6 rfl rfl | exact Cell.own 7 rfl rfl | exact Cell.own 8 rfl rfl | exact Cell.own 9 rfl rfl | exact Cell.ofRo (by assumption))) rfl ?_)
        refine opG rfl rfl (y (x_gtr rfl rfl) rfl ?_)
        refine op (y (x_pickF rfl rfl) rfl ?_)
        refine op (y (x_move rfl) rfl ?_)
        refine bsplit 26 rfl (fun g26 => ?_) (fun g26 => ?_)
        · try simp only [decide_eq_true_eq, decide_eq_false_iff_not, beq_iff_eq, bne_iff_ne, ne_eq, beq_eq_false_iff_ne, bne_eq_false_iff_eq, Bool.not_eq_true', Bool.not_eq_false', Bool.not_eq_true, Bool.not_eq_false, Decidable.not_not, Int.not_lt, Int.not_le] at g26
          refine opN rfl rfl rfl rfl ?_
          refine opN rfl rfl rfl rfl ?_
          refine opN rfl rfl rfl rfl ?_
          refine opU rfl rfl rfl ?_
          refine opU rfl rfl rfl ?_
          refine opU rfl rfl rfl ?_
          refine opN rfl rfl rfl rfl ?_
          refine op (y (x_pickT rfl rfl) rfl ?_)
          refine nil ?_
          refine n_then ?_
          refine condT rfl ?_
          refine seq ?_
          have hGc := hG.err 3 (by omega)
          refine region ?_
          refine op (y (x_load1 ag_43 rfl (Cell.ofRo hGc)) rfl ?_)
          refine op (y (x_assign rfl) rfl ?_)
          refine nil ?_
          refine n_then ?_
          refine ret ?_
          refine r_then ?_
          exact done rfl (.tmp rfl (.nil)) (Ro.le.refl _) (L) (subF (by (repeat (first | exact List.Sublist.refl _ | apply List.Sublist.cons_cons | apply List.Sublist.cons)); done)) (⟨IfV.mk _ _, ⟨fun h => (by cases h), fun h => absurd h (fun hk => by unfold ObOk at hk; grind [bytes_nil])⟩, rfl⟩)
        · try simp only [decide_eq_true_eq, decide_eq_false_iff_not, beq_iff_eq, bne_iff_ne, ne_eq, beq_eq_false_iff_ne, bne_eq_false_iff_eq, Bool.not_eq_true', Bool.not_eq_false', Bool.not_eq_true, Bool.not_eq_false, Decidable.not_not, Int.not_lt, Int.not_le] at g26
          refine opG rfl rfl (y (x_move rfl) rfl ?_)
          refine opG rfl rfl (y (x_not rfl) rfl ?_)
          refine opG rfl rfl (y (x_move rfl) rfl ?_)
          refine opN rfl rfl rfl rfl ?_
          refine opN rfl rfl rfl rfl ?_
          refine opN rfl rfl rfl rfl ?_
          refine opG rfl rfl (y (x_pickF rfl rfl) rfl ?_)
          refine op (y (x_pickF rfl rfl) rfl ?_)
          refine nil ?_
          refine n_then ?_
          refine condF rfl ?_
          refine skip ?_
          refine n_then ?_
          refine seq ?_
          refine region ?_
          refine op (y (x_assign rfl) rfl ?_)
          refine nil ?_
          refine n_then ?_
          refine ret ?_
          exact done rfl (.tmp rfl (.nil)) (Ro.le.refl _) (L) (subF (by (repeat (first | exact List.Sublist.refl _ | apply List.Sublist.cons_cons | apply List.Sublist.cons)); done)) (⟨IfV.nil, ⟨fun _ => by unfold ObOk; grind [bytes_nil], fun _ => rfl⟩, rfl⟩)
  · try simp only [decide_eq_true_eq, decide_eq_false_iff_not, beq_iff_eq, bne_iff_ne, ne_eq, beq_eq_false_iff_ne, bne_eq_false_iff_eq, Bool.not_eq_true', Bool.not_eq_false', Bool.not_eq_true, Bool.not_eq_false, Decidable.not_not, Int.not_lt, Int.not_le] at g7
    refine opG rfl rfl (y (x_fieldAddr fo_31_0 rfl) rfl ?_)
    refine opG rfl rfl (y (x_load1 ag_3 rfl (by first | assumption | exact Cell.own 0 rfl rfl | exact Cell.own 1 rfl rfl | exact Cell.own 2 rfl rfl | exact Cell.own 3 rfl rfl | exact Cell.own 4 rfl rfl | exact Cell.own 5 rfl rfl | exact Cell.own 6 rfl rfl | exact Cell.own 7 rfl rfl | exact Cell.own 8 rfl rfl | exact Cell.own 9 rfl rfl | exact Cell.ofRo (by assumption))) rfl ?_)
    refine opG rfl rfl (y (x_eql rfl rfl) rfl ?_)
    refine op (y (x_pickF rfl rfl) rfl ?_)
    refine op (y (x_assign rfl) rfl ?_)
    refine nil ?_
    refine n_then ?_
    refine seq ?_
    refine seq ?_
    refine region ?_
    refine op (y (x_fieldAddr fo_31_0 rfl) rfl ?_)
    refine op (y (x_load1 ag_3 rfl (by first | assumption | exact Cell.own 0 rfl rfl | exact Cell.own 1 rfl rfl | exact Cell.own 2 rfl rfl | exact Cell.own 3 rfl rfl | exact Cell.own 4 rfl rfl | exact Cell.own 5 rfl rfl | exact Cell.own 6 rfl rfl | exact Cell.own 7 rfl rfl | exact Cell.own 8 rfl rfl | exact Cell.own 9 rfl rfl | exact Cell.ofRo (by assumption))) rfl ?_)
    refine op (e_call rfl fn_61 rfl rfl (Word1_c o.kind hk er _ _ hG) fun v14 ro14 L14 hle14 hp14 => ?_)
    obtain ⟨sw, rfl, hsw, rfl, rfl⟩ := hp14
    refine op (y (x_seql rfl rfl) rfl ?_)
    refine op (y (x_move rfl) rfl ?_)
    refine bsplit 16 rfl (fun g16 => ?_) (fun g16 => ?_)
    · try simp only [decide_eq_true_eq, decide_eq_false_iff_not, beq_iff_eq, bne_iff_ne, ne_eq, beq_eq_false_iff_ne, bne_eq_false_iff_eq, Bool.not_eq_true', Bool.not_eq_false', Bool.not_eq_true, Bool.not_eq_false, Decidable.not_not, Int.not_lt, Int.not_le] at g16
      refine opN rfl rfl rfl rfl ?_
      refine opN rfl rfl rfl rfl ?_
      refine opN rfl rfl rfl rfl ?_
      refine op (y (x_pickT rfl rfl) rfl ?_)
      refine op (y (x_move rfl) rfl ?_)
      refine opN rfl rfl rfl rfl ?_
      refine opN rfl rfl rfl rfl ?_
      refine opN rfl rfl rfl rfl ?_
      refine op (y (x_pickT rfl rfl) rfl ?_)
      refine op (y (x_move rfl) rfl ?_)
      refine opN rfl rfl rfl rfl ?_
      refine opN rfl rfl rfl rfl ?_
      refine opN rfl rfl rfl rfl ?_
      refine opU rfl rfl rfl ?_
      refine opU rfl rfl rfl ?_
      refine opU rfl rfl rfl ?_
      refine opN rfl rfl rfl rfl ?_
      refine op (y (x_pickT rfl rfl) rfl ?_)
      refine nil ?_
      refine n_then ?_
      refine condT rfl ?_
      refine seq ?_
      have hGc := hG.err 3 (by omega)
      refine region ?_
      refine op (y (x_load1 ag_43 rfl (Cell.ofRo hGc)) rfl ?_)
      refine op (y (x_assign rfl) rfl ?_)
      refine nil ?_
      refine n_then ?_
      refine ret ?_
      refine r_then ?_
      exact done rfl (.tmp rfl (.nil)) (Ro.le.refl _) (L) (subF (by (repeat (first | exact List.Sublist.refl _ | apply List.Sublist.cons_cons | apply List.Sublist.cons)); done)) (⟨IfV.mk _ _, ⟨fun h => (by cases h), fun h => absurd h (fun hk => by unfold ObOk at hk; grind [bytes_nil])⟩, rfl⟩)
    · try simp only [decide_eq_true_eq, decide_eq_false_iff_not, beq_iff_eq, bne_iff_ne, ne_eq, beq_eq_false_iff_ne, bne_eq_false_iff_eq, Bool.not_eq_true', Bool.not_eq_false', Bool.not_eq_true, Bool.not_eq_false, Decidable.not_not, Int.not_lt, Int.not_le] at g16
      refine opG rfl rfl (y (x_fieldAddr fo_31_1 rfl) rfl ?_)
      refine opG rfl rfl (y (x_load1 ag_3 rfl (by first | assumption | exact Cell.own 0 rfl rfl | exact Cell.own 1 rfl rfl | exact Cell.own 2 rfl rfl | exact Cell.own 3 rfl rfl | exact Cell.own 4 rfl rfl | exact Cell.own 5 rfl rfl | exact Cell.own 6 rfl rfl | exact Cell.own 7 rfl rfl | exact Cell.own 8 rfl rfl | exact Cell.own 9 rfl rfl | exact Cell.ofRo (by assumption))) rfl ?_)
      refine opG rfl rfl (y (x_lss rfl rfl) rfl ?_)
      refine op (y (x_pickF rfl rfl) rfl ?_)
      refine op (y (x_move rfl) rfl ?_)
      refine bsplit 21 rfl (fun g21 => ?_) (fun g21 => ?_)
      · try simp only [decide_eq_true_eq, decide_eq_false_iff_not, beq_iff_eq, bne_iff_ne, ne_eq, beq_eq_false_iff_ne, bne_eq_false_iff_eq, Bool.not_eq_true', Bool.not_eq_false', Bool.not_eq_true, Bool.not_eq_false, Decidable.not_not, Int.not_lt, Int.not_le] at g21
        refine opN rfl rfl rfl rfl ?_
        refine opN rfl rfl rfl rfl ?_
        refine opN rfl rfl rfl rfl ?_
        refine op (y (x_pickT rfl rfl) rfl ?_)
        refine op (y (x_move rfl) rfl ?_)
        refine opN rfl rfl rfl rfl ?_
        refine opN rfl rfl rfl rfl ?_
        refine opN rfl rfl rfl rfl ?_
        refine opU rfl rfl rfl ?_
        refine opU rfl rfl rfl ?_
        refine opU rfl rfl rfl ?_
        refine opN rfl rfl rfl rfl ?_
        refine op (y (x_pickT rfl rfl) rfl ?_)
        refine nil ?_
        refine n_then ?_
        refine condT rfl ?_
        refine seq ?_
        have hGc := hG.err 3 (by omega)
        refine region ?_
        refine op (y (x_load1 ag_43 rfl (Cell.ofRo hGc)) rfl ?_)
        refine op (y (x_assign rfl) rfl ?_)
        refine nil ?_
        refine n_then ?_
        refine ret ?_
        refine r_then ?_
        exact done rfl (.tmp rfl (.nil)) (Ro.le.refl _) (L) (subF (by (repeat (first | exact List.Sublist.refl _ | apply List.Sublist.cons_cons | apply List.Sublist.cons)); done)) (⟨IfV.mk _ _, ⟨fun h => (by cases h), fun h => absurd h (fun hk => by unfold ObOk at hk; grind [bytes_nil])⟩, rfl⟩)
      · try simp only [decide_eq_true_eq, decide_eq_false_iff_not, beq_iff_eq, bne_iff_ne, ne_eq, beq_eq_false_iff_ne, bne_eq_false_iff_eq, Bool.not_eq_true', Bool.not_eq_false', Bool.not_eq_true, Bool.not_eq_false, Decidable.not_not, Int.not_lt, Int.not_le] at g21
        refine opG rfl rfl (y (x_fieldAddr fo_31_1 rfl) rfl ?_)
        refine opG rfl rfl (y (x_load1 ag_3 rfl (by first | assumption | exact Cell.own 0 rfl rfl | exact Cell.own 1 rfl rfl | exact Cell.own 2 rfl rfl | exact Cell.own 3 rfl rfl | exact Cell.own 4 rfl rfl | exact Cell.own 5 rfl rfl | exact Cell.own 6 rfl rfl | exact Cell.own 7 rfl rfl | exact Cell.own 8 rfl rfl | exact Cell.own 9 rfl rfl | exact Cell.ofRo (by assumption))) rfl ?_)
        refine opG rfl rfl (y (x_gtr rfl rfl) rfl ?_)
        refine op (y (x_pickF rfl rfl) rfl ?_)
        refine op (y (x_move rfl) rfl ?_)
        refine bsplit 26 rfl (fun g26 => ?_) (fun g26 => ?_)
        · try simp only [decide_eq_true_eq, decide_eq_false_iff_not, beq_iff_eq, bne_iff_ne, ne_eq, beq_eq_false_iff_ne, bne_eq_false_iff_eq, Bool.not_eq_true', Bool.not_eq_false', Bool.not_eq_true, Bool.not_eq_false, Decidable.not_not, Int.not_lt, Int.not_le] at g26
          refine opN rfl rfl rfl rfl ?_
          refine opN rfl rfl rfl rfl ?_
          refine opN rfl rfl rfl rfl ?_
          refine opU rfl rfl rfl ?_
          refine opU rfl rfl rfl ?_
          refine opU rfl rfl rfl ?_
          refine opN rfl rfl rfl rfl ?_
          refine op (y (x_pickT rfl rfl) rfl ?_)
          refine nil ?_
          refine n_then ?_
          refine condT rfl ?_
          refine seq ?_
          have hGc := hG.err 3 (by omega)
          refine region ?_
          refine op (y (x_load1 ag_43 rfl (Cell.ofRo hGc)) rfl ?_)
          refine op (y (x_assign rfl) rfl ?_)
          refine nil ?_
          refine n_then ?_
          refine ret ?_
          refine r_then ?_
          exact done rfl (.tmp rfl (.nil)) (Ro.le.refl _) (L) (subF (by (repeat (first | exact List.Sublist.refl _ | apply List.Sublist.cons_cons | apply List.Sublist.cons)); done)) (⟨IfV.mk _ _, ⟨fun h => (by cases h), fun h => absurd h (fun hk => by unfold ObOk at hk; grind [bytes_nil])⟩, rfl⟩)
        · try simp only [decide_eq_true_eq, decide_eq_false_iff_not, beq_iff_eq, bne_iff_ne, ne_eq, beq_eq_false_iff_ne, bne_eq_false_iff_eq, Bool.not_eq_true', Bool.not_eq_false', Bool.not_eq_true, Bool.not_eq_false, Decidable.not_not, Int.not_lt, Int.not_le] at g26
          refine opG rfl rfl (y (x_move rfl) rfl ?_)
          refine opG rfl rfl (y (x_not rfl) rfl ?_)
          refine opG rfl rfl (y (x_move rfl) rfl ?_)
          refine bsplit 29 rfl (fun g29 => ?_) (fun g29 => ?_)
          · try simp only [decide_eq_true_eq, decide_eq_false_iff_not, beq_iff_eq, bne_iff_ne, ne_eq, beq_eq_false_iff_ne, bne_eq_false_iff_eq, Bool.not_eq_true', Bool.not_eq_false', Bool.not_eq_true, Bool.not_eq_false, Decidable.not_not, Int.not_lt, Int.not_le] at g29
            refine opG rfl rfl (y (x_fieldAddr fo_31_1 rfl) rfl ?_)
            refine opG rfl rfl (y (x_load1 ag_3 rfl (by first | assumption | exact Cell.own 0 rfl rfl | exact Cell.own 1 rfl rfl | exact Cell.own 2 rfl rfl | exact Cell.own 3 rfl rfl | exact Cell.own 4 rfl rfl | exact Cell.own 5 rfl rfl | exact Cell.own 6 rfl rfl | exact Cell.own 7 rfl rfl | exact Cell.own 8 rfl rfl | exact Cell.own 9 rfl rfl | exact Cell.ofRo (by assumption))) rfl ?_)
            refine opG rfl rfl (y (x_neq rfl rfl) rfl ?_)
            refine opG rfl rfl (y (x_pickT rfl rfl) rfl ?_)
            refine op (y (x_pickF rfl rfl) rfl ?_)
            refine nil ?_
            refine n_then ?_
            refine cond rfl (fun h2 => ?_) (fun h2 => ?_)
            · try simp only [decide_eq_true_eq, decide_eq_false_iff_not, beq_iff_eq, bne_iff_ne, ne_eq, beq_eq_false_iff_ne, bne_eq_false_iff_eq, Bool.not_eq_true', Bool.not_eq_false', Bool.not_eq_true, Bool.not_eq_false, Decidable.not_not, Int.not_lt, Int.not_le] at h2
              refine seq ?_
              have hGc := hG.err 3 (by omega)
              refine region ?_
              refine op (y (x_load1 ag_43 rfl (Cell.ofRo hGc)) rfl ?_)
              refine op (y (x_assign rfl) rfl ?_)
              refine nil ?_
              refine n_then ?_
              refine ret ?_
              refine r_then ?_
              exact done rfl (.tmp rfl (.nil)) (Ro.le.refl _) (L) (subF (by (repeat (first | exact List.Sublist.refl _ | apply List.Sublist.cons_cons | apply List.Sublist.cons)); done)) (⟨IfV.mk _ _, ⟨fun h => (by cases h), fun h => absurd h (fun hk => by unfold ObOk at hk; grind [bytes_nil])⟩, rfl⟩)
            · try simp only [decide_eq_true_eq, decide_eq_false_iff_not, beq_iff_eq, bne_iff_ne, ne_eq, beq_eq_false_iff_ne, bne_eq_false_iff_eq, Bool.not_eq_true', Bool.not_eq_false', Bool.not_eq_true, Bool.not_eq_false, Decidable.not_not, Int.not_lt, Int.not_le] at h2
              refine skip ?_
              refine n_then ?_
              refine seq ?_
              refine region ?_
              refine op (y (x_assign rfl) rfl ?_)
              refine nil ?_
              refine n_then ?_
              refine ret ?_
              exact done rfl (.tmp rfl (.nil)) (Ro.le.refl _) (L) (subF (by (repeat (first | exact List.Sublist.refl _ | apply List.Sublist.cons_cons | apply List.Sublist.cons)); done)) (⟨IfV.nil, ⟨fun _ => by unfold ObOk; grind [bytes_nil], fun _ => rfl⟩, rfl⟩)
          · try simp only [decide_eq_true_eq, decide_eq_false_iff_not, beq_iff_eq, bne_iff_ne, ne_eq, beq_eq_false_iff_ne, bne_eq_false_iff_eq, Bool.not_eq_true', Bool.not_eq_false', Bool.not_eq_true, Bool.not_eq_false, Decidable.not_not, Int.not_lt, Int.not_le] at g29
            refine opN rfl rfl rfl rfl ?_
            refine opN rfl rfl rfl rfl ?_
            refine opN rfl rfl rfl rfl ?_
            refine opG rfl rfl (y (x_pickF rfl rfl) rfl ?_)
            refine op (y (x_pickF rfl rfl) rfl ?_)
            refine nil ?_
            refine n_then ?_
            refine condF rfl ?_
            refine skip ?_
            refine n_then ?_
            refine seq ?_
            refine region ?_
            refine op (y (x_assign rfl) rfl ?_)
            refine nil ?_
            refine n_then ?_
            refine ret ?_
            exact done rfl (.tmp rfl (.nil)) (Ro.le.refl _) (L) (subF (by (repeat (first | exact List.Sublist.refl _ | apply List.Sublist.cons_cons | apply List.Sublist.cons)); done)) (⟨IfV.nil, ⟨fun _ => by unfold ObOk; grind [bytes_nil], fun _ => rfl⟩, rfl⟩)

theorem at_c (pos : Int) (t u) (ro : Ro) (L : List (List Blk)) :
    CT Tryd.prog 55 [.int .i64 pos, .iface t u].toArray ro L (PErr L) := by
  refine enter Tryd.func55 rfl Tryd.ntmps55 rfl ?_
  refine seq ?_
  refine region ?_
  refine op (y (x_assign rfl) rfl ?_)
  refine nil ?_
  refine n_then ?_
  refine seq ?_
  refine region ?_
  refine op (y (x_move rfl) rfl ?_)
  refine op (y (x_move rfl) rfl ?_)
  refine op (y (x_build bu_83 rfl rfl) rfl ?_)
  refine op (e_box rfl rfl rfl fun b8 => ?_)
  refine op (y (x_mkI Tryd.underlying81 rfl) rfl ?_)
  refine op (y (x_assign rfl) rfl ?_)
  refine nil ?_
  refine n_then ?_
  refine ret ?_
  exact done rfl (.tmp rfl (.nil)) (Ro.le.refl _) (L) (subF (by (repeat (first | exact List.Sublist.refl _ | apply List.Sublist.cons_cons | apply List.Sublist.cons)); done)) (⟨⟨_, _, rfl⟩, rfl⟩)

theorem HistValid_c (h : Hi) (A : Option Addr) (cA : Nat) (B : Option Addr) (cB : Nat) (ro : Ro) (L : List (List Blk)) (hh : SH ro A cA B cB h) (hn1 : h.os.length ≤ 100) (hn2 : h.es.length ≤ 600) (hI : HI h) (er : Nat → Addr) (hG : Glob er ro) :
    CT Tryd.prog 51 [.agg [.slice A h.os.length cA, .slice B h.es.length cB].toArray].toArray ro L (PE (HV h) L) := by
  refine enter Tryd.func51 rfl Tryd.ntmps51 rfl ?_
  refine seq ?_
  refine region ?_
  refine op (e_box rfl rfl rfl fun b1 => ?_)
  refine op (y (x_assign rfl) rfl ?_)
  refine nil ?_
  refine n_then ?_
  refine seq ?_
  refine seq ?_
  refine region ?_
  refine op (y (x_fieldAddr fo_25_0 rfl) rfl ?_)
  refine op (y (x_load1 ag_22 rfl (by first | assumption | exact Cell.own 0 rfl rfl | exact Cell.own 1 rfl rfl | exact Cell.own 2 rfl rfl | exact Cell.own 3 rfl rfl | exact Cell.own 4 rfl rfl | exact Cell.own 5 rfl rfl | exact Cell.own 6 rfl rfl | exact Cell.own 7 rfl rfl | exact Cell.own 8 rfl rfl | exact Cell.own 9 rfl rfl | exact Cell.ofRo (by assumption))) rfl ?_)
  refine op (y (x_lenSl sz_22 rfl) rfl ?_)
  refine op (y (x_gtr rfl rfl) rfl ?_)
  refine op (y (x_move rfl) rfl ?_)
  refine bsplit 13 rfl (fun g13 => ?_) (fun g13 => ?_)
  · try simp only [decide_eq_true_eq, decide_eq_false_iff_not, beq_iff_eq, bne_iff_ne, ne_eq, beq_eq_false_iff_ne, bne_eq_false_iff_eq, Bool.not_eq_true', Bool.not_eq_false', Bool.not_eq_true, Bool.not_eq_false, Decidable.not_not, Int.not_lt, Int.not_le] at g13
    refine opN rfl rfl rfl rfl ?_
    refine opN rfl rfl rfl rfl ?_
    refine opN rfl rfl rfl rfl ?_
    refine opN rfl rfl rfl rfl ?_
    refine op (y (x_pickT rfl rfl) rfl ?_)
    refine nil ?_
    refine n_then ?_
    refine condT rfl ?_
    refine seq ?_
    have hGc := hG.err 2 (by omega)
    refine region ?_
    refine op (y (x_load1 ag_43 rfl (Cell.ofRo hGc)) rfl ?_)
    refine op (y (x_assign rfl) rfl ?_)
    refine nil ?_
    refine n_then ?_
    refine ret ?_
    refine r_then ?_
    exact done rfl (.tmp rfl (.nil)) (Ro.le.refl _) (L) (subF (by (repeat (first | exact List.Sublist.refl _ | apply List.Sublist.cons_cons | apply List.Sublist.cons)); done)) (⟨IfV.mk _ _, ⟨fun h => (by cases h), fun h => absurd h (fun hk => by unfold HV at hk; grind)⟩, rfl⟩)
  · try simp only [decide_eq_true_eq, decide_eq_false_iff_not, beq_iff_eq, bne_iff_ne, ne_eq, beq_eq_false_iff_ne, bne_eq_false_iff_eq, Bool.not_eq_true', Bool.not_eq_false', Bool.not_eq_true, Bool.not_eq_false, Decidable.not_not, Int.not_lt, Int.not_le] at g13
    refine opG rfl rfl (y (x_fieldAddr fo_25_1 rfl) rfl ?_)
    refine opG rfl rfl (y (x_load1 ag_23 rfl (by first | assumption | exact Cell.own 0 rfl rfl | exact Cell.own 1 rfl rfl | exact Cell.own 2 rfl rfl | exact Cell.own 3 rfl rfl | exact Cell.own 4 rfl rfl | exact Cell.own 5 rfl rfl | exact Cell.own 6 rfl rfl | exact Cell.own 7 rfl rfl | exact Cell.own 8 rfl rfl | exact Cell.own 9 rfl rfl | exact Cell.ofRo (by assumption))) rfl ?_)
    refine opG rfl rfl (y (x_lenSl sz_23 rfl) rfl ?_)
    refine opG rfl rfl (y (x_gtr rfl rfl) rfl ?_)
    refine op (y (x_pickF rfl rfl) rfl ?_)
    refine nil ?_
    refine n_then ?_
    refine cond rfl (fun h1 => ?_) (fun h1 => ?_)
    · try simp only [decide_eq_true_eq, decide_eq_false_iff_not, beq_iff_eq, bne_iff_ne, ne_eq, beq_eq_false_iff_ne, bne_eq_false_iff_eq, Bool.not_eq_true', Bool.not_eq_false', Bool.not_eq_true, Bool.not_eq_false, Decidable.not_not, Int.not_lt, Int.not_le] at h1
      refine seq ?_
      have hGc := hG.err 2 (by omega)
      refine region ?_
      refine op (y (x_load1 ag_43 rfl (Cell.ofRo hGc)) rfl ?_)
      refine op (y (x_assign rfl) rfl ?_)
      refine nil ?_
      refine n_then ?_
      refine ret ?_
      refine r_then ?_
      exact done rfl (.tmp rfl (.nil)) (Ro.le.refl _) (L) (subF (by (repeat (first | exact List.Sublist.refl _ | apply List.Sublist.cons_cons | apply List.Sublist.cons)); done)) (⟨IfV.mk _ _, ⟨fun h => (by cases h), fun h => absurd h (fun hk => by unfold HV at hk; grind)⟩, rfl⟩)
    · try simp only [decide_eq_true_eq, decide_eq_false_iff_not, beq_iff_eq, bne_iff_ne, ne_eq, beq_eq_false_iff_ne, bne_eq_false_iff_eq, Bool.not_eq_true', Bool.not_eq_false', Bool.not_eq_true, Bool.not_eq_false, Decidable.not_not, Int.not_lt, Int.not_le] at h1
      refine skip ?_
      refine n_then ?_
      refine seq ?_
      refine seq ?_
      refine region ?_
      refine op (y (x_fieldAddr fo_25_0 rfl) rfl ?_)
      refine op (y (x_load1 ag_22 rfl (by first | assumption | exact Cell.own 0 rfl rfl | exact Cell.own 1 rfl rfl | exact Cell.own 2 rfl rfl | exact Cell.own 3 rfl rfl | exact Cell.own 4 rfl rfl | exact Cell.own 5 rfl rfl | exact Cell.own 6 rfl rfl | exact Cell.own 7 rfl rfl | exact Cell.own 8 rfl rfl | exact Cell.own 9 rfl rfl | exact Cell.ofRo (by assumption))) rfl ?_)
      refine op (y (x_lenSl sz_22 rfl) rfl ?_)
      refine op (y (x_move rfl) rfl ?_)
      refine nil ?_
      refine n_then ?_
      refine block ?_
      refine loop (fun m F ro' L' => ∃ (k : Nat), (m = h.os.length - k) ∧ (F = [(1, .pointer (some ⟨b1, 0, none⟩)), (21, .slice A h.os.length cA), (22, .int .i64 (h.os.length : Nat)), (23, .int .i64 (k : Nat))]) ∧ (L' = [(b1, Obj.cells [Value.slice A h.os.length cA, Value.slice B h.es.length cB].toArray 25 (0, 0))] :: L) ∧ (k ≤ h.os.length) ∧ (ro.le ro') ∧ (∀ q : Nat, q < k → ∀ o, h.os[q]? = some o → ObOk o)) (h.os.length - 0) [(1, .pointer (some ⟨b1, 0, none⟩)), (21, .slice A h.os.length cA), (22, .int .i64 (h.os.length : Nat)), (23, .int .i64 (0 : Nat))] ⟨rfl, rfl, rfl, rfl, trivial⟩ ⟨0, rfl, rfl, rfl, by omega, Ro.le.refl _, by omega⟩ ?_
      rintro m F ro' L' ⟨k, rfl, rfl, rfl, hk, hro, hall⟩
      refine seq ?_
      refine region ?_
      refine op (y (x_lss rfl rfl) rfl ?_)
      refine nil ?_
      refine n_then ?_
      refine seq ?_
      refine cond rfl (fun h4 => ?_) (fun h4 => ?_)
      · try simp only [decide_eq_true_eq, decide_eq_false_iff_not, beq_iff_eq, bne_iff_ne, ne_eq, beq_eq_false_iff_ne, bne_eq_false_iff_eq, Bool.not_eq_true', Bool.not_eq_false', Bool.not_eq_true, Bool.not_eq_false, Decidable.not_not, Int.not_lt, Int.not_le] at h4
        refine skip ?_
        refine n_then ?_
        refine seq ?_
        refine block ?_
        refine seq ?_
        have hA := hh.o
        obtain ⟨bbx, offx, rfl, hcx⟩ := hA.at_ (i := k) (by omega)
        have hx := List.getElem?_eq_getElem (show k < h.os.length from by omega)
        have hm := List.mem_of_getElem? hx
        refine region ?_
        refine op (y (x_move rfl) rfl ?_)
        refine op (y (x_indexNat sz_22 rfl rfl (by omega)) rfl ?_)
        refine op (y (x_loadN ag_31 rfl rfl (CellsAt.ofRo (fun j v hv => hro.cell (hcx k _ hx j v hv)))) rfl ?_)
        refine op (e_alloc rfl zc_31 rfl fun b4 => ?_)
        refine op (y (x_assign rfl) rfl ?_)
        first | refine op (e_store 0 rfl rfl ts_31 rfl rfl rfl rfl rfl rfl ?_) | refine op (e_store 1 rfl rfl ts_31 rfl rfl rfl rfl rfl rfl ?_) | refine op (e_store 2 rfl rfl ts_31 rfl rfl rfl rfl rfl rfl ?_) | refine op (e_store 3 rfl rfl ts_31 rfl rfl rfl rfl rfl rfl ?_) | refine op (e_store 4 rfl rfl ts_31 rfl rfl rfl rfl rfl rfl ?_) | refine op (e_store 5 rfl rfl ts_31 rfl rfl rfl rfl rfl rfl ?_) | refine op (e_store 6 rfl rfl ts_31 rfl rfl rfl rfl rfl rfl ?_) | refine op (e_store 7 rfl rfl ts_31 rfl rfl rfl rfl rfl rfl ?_) | refine op (e_store 8 rfl rfl ts_31 rfl rfl rfl rfl rfl rfl ?_) | refine op (e_store 9 rfl rfl ts_31 rfl rfl rfl rfl rfl rfl ?_)
        refine nil ?_
        refine n_then ?_
        refine seq ?_
        refine region ?_
        refine op (y ((by first | exact x_loadOwn 0 _ ag_31 rfl rfl rfl rfl | exact x_loadOwn 1 _ ag_31 rfl rfl rfl rfl | exact x_loadOwn 2 _ ag_31 rfl rfl rfl rfl | exact x_loadOwn 3 _ ag_31 rfl rfl rfl rfl | exact x_loadOwn 4 _ ag_31 rfl rfl rfl rfl | exact x_loadOwn 5 _ ag_31 rfl rfl rfl rfl | exact x_loadOwn 6 _ ag_31 rfl rfl rfl rfl | exact x_loadOwn 7 _ ag_31 rfl rfl rfl rfl | exact x_loadOwn 8 _ ag_31 rfl rfl rfl rfl | exact x_loadOwn 9 _ ag_31 rfl rfl rfl rfl | exact x_loadOwn 10 _ ag_31 rfl rfl rfl rfl | exact x_loadOwn 11 _ ag_31 rfl rfl rfl rfl)) rfl ?_)
        refine op (e_call rfl fn_54 rfl rfl (ValidObject_c (h.os[k]) (hI.o _ hm).1 er _ _ (hG.mono hro)) fun v29 ro29 L29 hle29 hp29 => ?_)
        obtain ⟨hv29, hi29, rfl⟩ := hp29
        refine op (y (x_assign rfl) rfl ?_)
        refine nil ?_
        refine n_then ?_
        refine seq ?_
        refine region ?_
        refine op (y (x_move rfl) rfl ?_)
        refine op (y (x_ifNeNil Tryd.underlying43 rfl (by assumption)) rfl ?_)
        refine nil ?_
        refine n_then ?_
        refine cond rfl (fun h7 => ?_) (fun h7 => ?_)
        · try simp only [decide_eq_true_eq, decide_eq_false_iff_not, beq_iff_eq, bne_iff_ne, ne_eq, beq_eq_false_iff_ne, bne_eq_false_iff_eq, Bool.not_eq_true', Bool.not_eq_false', Bool.not_eq_true, Bool.not_eq_false, Decidable.not_not, Int.not_lt, Int.not_le] at h7
          refine seq ?_
          have hno : ¬ ObOk (h.os[k]) := fun hx => by have := hi29.2 hx; grind
          obtain ⟨tt, uu, rfl⟩ := ifv_some hv29 (by grind)
          refine region ?_
          refine op (y (x_move rfl) rfl ?_)
          refine op (y (x_move rfl) rfl ?_)
          refine op (e_call rfl fn_55 rfl rfl (at_c _ _ _ _ _) fun v34 ro34 L34 hle34 hp34 => ?_)
          obtain ⟨⟨t3, u3, rfl⟩, rfl⟩ := hp34
          refine op (y (x_assign rfl) rfl ?_)
          refine nil ?_
          refine n_then ?_
          refine ret ?_
          refine r_in ?_
          refine r_then ?_
          refine r_then ?_
          refine r_in ?_
          refine r_then ?_
          exact done rfl (.tmp rfl (.nil)) (hro.trans (hle29.trans hle34)) (L) (subF (by (repeat (first | exact List.Sublist.refl _ | apply List.Sublist.cons_cons | apply List.Sublist.cons)); done)) (⟨IfV.mk _ _, ⟨fun h => (by cases h), fun h => absurd h (fun hk => hno (hk.2.2.1 _ hm))⟩, rfl⟩)
        · try simp only [decide_eq_true_eq, decide_eq_false_iff_not, beq_iff_eq, bne_iff_ne, ne_eq, beq_eq_false_iff_ne, bne_eq_false_iff_eq, Bool.not_eq_true', Bool.not_eq_false', Bool.not_eq_true, Bool.not_eq_false, Decidable.not_not, Int.not_lt, Int.not_le] at h7
          refine skip ?_
          refine n_in ?_
          refine n_then ?_
          refine region ?_
          refine op (y (x_add rfl rfl _ (wr (by omega) (by omega))) rfl ?_)
          refine op (y (x_move rfl) rfl ?_)
          refine nil ?_
          refine drop0 ?_
          exact round (h.os.length - (k + 1)) [(1, .pointer (some ⟨b1, 0, none⟩)), (21, .slice _ h.os.length cA), (22, .int .i64 (h.os.length : Nat)), (23, .int .i64 ((k + 1) : Nat))] (by omega) ⟨rfl, rfl, rfl, rfl, trivial⟩ ⟨k + 1, rfl, rfl, rfl, by omega, hro.trans hle29, upto (p := fun q => ∀ o, h.os[q]? = some o → ObOk o) hall (fun o ho => by rw [hx] at ho; cases ho; exact hi29.1 (by grind))⟩
      · try simp only [decide_eq_true_eq, decide_eq_false_iff_not, beq_iff_eq, bne_iff_ne, ne_eq, beq_eq_false_iff_ne, bne_eq_false_iff_eq, Bool.not_eq_true', Bool.not_eq_false', Bool.not_eq_true, Bool.not_eq_false, Decidable.not_not, Int.not_lt, Int.not_le] at h4
        refine exit ?_
        refine e_then ?_
        refine e_then ?_
        refine e_in ?_
        refine n_then ?_
        refine seq ?_
        refine seq ?_
        have hAll := allq (by intro q hq o ho; exact hall q (by omega) o ho)
        refine region ?_
        refine op (y (x_fieldAddr fo_25_1 rfl) rfl ?_)
        refine op (y (x_load1 ag_23 rfl (by first | assumption | exact Cell.own 0 rfl rfl | exact Cell.own 1 rfl rfl | exact Cell.own 2 rfl rfl | exact Cell.own 3 rfl rfl | exact Cell.own 4 rfl rfl | exact Cell.own 5 rfl rfl | exact Cell.own 6 rfl rfl | exact Cell.own 7 rfl rfl | exact Cell.own 8 rfl rfl | exact Cell.own 9 rfl rfl | exact Cell.ofRo (by assumption))) rfl ?_)
        refine op (y (x_lenSl sz_23 rfl) rfl ?_)
        refine op (y (x_move rfl) rfl ?_)
        refine nil ?_
        refine n_then ?_
        refine block ?_
        refine loop (fun m F ro2' L2' => ∃ (k : Nat), (m = h.es.length - k) ∧ (F = [(1, .pointer (some ⟨b1, 0, none⟩)), (37, .slice B h.es.length cB), (38, .int .i64 (h.es.length : Nat)), (39, .int .i64 (k : Nat))]) ∧ (L2' = [(b1, Obj.cells [Value.slice A h.os.length cA, Value.slice B h.es.length cB].toArray 25 (0, 0))] :: L) ∧ (k ≤ h.es.length) ∧ (ro.le ro2') ∧ (∀ q : Nat, q < k → ∀ e, h.es[q]? = some e → EvOk e ∧ EvIn h.os e)) (h.es.length - 0) [(1, .pointer (some ⟨b1, 0, none⟩)), (37, .slice B h.es.length cB), (38, .int .i64 (h.es.length : Nat)), (39, .int .i64 (0 : Nat))] ⟨rfl, rfl, rfl, rfl, trivial⟩ ⟨0, rfl, rfl, rfl, by omega, hro, by omega⟩ ?_
        rintro m F ro2' L2' ⟨k, rfl, rfl, rfl, hk2, hro2, hall2⟩
        refine seq ?_
        refine region ?_
        refine op (y (x_lss rfl rfl) rfl ?_)
        refine nil ?_
        refine n_then ?_
        refine seq ?_
        refine cond rfl (fun h11 => ?_) (fun h11 => ?_)
        · try simp only [decide_eq_true_eq, decide_eq_false_iff_not, beq_iff_eq, bne_iff_ne, ne_eq, beq_eq_false_iff_ne, bne_eq_false_iff_eq, Bool.not_eq_true', Bool.not_eq_false', Bool.not_eq_true, Bool.not_eq_false, Decidable.not_not, Int.not_lt, Int.not_le] at h11
          refine skip ?_
          refine n_then ?_
          refine seq ?_
          refine block ?_
          refine seq ?_
          have hB := hh.e
          obtain ⟨bbx, offx, rfl, hcx⟩ := hB.at_ (i := k) (by omega)
          have hx := List.getElem?_eq_getElem (show k < h.es.length from by omega)
          have hm := List.mem_of_getElem? hx
          refine region ?_
          refine op (y (x_move rfl) rfl ?_)
          refine op (y (x_indexNat sz_23 rfl rfl (by omega)) rfl ?_)
          refine op (y (x_loadN ag_34 rfl rfl (CellsAt.ofRo (fun j v hv => hro2.cell (hcx k _ hx j v hv)))) rfl ?_)
          refine op (e_alloc rfl zc_34 rfl fun b7 => ?_)
          refine op (y (x_assign rfl) rfl ?_)
          first | refine op (e_store 0 rfl rfl ts_34 rfl rfl rfl rfl rfl rfl ?_) | refine op (e_store 1 rfl rfl ts_34 rfl rfl rfl rfl rfl rfl ?_) | refine op (e_store 2 rfl rfl ts_34 rfl rfl rfl rfl rfl rfl ?_) | refine op (e_store 3 rfl rfl ts_34 rfl rfl rfl rfl rfl rfl ?_) | refine op (e_store 4 rfl rfl ts_34 rfl rfl rfl rfl rfl rfl ?_) | refine op (e_store 5 rfl rfl ts_34 rfl rfl rfl rfl rfl rfl ?_) | refine op (e_store 6 rfl rfl ts_34 rfl rfl rfl rfl rfl rfl ?_) | refine op (e_store 7 rfl rfl ts_34 rfl rfl rfl rfl rfl rfl ?_) | refine op (e_store 8 rfl rfl ts_34 rfl rfl rfl rfl rfl rfl ?_) | refine op (e_store 9 rfl rfl ts_34 rfl rfl rfl rfl rfl rfl ?_)
          refine nil ?_
          refine n_then ?_
          refine seq ?_
          refine seq ?_
          refine region ?_
          refine op (y ((by first | exact x_loadOwn 0 _ ag_34 rfl rfl rfl rfl | exact x_loadOwn 1 _ ag_34 rfl rfl rfl rfl | exact x_loadOwn 2 _ ag_34 rfl rfl rfl rfl | exact x_loadOwn 3 _ ag_34 rfl rfl rfl rfl | exact x_loadOwn 4 _ ag_34 rfl rfl rfl rfl | exact x_loadOwn 5 _ ag_34 rfl rfl rfl rfl | exact x_loadOwn 6 _ ag_34 rfl rfl rfl rfl | exact x_loadOwn 7 _ ag_34 rfl rfl rfl rfl | exact x_loadOwn 8 _ ag_34 rfl rfl rfl rfl | exact x_loadOwn 9 _ ag_34 rfl rfl rfl rfl | exact x_loadOwn 10 _ ag_34 rfl rfl rfl rfl | exact x_loadOwn 11 _ ag_34 rfl rfl rfl rfl)) rfl ?_)
          refine op (e_call rfl fn_56 rfl rfl (Valid_c (h.es[k]) (hI.e _ hm) er _ _ (hG.mono hro2)) fun v45 ro45 L45 hle45 hp45 => ?_)
          obtain ⟨hv45, hi45, rfl⟩ := hp45
          refine op (y (x_assign rfl) rfl ?_)
          refine nil ?_
          refine n_then ?_
          refine seq ?_
          refine region ?_
          refine op (y (x_move rfl) rfl ?_)
          refine op (y (x_ifNeNil Tryd.underlying43 rfl (by assumption)) rfl ?_)
          refine nil ?_
          refine n_then ?_
          refine cond rfl (fun h14 => ?_) (fun h14 => ?_)
          · try simp only [decide_eq_true_eq, decide_eq_false_iff_not, beq_iff_eq, bne_iff_ne, ne_eq, beq_eq_false_iff_ne, bne_eq_false_iff_eq, Bool.not_eq_true', Bool.not_eq_false', Bool.not_eq_true, Bool.not_eq_false, Decidable.not_not, Int.not_lt, Int.not_le] at h14
            refine seq ?_
            have hno : ¬ EvOk (h.es[k]) := fun hx => by have := hi45.2 hx; grind
            obtain ⟨tt, uu, rfl⟩ := ifv_some hv45 (by grind)
            refine region ?_
            refine op (y (x_move rfl) rfl ?_)
            refine op (y (x_move rfl) rfl ?_)
            refine op (e_call rfl fn_55 rfl rfl (at_c _ _ _ _ _) fun v50 ro50 L50 hle50 hp50 => ?_)
            obtain ⟨⟨t3, u3, rfl⟩, rfl⟩ := hp50
            refine op (y (x_assign rfl) rfl ?_)
            refine nil ?_
            refine n_then ?_
            refine ret ?_
            refine r_then ?_
            refine r_in ?_
            refine r_then ?_
            refine r_then ?_
            refine r_in ?_
            refine r_then ?_
            exact done rfl (.tmp rfl (.nil)) (hro2.trans (hle45.trans hle50)) (L) (subF (by (repeat (first | exact List.Sublist.refl _ | apply List.Sublist.cons_cons | apply List.Sublist.cons)); done)) (⟨IfV.mk _ _, ⟨fun h => (by cases h), fun h => absurd h (fun hk => hno (hk.2.2.2 _ hm).1)⟩, rfl⟩)
          · try simp only [decide_eq_true_eq, decide_eq_false_iff_not, beq_iff_eq, bne_iff_ne, ne_eq, beq_eq_false_iff_ne, bne_eq_false_iff_eq, Bool.not_eq_true', Bool.not_eq_false', Bool.not_eq_true, Bool.not_eq_false, Decidable.not_not, Int.not_lt, Int.not_le] at h14
            refine skip ?_
            refine n_then ?_
            refine seq ?_
            refine seq ?_
            refine region ?_
            refine op (y (x_fieldAddr fo_34_0 rfl) rfl ?_)
            refine op (y (x_load1 ag_3 rfl (by first | assumption | exact Cell.own 0 rfl rfl | exact Cell.own 1 rfl rfl | exact Cell.own 2 rfl rfl | exact Cell.own 3 rfl rfl | exact Cell.own 4 rfl rfl | exact Cell.own 5 rfl rfl | exact Cell.own 6 rfl rfl | exact Cell.own 7 rfl rfl | exact Cell.own 8 rfl rfl | exact Cell.own 9 rfl rfl | exact Cell.ofRo (by assumption))) rfl ?_)
            refine op (y (x_neq rfl rfl) rfl ?_)
            refine nil ?_
            refine n_then ?_
            refine cond rfl (fun h16 => ?_) (fun h16 => ?_)
            · try simp only [decide_eq_true_eq, decide_eq_false_iff_not, beq_iff_eq, bne_iff_ne, ne_eq, beq_eq_false_iff_ne, bne_eq_false_iff_eq, Bool.not_eq_true', Bool.not_eq_false', Bool.not_eq_true, Bool.not_eq_false, Decidable.not_not, Int.not_lt, Int.not_le] at h16
              refine exit ?_
              refine e_then ?_
              refine e_in ?_
              refine n_then ?_
              refine region ?_
              refine op (y (x_add rfl rfl _ (wr (by omega) (by omega))) rfl ?_)
              refine op (y (x_move rfl) rfl ?_)
              refine nil ?_
              refine drop0 ?_
              first | exact round (h.es.length - (k + 1)) [(1, .pointer (some ⟨b1, 0, none⟩)), (37, .slice _ h.es.length cB), (38, .int .i64 (h.es.length : Nat)), (39, .int .i64 ((k + 1) : Nat))] (by omega) ⟨rfl, rfl, rfl, rfl, trivial⟩ ⟨k + 1, rfl, rfl, rfl, by omega, hro2.trans hle45, upto (p := fun q => ∀ e, h.es[q]? = some e → EvOk e ∧ EvIn h.os e) hall2 (fun e he2 => by rw [hx] at he2; cases he2; exact ⟨hi45.1 (by grind), fun hk3 => by grind⟩)⟩ | exact round (h.es.length - (k + 1)) [(1, .pointer (some ⟨b1, 0, none⟩)), (37, .slice _ h.es.length cB), (38, .int .i64 (h.es.length : Nat)), (39, .int .i64 ((k + 1) : Nat))] (by omega) ⟨rfl, rfl, rfl, rfl, trivial⟩ ⟨k + 1, rfl, rfl, rfl, by omega, hro2.trans hle45, upto (p := fun q => ∀ e, h.es[q]? = some e → EvOk e ∧ EvIn h.os e) hall2 (fun e he2 => by rw [hx] at he2; cases he2; exact ⟨hi45.1 (by grind), fun _ => ⟨by omega, fun o ho => by rw [hoj] at ho; simp only [Int.toNat_natCast] at ho; rw [hz] at ho; cases ho; grind⟩⟩)⟩
            · try simp only [decide_eq_true_eq, decide_eq_false_iff_not, beq_iff_eq, bne_iff_ne, ne_eq, beq_eq_false_iff_ne, bne_eq_false_iff_eq, Bool.not_eq_true', Bool.not_eq_false', Bool.not_eq_true, Bool.not_eq_false, Decidable.not_not, Int.not_lt, Int.not_le] at h16
              refine skip ?_
              refine n_then ?_
              refine seq ?_
              refine seq ?_
              refine region ?_
              refine op (y (x_fieldAddr fo_34_3 rfl) rfl ?_)
              refine op (y (x_load1 ag_3 rfl (by first | assumption | exact Cell.own 0 rfl rfl | exact Cell.own 1 rfl rfl | exact Cell.own 2 rfl rfl | exact Cell.own 3 rfl rfl | exact Cell.own 4 rfl rfl | exact Cell.own 5 rfl rfl | exact Cell.own 6 rfl rfl | exact Cell.own 7 rfl rfl | exact Cell.own 8 rfl rfl | exact Cell.own 9 rfl rfl | exact Cell.ofRo (by assumption))) rfl ?_)
              refine op (y (x_fieldAddr fo_25_0 rfl) rfl ?_)
              refine op (y (x_load1 ag_22 rfl (by first | assumption | exact Cell.own 0 rfl rfl | exact Cell.own 1 rfl rfl | exact Cell.own 2 rfl rfl | exact Cell.own 3 rfl rfl | exact Cell.own 4 rfl rfl | exact Cell.own 5 rfl rfl | exact Cell.own 6 rfl rfl | exact Cell.own 7 rfl rfl | exact Cell.own 8 rfl rfl | exact Cell.own 9 rfl rfl | exact Cell.ofRo (by assumption))) rfl ?_)
              refine op (y (x_lenSl sz_22 rfl) rfl ?_)
              refine op (y (x_geq rfl rfl) rfl ?_)
              refine nil ?_
              refine n_then ?_
              refine cond rfl (fun h17 => ?_) (fun h17 => ?_)
              · try simp only [decide_eq_true_eq, decide_eq_false_iff_not, beq_iff_eq, bne_iff_ne, ne_eq, beq_eq_false_iff_ne, bne_eq_false_iff_eq, Bool.not_eq_true', Bool.not_eq_false', Bool.not_eq_true, Bool.not_eq_false, Decidable.not_not, Int.not_lt, Int.not_le] at h17
                refine seq ?_
                have hGc := (hG.mono (hro2.trans hle45)).err 3 (by omega)
                refine region ?_
                refine op (y (x_move rfl) rfl ?_)
                refine op (y (x_load1 ag_43 rfl (Cell.ofRo hGc)) rfl ?_)
                refine op (e_call rfl fn_55 rfl rfl (at_c _ _ _ _ _) fun v62 ro62 L62 hle62 hp62 => ?_)
                obtain ⟨⟨t3, u3, rfl⟩, rfl⟩ := hp62
                refine op (y (x_assign rfl) rfl ?_)
                refine nil ?_
                refine n_then ?_
                refine ret ?_
                refine r_then ?_
                refine r_in ?_
                refine r_then ?_
                refine r_then ?_
                refine r_in ?_
                refine r_then ?_
                exact done rfl (.tmp rfl (.nil)) (hro2.trans (hle45.trans hle62)) (L) (subF (by (repeat (first | exact List.Sublist.refl _ | apply List.Sublist.cons_cons | apply List.Sublist.cons)); done)) (⟨IfV.mk _ _, ⟨fun h => (by cases h), fun h => absurd h (fun hk => by have h5 := ((hk.2.2.2 _ hm).2 (by grind)).1; omega)⟩, rfl⟩)
              · try simp only [decide_eq_true_eq, decide_eq_false_iff_not, beq_iff_eq, bne_iff_ne, ne_eq, beq_eq_false_iff_ne, bne_eq_false_iff_eq, Bool.not_eq_true', Bool.not_eq_false', Bool.not_eq_true, Bool.not_eq_false, Decidable.not_not, Int.not_lt, Int.not_le] at h17
                refine skip ?_
                refine n_then ?_
                refine seq ?_
                have hok : EvOk (h.es[k]) := hi45.1 (by grind)
                have hk2' : (h.es[k]).kind = 2 := by grind
                have hob := hok.obj hk2'
                obtain ⟨oj, hoj⟩ := Int.eq_ofNat_of_zero_le hob.1
                have hA := hh.o
                obtain ⟨bbz, offz, rfl, hcz⟩ := hA.at_ (i := oj) (by omega)
                have hz := List.getElem?_eq_getElem (show oj < h.os.length from by omega)
                refine drawL (by kernel_rfl) ?_
                refine d_take 0 rfl (by kernel_rfl) (by kernel_rfl) (by kernel_rfl) (fun _ _ _ h => h) rfl (.inl rfl) (x_fieldAddr fo_34_4 rfl) (fun w hi => by first | exact hi.j | exact J.of_le (Ro.le.refl _) (fun x hx => List.mem_append_right _ hx) hi | exact J.of_le (Ro.le.refl _) (fun x hx => List.mem_append_right _ (List.mem_append_right _ hx)) hi | exact J.of_le (Ro.le.refl _) (fun x hx => absurd hx (by simp)) hi | exact J.of_le (by assumption) (fun x hx => absurd hx (by simp)) hi) ?_
                refine d_take 1 rfl (by kernel_rfl) (by kernel_rfl) (by kernel_rfl) (fun _ _ _ h => h) rfl (.inl rfl) (x_load1 ag_3 rfl (by first | assumption | exact Cell.own 0 rfl rfl | exact Cell.own 1 rfl rfl | exact Cell.own 2 rfl rfl | exact Cell.own 3 rfl rfl | exact Cell.own 4 rfl rfl | exact Cell.own 5 rfl rfl | exact Cell.own 6 rfl rfl | exact Cell.own 7 rfl rfl | exact Cell.own 8 rfl rfl | exact Cell.own 9 rfl rfl | exact Cell.ofRo (by assumption))) (fun w hi => by first | exact hi.j | exact J.of_le (Ro.le.refl _) (fun x hx => List.mem_append_right _ hx) hi | exact J.of_le (Ro.le.refl _) (fun x hx => List.mem_append_right _ (List.mem_append_right _ hx)) hi | exact J.of_le (Ro.le.refl _) (fun x hx => absurd hx (by simp)) hi | exact J.of_le (by assumption) (fun x hx => absurd hx (by simp)) hi) ?_
                refine d_take 3 rfl (by kernel_rfl) (by kernel_rfl) (by kernel_rfl) (fun _ _ _ h => h) rfl (.inl rfl) (x_fieldAddr fo_25_0 rfl) (fun w hi => by first | exact hi.j | exact J.of_le (Ro.le.refl _) (fun x hx => List.mem_append_right _ hx) hi | exact J.of_le (Ro.le.refl _) (fun x hx => List.mem_append_right _ (List.mem_append_right _ hx)) hi | exact J.of_le (Ro.le.refl _) (fun x hx => absurd hx (by simp)) hi | exact J.of_le (by assumption) (fun x hx => absurd hx (by simp)) hi) ?_
                refine d_take 4 rfl (by kernel_rfl) (by kernel_rfl) (by kernel_rfl) (fun _ _ _ h => h) rfl (.inl rfl) (x_load1 ag_22 rfl (by first | assumption | exact Cell.own 0 rfl rfl | exact Cell.own 1 rfl rfl | exact Cell.own 2 rfl rfl | exact Cell.own 3 rfl rfl | exact Cell.own 4 rfl rfl | exact Cell.own 5 rfl rfl | exact Cell.own 6 rfl rfl | exact Cell.own 7 rfl rfl | exact Cell.own 8 rfl rfl | exact Cell.own 9 rfl rfl | exact Cell.ofRo (by assumption))) (fun w hi => by first | exact hi.j | exact J.of_le (Ro.le.refl _) (fun x hx => List.mem_append_right _ hx) hi | exact J.of_le (Ro.le.refl _) (fun x hx => List.mem_append_right _ (List.mem_append_right _ hx)) hi | exact J.of_le (Ro.le.refl _) (fun x hx => absurd hx (by simp)) hi | exact J.of_le (by assumption) (fun x hx => absurd hx (by simp)) hi) ?_
                refine d_take 5 rfl (by kernel_rfl) (by kernel_rfl) (by kernel_rfl) (fun _ _ _ h => h) rfl (.inl rfl) (x_fieldAddr fo_34_3 rfl) (fun w hi => by first | exact hi.j | exact J.of_le (Ro.le.refl _) (fun x hx => List.mem_append_right _ hx) hi | exact J.of_le (Ro.le.refl _) (fun x hx => List.mem_append_right _ (List.mem_append_right _ hx)) hi | exact J.of_le (Ro.le.refl _) (fun x hx => absurd hx (by simp)) hi | exact J.of_le (by assumption) (fun x hx => absurd hx (by simp)) hi) ?_
                refine d_take 6 rfl (by kernel_rfl) (by kernel_rfl) (by kernel_rfl) (fun _ _ _ h => h) rfl (.inl rfl) (x_load1 ag_3 rfl (by first | assumption | exact Cell.own 0 rfl rfl | exact Cell.own 1 rfl rfl | exact Cell.own 2 rfl rfl | exact Cell.own 3 rfl rfl | exact Cell.own 4 rfl rfl | exact Cell.own 5 rfl rfl | exact Cell.own 6 rfl rfl | exact Cell.own 7 rfl rfl | exact Cell.own 8 rfl rfl | exact Cell.own 9 rfl rfl | exact Cell.ofRo (by assumption))) (fun w hi => by first | exact hi.j | exact J.of_le (Ro.le.refl _) (fun x hx => List.mem_append_right _ hx) hi | exact J.of_le (Ro.le.refl _) (fun x hx => List.mem_append_right _ (List.mem_append_right _ hx)) hi | exact J.of_le (Ro.le.refl _) (fun x hx => absurd hx (by simp)) hi | exact J.of_le (by assumption) (fun x hx => absurd hx (by simp)) hi) ?_
                refine said 69 (.int .i64 ((oj : Nat) : Int)) rfl (by rw [hoj]; rfl) ?_
                refine d_take 7 rfl (by kernel_rfl) (by kernel_rfl) (by kernel_rfl) (fun _ _ _ h => h) rfl (.inl rfl) (x_indexNat sz_22 rfl rfl (by omega)) (fun w hi => by first | exact hi.j | exact J.of_le (Ro.le.refl _) (fun x hx => List.mem_append_right _ hx) hi | exact J.of_le (Ro.le.refl _) (fun x hx => List.mem_append_right _ (List.mem_append_right _ hx)) hi | exact J.of_le (Ro.le.refl _) (fun x hx => absurd hx (by simp)) hi | exact J.of_le (by assumption) (fun x hx => absurd hx (by simp)) hi) ?_
                refine d_take 8 rfl (by kernel_rfl) (by kernel_rfl) (by kernel_rfl) (fun _ _ _ h => h) rfl (.inl rfl) (x_fieldAddr fo_31_0 rfl) (fun w hi => by first | exact hi.j | exact J.of_le (Ro.le.refl _) (fun x hx => List.mem_append_right _ hx) hi | exact J.of_le (Ro.le.refl _) (fun x hx => List.mem_append_right _ (List.mem_append_right _ hx)) hi | exact J.of_le (Ro.le.refl _) (fun x hx => absurd hx (by simp)) hi | exact J.of_le (by assumption) (fun x hx => absurd hx (by simp)) hi) ?_
                refine d_take 9 rfl (by kernel_rfl) (by kernel_rfl) (by kernel_rfl) (fun _ _ _ h => h) rfl (.inl rfl) (x_load1 ag_3 rfl (Cell.ofRo (hro2.trans hle45 |>.cell (hcz oj _ hz 0 _ rfl)))) (fun w hi => by first | exact hi.j | exact J.of_le (Ro.le.refl _) (fun x hx => List.mem_append_right _ hx) hi | exact J.of_le (Ro.le.refl _) (fun x hx => List.mem_append_right _ (List.mem_append_right _ hx)) hi | exact J.of_le (Ro.le.refl _) (fun x hx => absurd hx (by simp)) hi | exact J.of_le (by assumption) (fun x hx => absurd hx (by simp)) hi) ?_
                refine d_one 2 rfl (by kernel_rfl) (.inl rfl) (e_call rfl fn_57 rfl rfl (Of_c _ _ _) fun v65 ro65 L65 hle65 hp65 => ?_)
                obtain ⟨rfl, rfl, rfl⟩ := hp65
                refine d_next (fun w hi => by first | exact hi.j | exact J.of_le (Ro.le.refl _) (fun x hx => List.mem_append_right _ hx) hi | exact J.of_le (Ro.le.refl _) (fun x hx => List.mem_append_right _ (List.mem_append_right _ hx)) hi | exact J.of_le (Ro.le.refl _) (fun x hx => absurd hx (by simp)) hi | exact J.of_le (by assumption) (fun x hx => absurd hx (by simp)) hi) ?_
                refine d_take 10 rfl (by kernel_rfl) (by kernel_rfl) (by kernel_rfl) (fun _ _ _ h => h) rfl (.inl rfl) (x_neq rfl rfl) (fun w hi => by first | exact hi.j | exact J.of_le (Ro.le.refl _) (fun x hx => List.mem_append_right _ hx) hi | exact J.of_le (Ro.le.refl _) (fun x hx => List.mem_append_right _ (List.mem_append_right _ hx)) hi | exact J.of_le (Ro.le.refl _) (fun x hx => absurd hx (by simp)) hi | exact J.of_le (by assumption) (fun x hx => absurd hx (by simp)) hi) ?_
                refine d_end (by kernel_rfl) ?_
                refine n_then ?_
                refine cond rfl (fun h19 => ?_) (fun h19 => ?_)
                · try simp only [decide_eq_true_eq, decide_eq_false_iff_not, beq_iff_eq, bne_iff_ne, ne_eq, beq_eq_false_iff_ne, bne_eq_false_iff_eq, Bool.not_eq_true', Bool.not_eq_false', Bool.not_eq_true, Bool.not_eq_false, Decidable.not_not, Int.not_lt, Int.not_le] at h19
                  refine seq ?_
                  have hGc := (hG.mono (hro2.trans hle45)).err 4 (by omega)
                  refine region ?_
                  refine op (y (x_move rfl) rfl ?_)
                  refine op (y (x_load1 ag_43 rfl (Cell.ofRo hGc)) rfl ?_)
                  refine op (e_call rfl fn_55 rfl rfl (at_c _ _ _ _ _) fun v76 ro76 L76 hle76 hp76 => ?_)
                  obtain ⟨⟨t3, u3, rfl⟩, rfl⟩ := hp76
                  refine op (y (x_assign rfl) rfl ?_)
                  refine nil ?_
                  refine n_then ?_
                  refine ret ?_
                  refine r_in ?_
                  refine r_then ?_
                  refine r_then ?_
                  refine r_in ?_
                  refine r_then ?_
                  exact done rfl (.tmp rfl (.nil)) (hro2.trans (hle45.trans hle76)) (L) (subF (by (repeat (first | exact List.Sublist.refl _ | apply List.Sublist.cons_cons | apply List.Sublist.cons)); done)) (⟨IfV.mk _ _, ⟨fun h => (by cases h), fun h => absurd h (fun hk => by have h5 := ((hk.2.2.2 _ hm).2 hk2').2 _ (by rw [hoj]; exact hz); grind)⟩, rfl⟩)
                · try simp only [decide_eq_true_eq, decide_eq_false_iff_not, beq_iff_eq, bne_iff_ne, ne_eq, beq_eq_false_iff_ne, bne_eq_false_iff_eq, Bool.not_eq_true', Bool.not_eq_false', Bool.not_eq_true, Bool.not_eq_false, Decidable.not_not, Int.not_lt, Int.not_le] at h19
                  refine skip ?_
                  refine n_in ?_
                  refine n_then ?_
                  refine region ?_
                  refine op (y (x_add rfl rfl _ (wr (by omega) (by omega))) rfl ?_)
                  refine op (y (x_move rfl) rfl ?_)
                  refine nil ?_
                  refine drop0 ?_
                  first | exact round (h.es.length - (k + 1)) [(1, .pointer (some ⟨b1, 0, none⟩)), (37, .slice _ h.es.length cB), (38, .int .i64 (h.es.length : Nat)), (39, .int .i64 ((k + 1) : Nat))] (by omega) ⟨rfl, rfl, rfl, rfl, trivial⟩ ⟨k + 1, rfl, rfl, rfl, by omega, hro2.trans hle45, upto (p := fun q => ∀ e, h.es[q]? = some e → EvOk e ∧ EvIn h.os e) hall2 (fun e he2 => by rw [hx] at he2; cases he2; exact ⟨hi45.1 (by grind), fun hk3 => by grind⟩)⟩ | exact round (h.es.length - (k + 1)) [(1, .pointer (some ⟨b1, 0, none⟩)), (37, .slice _ h.es.length cB), (38, .int .i64 (h.es.length : Nat)), (39, .int .i64 ((k + 1) : Nat))] (by omega) ⟨rfl, rfl, rfl, rfl, trivial⟩ ⟨k + 1, rfl, rfl, rfl, by omega, hro2.trans hle45, upto (p := fun q => ∀ e, h.es[q]? = some e → EvOk e ∧ EvIn h.os e) hall2 (fun e he2 => by rw [hx] at he2; cases he2; exact ⟨hi45.1 (by grind), fun _ => ⟨by omega, fun o ho => by rw [hoj] at ho; simp only [Int.toNat_natCast] at ho; rw [hz] at ho; cases ho; grind⟩⟩)⟩
        · try simp only [decide_eq_true_eq, decide_eq_false_iff_not, beq_iff_eq, bne_iff_ne, ne_eq, beq_eq_false_iff_ne, bne_eq_false_iff_eq, Bool.not_eq_true', Bool.not_eq_false', Bool.not_eq_true, Bool.not_eq_false, Decidable.not_not, Int.not_lt, Int.not_le] at h11
          refine exit ?_
          refine e_then ?_
          refine e_then ?_
          refine e_in ?_
          refine n_then ?_
          refine seq ?_
          refine region ?_
          refine op (y (x_assign rfl) rfl ?_)
          refine nil ?_
          refine n_then ?_
          refine ret ?_
          exact done rfl (.tmp rfl (.nil)) (hro2) (L) (subF (by (repeat (first | exact List.Sublist.refl _ | apply List.Sublist.cons_cons | apply List.Sublist.cons)); done)) (⟨IfV.nil, ⟨fun _ => ⟨by grind, by grind, hAll, allq (by intro q hq o ho; exact hall2 q (by omega) o ho)⟩, fun _ => rfl⟩, rfl⟩)

end Go.Proofs.YtijafcilfefafaaDoor
