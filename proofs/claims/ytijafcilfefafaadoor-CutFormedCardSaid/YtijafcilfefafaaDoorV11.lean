/- The walks that tell whether an event, an object may be. -/
import Derived.Test.YtijafcilfefafaaDoorV10
namespace Go.Proofs.YtijafcilfefafaaDoor
open Go Go.U
set_option maxRecDepth 20000
set_option linter.unusedSimpArgs false
set_option linter.unusedVariables false

/-- an error comes back, or none -/
def PE (p : Prop) (L : List (List Blk)) : Value → Ro → List (List Blk) → Prop := fun v _ L' => IfV v ∧ (isNilI v = true ↔ p) ∧ L = L'
structure EvI (e : Ev) : Prop where
  kind : I64 e.kind
  tx : I64 e.tx
  thread : I64 e.thread
  obj : I64 e.obj
  op : I64 e.op
  key : I64 e.key
  val : I64 e.val
  ret : I64 e.ret
/-- an event that may be -/
def EvOk (e : Ev) : Prop := (1 ≤ e.kind ∧ e.kind ≤ 7) ∧ ¬ (e.kind = 2 ∧ ofK e.op = 0) ∧ ¬ (e.kind = 3 ∧ ¬ (1 ≤ e.ret ∧ e.ret ≤ 3)) ∧ (∀ j ∈ flds e, minJ j ≤ evGet e j ∧ evGet e j ≤ maxJ j) ∧ (∀ j : Nat, 1 ≤ j → j < 8 → j ∉ flds e → evGet e j = 0)
def evSet (e : Ev) (j : Nat) (x : Int) : Ev := match j with | 0 => { e with kind := x } | 1 => { e with tx := x } | 2 => { e with thread := x } | 3 => { e with obj := x } | 4 => { e with op := x } | 5 => { e with key := x } | 6 => { e with val := x } | _ => { e with ret := x }
def ev0 : Ev := ⟨0, 0, 0, 0, 0, 0, 0, 0⟩
theorem putN_ev (e : Ev) {j : Nat} (hj : j < 8) (x : Int) : putN (encEv e) j [.int .i64 x] = some (encEv (evSet e j x)) := by
  match j, hj with
  | 0, _ | 1, _ | 2, _ | 3, _ | 4, _ | 5, _ | 6, _ | 7, _ => rfl
theorem get_set (e : Ev) {j k : Nat} (hj : j < 8) (hk : k < 8) (x : Int) : evGet (evSet e j x) k = if j = k then x else evGet e k := by
  match j, hj with
  | 0, _ | 1, _ | 2, _ | 3, _ | 4, _ | 5, _ | 6, _ | 7, _ =>
    match k, hk with
    | 0, _ | 1, _ | 2, _ | 3, _ | 4, _ | 5, _ | 6, _ | 7, _ => rfl
theorem ev_get_iff {a b : Ev} : a = b ↔ ∀ j : Nat, j < 8 → evGet a j = evGet b j := by
  rw [ev_iff]
  exact ⟨fun ⟨h0, h1, h2, h3, h4, h5, h6, h7⟩ j hj => by
    match j, hj with
    | 0, _ => exact h0
    | 1, _ => exact h1
    | 2, _ => exact h2
    | 3, _ => exact h3
    | 4, _ => exact h4
    | 5, _ => exact h5
    | 6, _ => exact h6
    | 7, _ => exact h7, fun h => ⟨h 0 (by omega), h 1 (by omega), h 2 (by omega), h 3 (by omega), h 4 (by omega), h 5 (by omega), h 6 (by omega), h 7 (by omega)⟩⟩
theorem flds_rng {e : Ev} : ∀ j ∈ flds e, 1 ≤ j ∧ j < 8 := by
  intro j hj
  unfold flds at hj
  split at hj
  · simp at hj; omega
  · split at hj
    · simp only [List.mem_append, List.mem_cons, List.not_mem_nil, or_false] at hj
      rcases hj with (h | h) | h
      · omega
      · split at h <;> simp at h <;> omega
      · split at h <;> simp at h <;> omega
    · split at hj
      · simp only [List.mem_append, List.mem_cons, List.not_mem_nil, or_false] at hj
        rcases hj with h | h
        · omega
        · split at h <;> simp at h <;> omega
      · simp at hj; omega
theorem flds_len (e : Ev) : (flds e).length ≤ 5 := by
  unfold flds
  split
  · simp
  · split
    · simp only [List.length_append, List.length_cons, List.length_nil]
      split <;> split <;> simp
    · split
      · simp only [List.length_append, List.length_cons, List.length_nil]
        split <;> simp
      · simp
def zE (e : Ev) (js : List Nat) : Ev := js.foldl (fun r j => evSet r j 0) (evSet e 0 0)
theorem zE_snoc (e : Ev) (js : List Nat) (j : Nat) : zE e (js ++ [j]) = evSet (zE e js) j 0 := by simp [zE]
theorem get_zE (e : Ev) : ∀ (js : List Nat), (∀ j ∈ js, 1 ≤ j ∧ j < 8) → ∀ k : Nat, k < 8 → evGet (zE e js) k = if k = 0 ∨ k ∈ js then 0 else evGet e k := by
  intro js hjs k hk
  have key : ∀ (js : List Nat) (r : Ev), (∀ j ∈ js, 1 ≤ j ∧ j < 8) → evGet (js.foldl (fun r j => evSet r j 0) r) k = if k ∈ js then 0 else evGet r k := by
    intro js
    induction js with
    | nil => intro r _; simp
    | cons a js ih =>
      intro r h
      have ha := h a (by simp)
      rw [List.foldl_cons, ih _ (fun j hj => h j (by simp [hj])), get_set r ha.2 hk]
      by_cases h1 : k ∈ js
      · simp [h1]
      · by_cases h2 : a = k
        · subst h2; simp
        · have h3 : ¬ k = a := fun x => h2 x.symm
          simp [h1, h2, h3]
  unfold zE
  rw [key js _ hjs, get_set e (by omega) hk]
  by_cases h1 : k ∈ js
  · simp [h1]
  · by_cases h2 : k = 0
    · subst h2; simp
    · have h3 : ¬ 0 = k := fun x => h2 x.symm
      simp [h1, h2, h3]
theorem zE_all (e : Ev) : zE e (flds e) = ev0 ↔ ∀ j : Nat, 1 ≤ j → j < 8 → j ∉ flds e → evGet e j = 0 := by
  have h0 : ∀ j : Nat, j < 8 → evGet ev0 j = 0 := fun j hj => by
    match j, hj with
    | 0, _ | 1, _ | 2, _ | 3, _ | 4, _ | 5, _ | 6, _ | 7, _ => rfl
  rw [ev_get_iff]
  constructor
  · intro h j h1 h2 h3
    have := h j h2
    rw [get_zE e _ flds_rng j h2, h0 j h2, if_neg (by simp [h3]; omega)] at this
    exact this
  · intro h j hj
    rw [get_zE e _ flds_rng j hj, h0 j hj]
    split
    · rfl
    · rename_i hn
      simp at hn
      exact h j (by omega) hj hn.2
theorem nextV_true {l : List Nat} {i : Nat} {c0 : Value} {x y z : Int} (h : nextV l i = .tuple [.agg [c0, .int .i64 x, .int .i64 y, .int .i64 z].toArray, .bool true].toArray) : ∃ j, l[i]? = some j ∧ c0 = .func (.func (91 + j)) #[] #[] ∧ x = tabJ j ∧ y = minJ j ∧ z = maxJ j := by
  unfold nextV at h
  split at h
  · rename_i j hj
    simp [fldV] at h
    exact ⟨j, hj, h.1.symm, h.2.1.symm, h.2.2.1.symm, h.2.2.2.symm⟩
  · simp at h
theorem nextV_false {l : List Nat} {i : Nat} {v : Value} (h : nextV l i = .tuple [v, .bool false].toArray) : l.length ≤ i := by
  unfold nextV at h
  split at h
  · simp at h
  · rename_i hj
    exact List.getElem?_eq_none_iff.1 hj
theorem kinds_mem {k : Int} : k ∈ ([3, 2, 1, 4, 5, 6, 7] : List Int) ↔ 1 ≤ k ∧ k ≤ 7 := by simp; omega

theorem Valid_c (e : Ev) (he : EvI e) (er : Nat → Addr) (ro : Ro) (L : List (List Blk)) (hG : Glob er ro) :
    CT Tryd.prog 56 [.agg (encEv e).toArray].toArray ro L (PE (EvOk e) L) := by
  refine enter Tryd.func56 rfl Tryd.ntmps56 rfl ?_
  refine seq ?_
  refine region ?_
  refine op (e_box rfl rfl rfl fun b1 => ?_)
  refine op (y (x_assign rfl) rfl ?_)
  refine nil ?_
  refine n_then ?_
  refine seq ?_
  refine drawL (by kernel_rfl) ?_
  refine d_take 1 rfl (by kernel_rfl) (by kernel_rfl) (by kernel_rfl) (fun _ _ _ h => h) rfl (.inl rfl) (x_fieldAddr fo_34_0 rfl) (fun w hi => J.of_le (by first | exact Ro.le.refl _ | exact hle9) (fun x hx => hx) hi) ?_
  refine d_take 2 rfl (by kernel_rfl) (by kernel_rfl) (by kernel_rfl) (fun _ _ _ h => h) rfl (.inl rfl) (x_load1 ag_3 rfl (by first | assumption | exact Cell.own 0 rfl rfl | exact Cell.own 1 rfl rfl | exact Cell.own 2 rfl rfl | exact Cell.own 3 rfl rfl | exact Cell.own 4 rfl rfl | exact Cell.own 5 rfl rfl | exact Cell.own 6 rfl rfl | exact Cell.own 7 rfl rfl | exact Cell.own 8 rfl rfl | exact Cell.own 9 rfl rfl | exact Cell.ofRo (by assumption))) (fun w hi => J.of_le (by first | exact Ro.le.refl _ | exact hle9) (fun x hx => hx) hi) ?_
  refine d_one 0 rfl (by kernel_rfl) (.inl rfl) (e_call rfl fn_62 rfl rfl (fields_c _ _) fun v9 ro9 L9 hle9 hp9 => ?_)
  obtain ⟨mr, mes, mclk, mm, rfl, hcr, hE, hF, rfl⟩ := hp9
  have hFn : FnV ((mget mm e.kind).getD .nilFunc) := by
    by_cases hk : e.kind ∈ ([3, 2, 1, 4, 5, 6, 7] : List Int)
    · obtain ⟨fk, caps, h1, _, _⟩ := (hF e.kind).1 hk
      rw [h1]
      exact .inr ⟨_, _, _, rfl⟩
    · rw [(hF e.kind).2 hk]
      exact .inl rfl
  have hFk : isNilF ((mget mm e.kind).getD .nilFunc) = false → e.kind ∈ ([3, 2, 1, 4, 5, 6, 7] : List Int) := fun h => by
    by_cases hk : e.kind ∈ ([3, 2, 1, 4, 5, 6, 7] : List Int)
    · exact hk
    · rw [(hF e.kind).2 hk] at h
      cases h
  have hFt : isNilF ((mget mm e.kind).getD .nilFunc) = true → ¬ e.kind ∈ ([3, 2, 1, 4, 5, 6, 7] : List Int) := fun h hk => by
    obtain ⟨fk, caps, h1, _, _⟩ := (hF e.kind).1 hk
    rw [h1] at h
    cases h
  have hG9 := hG.mono hle9
  refine d_next (fun w hi => J.of_le (by first | exact Ro.le.refl _ | exact hle9) (fun x hx => hx) hi) ?_
  refine d_one 3 rfl (by kernel_rfl) (.inl rfl) (y (x_lookupH Tryd.underlying102 keI zc_101 rfl rfl (HasMap.ofRo hcr) hE rfl) rfl ?_)
  refine d_next (fun w hi => J.of_le (by first | exact Ro.le.refl _ | exact hle9) (fun x hx => hx) hi) ?_
  refine d_take 4 rfl (by kernel_rfl) (by kernel_rfl) (by kernel_rfl) (fun _ _ _ h => h) rfl (.inl rfl) (x_assign rfl) (fun w hi => J.of_le (by first | exact Ro.le.refl _ | exact hle9) (fun x hx => hx) hi) ?_
  refine d_end (by kernel_rfl) ?_
  refine n_then ?_
  refine seqM (fun F roM' LM' => ∃ (fk : FuncId) (caps : List Value), (F = [(1, .pointer (some ⟨b1, 0, none⟩)), (3, .func (.func fk) #[] caps.toArray)]) ∧ (LM' = [(b1, Obj.cells (encEv e).toArray 34 (0, 0))] :: L) ∧ (ro.le roM') ∧ (Fun Tryd.prog fk) ∧ (Next fk caps e.kind roM') ∧ (1 ≤ e.kind ∧ e.kind ≤ 7) ∧ (¬ (e.kind = 2 ∧ ofK e.op = 0)) ∧ (¬ (e.kind = 3 ∧ ¬ (1 ≤ e.ret ∧ e.ret ≤ 3)))) ?_ ?_
  · skip
    refine seq ?_
    refine region ?_
    refine op (y (x_move rfl) rfl ?_)
    refine op (y (x_fnNil Tryd.underlying101 rfl (hFn)) rfl ?_)
    refine op (y (x_move rfl) rfl ?_)
    refine bsplit 15 rfl (fun g15 => ?_) (fun g15 => ?_)
    · try simp only [decide_eq_true_eq, decide_eq_false_iff_not, beq_iff_eq, bne_iff_ne, ne_eq, beq_eq_false_iff_ne, bne_eq_false_iff_eq, Bool.not_eq_true', Bool.not_eq_false', Bool.not_eq_true, Bool.not_eq_false, Decidable.not_not, Int.not_lt, Int.not_le] at g15
      refine opN rfl rfl rfl rfl ?_
      refine opN rfl rfl rfl rfl ?_
      refine opN rfl rfl rfl rfl ?_
      refine opN rfl rfl rfl rfl ?_
      refine opU rfl rfl rfl ?_
      refine opU rfl rfl rfl ?_
      refine opU rfl rfl rfl ?_
      refine opU rfl rfl rfl ?_
      refine opN rfl rfl rfl rfl ?_
      refine op (y (x_pickT rfl rfl) rfl ?_)
      refine op (y (x_move rfl) rfl ?_)
      refine opN rfl rfl rfl rfl ?_
      refine opN rfl rfl rfl rfl ?_
      refine opN rfl rfl rfl rfl ?_
      refine opN rfl rfl rfl rfl ?_
      refine opU rfl rfl rfl ?_
      refine opU rfl rfl rfl ?_
      refine opU rfl rfl rfl ?_
      refine opU rfl rfl rfl ?_
      refine opN rfl rfl rfl rfl ?_
      refine op (y (x_pickT rfl rfl) rfl ?_)
      refine nil ?_
      refine n_then ?_
      refine condT rfl ?_
      refine seq ?_
      have hGc := hG9.err 8 (by omega)
      refine region ?_
      refine op (y (x_load1 ag_43 rfl (Cell.ofRo hGc)) rfl ?_)
      refine op (y (x_assign rfl) rfl ?_)
      refine nil ?_
      refine n_then ?_
      refine ret ?_
      refine r_then ?_
      exact done rfl (.tmp rfl (.nil)) (hle9) (L) (subF (by (repeat (first | exact List.Sublist.refl _ | apply List.Sublist.cons_cons | apply List.Sublist.cons)); done)) (⟨IfV.mk _ _, ⟨fun h => (by cases h), fun h => absurd h (fun hk => by have h5 := hk.1; have h6 := hk.2.1; have h7 := hk.2.2.1; rw [← kinds_mem] at h5; grind [bytes_nil])⟩, rfl⟩)
    · try simp only [decide_eq_true_eq, decide_eq_false_iff_not, beq_iff_eq, bne_iff_ne, ne_eq, beq_eq_false_iff_ne, bne_eq_false_iff_eq, Bool.not_eq_true', Bool.not_eq_false', Bool.not_eq_true, Bool.not_eq_false, Decidable.not_not, Int.not_lt, Int.not_le] at g15
      refine opG rfl rfl (y (x_fieldAddr fo_34_0 rfl) rfl ?_)
      refine opG rfl rfl (y (x_load1 ag_3 rfl (by first | assumption | exact Cell.own 0 rfl rfl | exact Cell.own 1 rfl rfl | exact Cell.own 2 rfl rfl | exact Cell.own 3 rfl rfl | exact Cell.own 4 rfl rfl | exact Cell.own 5 rfl rfl | exact Cell.own 6 rfl rfl | exact Cell.own 7 rfl rfl | exact Cell.own 8 rfl rfl | exact Cell.own 9 rfl rfl | exact Cell.ofRo (by assumption))) rfl ?_)
      refine opG rfl rfl (y (x_eql rfl rfl) rfl ?_)
      refine opG rfl rfl (y (x_move rfl) rfl ?_)
      refine bsplit 19 rfl (fun g19 => ?_) (fun g19 => ?_)
      · try simp only [decide_eq_true_eq, decide_eq_false_iff_not, beq_iff_eq, bne_iff_ne, ne_eq, beq_eq_false_iff_ne, bne_eq_false_iff_eq, Bool.not_eq_true', Bool.not_eq_false', Bool.not_eq_true, Bool.not_eq_false, Decidable.not_not, Int.not_lt, Int.not_le] at g19
        refine opG rfl rfl (y (x_fieldAddr fo_34_4 rfl) rfl ?_)
        refine opG rfl rfl (y (x_load1 ag_3 rfl (by first | assumption | exact Cell.own 0 rfl rfl | exact Cell.own 1 rfl rfl | exact Cell.own 2 rfl rfl | exact Cell.own 3 rfl rfl | exact Cell.own 4 rfl rfl | exact Cell.own 5 rfl rfl | exact Cell.own 6 rfl rfl | exact Cell.own 7 rfl rfl | exact Cell.own 8 rfl rfl | exact Cell.own 9 rfl rfl | exact Cell.ofRo (by assumption))) rfl ?_)
        refine opG rfl rfl (e_call rfl fn_57 rfl rfl (Of_c e.op _ _) fun v22 ro22 L22 hle22 hp22 => ?_)
        obtain ⟨rfl, rfl, rfl⟩ := hp22
        refine opG rfl rfl (y (x_eql rfl rfl) rfl ?_)
        refine opG rfl rfl (y (x_pickT rfl rfl) rfl ?_)
        refine op (y (x_pickF rfl rfl) rfl ?_)
        refine op (y (x_move rfl) rfl ?_)
        refine bsplit 26 rfl (fun g26 => ?_) (fun g26 => ?_)
        · try simp only [decide_eq_true_eq, decide_eq_false_iff_not, beq_iff_eq, bne_iff_ne, ne_eq, beq_eq_false_iff_ne, bne_eq_false_iff_eq, Bool.not_eq_true', Bool.not_eq_false', Bool.not_eq_true, Bool.not_eq_false, Decidable.not_not, Int.not_lt, Int.not_le] at g26
          refine opN rfl rfl rfl rfl ?_
          refine opN rfl rfl rfl rfl ?_
          refine opN rfl rfl rfl rfl ?_
          refine opN rfl rfl rfl rfl ?_
          refine opU rfl rfl rfl ?_
          refine opU rfl rfl rfl ?_
          refine opU rfl rfl rfl ?_
          refine opU rfl rfl rfl ?_
          refine opN rfl rfl rfl rfl ?_
          refine op (y (x_pickT rfl rfl) rfl ?_)
          refine nil ?_
          refine n_then ?_
          refine condT rfl ?_
          refine seq ?_
          have hGc := hG9.err 8 (by omega)
          refine region ?_
          refine op (y (x_load1 ag_43 rfl (Cell.ofRo hGc)) rfl ?_)
          refine op (y (x_assign rfl) rfl ?_)
          refine nil ?_
          refine n_then ?_
          refine ret ?_
          refine r_then ?_
          exact done rfl (.tmp rfl (.nil)) (hle9) (L) (subF (by (repeat (first | exact List.Sublist.refl _ | apply List.Sublist.cons_cons | apply List.Sublist.cons)); done)) (⟨IfV.mk _ _, ⟨fun h => (by cases h), fun h => absurd h (fun hk => by have h5 := hk.1; have h6 := hk.2.1; have h7 := hk.2.2.1; rw [← kinds_mem] at h5; grind [bytes_nil])⟩, rfl⟩)
        · try simp only [decide_eq_true_eq, decide_eq_false_iff_not, beq_iff_eq, bne_iff_ne, ne_eq, beq_eq_false_iff_ne, bne_eq_false_iff_eq, Bool.not_eq_true', Bool.not_eq_false', Bool.not_eq_true, Bool.not_eq_false, Decidable.not_not, Int.not_lt, Int.not_le] at g26
          refine opG rfl rfl (y (x_fieldAddr fo_34_0 rfl) rfl ?_)
          refine opG rfl rfl (y (x_load1 ag_3 rfl (by first | assumption | exact Cell.own 0 rfl rfl | exact Cell.own 1 rfl rfl | exact Cell.own 2 rfl rfl | exact Cell.own 3 rfl rfl | exact Cell.own 4 rfl rfl | exact Cell.own 5 rfl rfl | exact Cell.own 6 rfl rfl | exact Cell.own 7 rfl rfl | exact Cell.own 8 rfl rfl | exact Cell.own 9 rfl rfl | exact Cell.ofRo (by assumption))) rfl ?_)
          refine opG rfl rfl (y (x_eql rfl rfl) rfl ?_)
          refine opG rfl rfl (y (x_move rfl) rfl ?_)
          refine bsplit 30 rfl (fun g30 => ?_) (fun g30 => ?_)
          · try simp only [decide_eq_true_eq, decide_eq_false_iff_not, beq_iff_eq, bne_iff_ne, ne_eq, beq_eq_false_iff_ne, bne_eq_false_iff_eq, Bool.not_eq_true', Bool.not_eq_false', Bool.not_eq_true, Bool.not_eq_false, Decidable.not_not, Int.not_lt, Int.not_le] at g30
            refine opG rfl rfl (y (x_fieldAddr fo_34_7 rfl) rfl ?_)
            refine opG rfl rfl (y (x_load1 ag_3 rfl (by first | assumption | exact Cell.own 0 rfl rfl | exact Cell.own 1 rfl rfl | exact Cell.own 2 rfl rfl | exact Cell.own 3 rfl rfl | exact Cell.own 4 rfl rfl | exact Cell.own 5 rfl rfl | exact Cell.own 6 rfl rfl | exact Cell.own 7 rfl rfl | exact Cell.own 8 rfl rfl | exact Cell.own 9 rfl rfl | exact Cell.ofRo (by assumption))) rfl ?_)
            refine opG rfl rfl (e_call rfl fn_61 rfl rfl (Word4_c e.ret he.ret er _ _ hG9) fun v33 ro33 L33 hle33 hp33 => ?_)
            obtain ⟨sw, rfl, hsw, rfl, rfl⟩ := hp33
            refine opG rfl rfl (y (x_seql rfl rfl) rfl ?_)
            refine opG rfl rfl (y (x_pickT rfl rfl) rfl ?_)
            refine op (y (x_pickF rfl rfl) rfl ?_)
            refine nil ?_
            refine n_then ?_
            refine cond rfl (fun h2 => ?_) (fun h2 => ?_)
            · try simp only [decide_eq_true_eq, decide_eq_false_iff_not, beq_iff_eq, bne_iff_ne, ne_eq, beq_eq_false_iff_ne, bne_eq_false_iff_eq, Bool.not_eq_true', Bool.not_eq_false', Bool.not_eq_true, Bool.not_eq_false, Decidable.not_not, Int.not_lt, Int.not_le] at h2
              refine seq ?_
              have hGc := hG9.err 8 (by omega)
              refine region ?_
              refine op (y (x_load1 ag_43 rfl (Cell.ofRo hGc)) rfl ?_)
              refine op (y (x_assign rfl) rfl ?_)
              refine nil ?_
              refine n_then ?_
              refine ret ?_
              refine r_then ?_
              exact done rfl (.tmp rfl (.nil)) (hle9) (L) (subF (by (repeat (first | exact List.Sublist.refl _ | apply List.Sublist.cons_cons | apply List.Sublist.cons)); done)) (⟨IfV.mk _ _, ⟨fun h => (by cases h), fun h => absurd h (fun hk => by have h5 := hk.1; have h6 := hk.2.1; have h7 := hk.2.2.1; rw [← kinds_mem] at h5; grind [bytes_nil])⟩, rfl⟩)
            · try simp only [decide_eq_true_eq, decide_eq_false_iff_not, beq_iff_eq, bne_iff_ne, ne_eq, beq_eq_false_iff_ne, bne_eq_false_iff_eq, Bool.not_eq_true', Bool.not_eq_false', Bool.not_eq_true, Bool.not_eq_false, Decidable.not_not, Int.not_lt, Int.not_le] at h2
              refine skip ?_
              have hkm : e.kind ∈ ([3, 2, 1, 4, 5, 6, 7] : List Int) := hFk (by grind)
              obtain ⟨fk, caps, hmg, hfn, hnx⟩ := (hF e.kind).1 hkm
              refine said 3 (.func (.func fk) #[] caps.toArray) rfl (by rw [hmg]; rfl) ?_
              exact mid [(1, .pointer (some ⟨b1, 0, none⟩)), (3, .func (.func fk) #[] caps.toArray)] ⟨rfl, rfl, trivial⟩ ⟨fk, caps, rfl, rfl, hle9, hfn, hnx, kinds_mem.1 hkm, (by grind), (by grind [bytes_nil])⟩
          · try simp only [decide_eq_true_eq, decide_eq_false_iff_not, beq_iff_eq, bne_iff_ne, ne_eq, beq_eq_false_iff_ne, bne_eq_false_iff_eq, Bool.not_eq_true', Bool.not_eq_false', Bool.not_eq_true, Bool.not_eq_false, Decidable.not_not, Int.not_lt, Int.not_le] at g30
            refine opN rfl rfl rfl rfl ?_
            refine opN rfl rfl rfl rfl ?_
            refine opN rfl rfl rfl rfl ?_
            refine opN rfl rfl rfl rfl ?_
            refine opG rfl rfl (y (x_pickF rfl rfl) rfl ?_)
            refine op (y (x_pickF rfl rfl) rfl ?_)
            refine nil ?_
            refine n_then ?_
            refine condF rfl ?_
            refine skip ?_
            have hkm : e.kind ∈ ([3, 2, 1, 4, 5, 6, 7] : List Int) := hFk (by grind)
            obtain ⟨fk, caps, hmg, hfn, hnx⟩ := (hF e.kind).1 hkm
            refine said 3 (.func (.func fk) #[] caps.toArray) rfl (by rw [hmg]; rfl) ?_
            exact mid [(1, .pointer (some ⟨b1, 0, none⟩)), (3, .func (.func fk) #[] caps.toArray)] ⟨rfl, rfl, trivial⟩ ⟨fk, caps, rfl, rfl, hle9, hfn, hnx, kinds_mem.1 hkm, (by grind), (by grind [bytes_nil])⟩
      · try simp only [decide_eq_true_eq, decide_eq_false_iff_not, beq_iff_eq, bne_iff_ne, ne_eq, beq_eq_false_iff_ne, bne_eq_false_iff_eq, Bool.not_eq_true', Bool.not_eq_false', Bool.not_eq_true, Bool.not_eq_false, Decidable.not_not, Int.not_lt, Int.not_le] at g19
        refine opN rfl rfl rfl rfl ?_
        refine opN rfl rfl rfl rfl ?_
        refine opN rfl rfl rfl rfl ?_
        refine opN rfl rfl rfl rfl ?_
        refine opG rfl rfl (y (x_pickF rfl rfl) rfl ?_)
        refine op (y (x_pickF rfl rfl) rfl ?_)
        refine op (y (x_move rfl) rfl ?_)
        refine opG rfl rfl (y (x_fieldAddr fo_34_0 rfl) rfl ?_)
        refine opG rfl rfl (y (x_load1 ag_3 rfl (by first | assumption | exact Cell.own 0 rfl rfl | exact Cell.own 1 rfl rfl | exact Cell.own 2 rfl rfl | exact Cell.own 3 rfl rfl | exact Cell.own 4 rfl rfl | exact Cell.own 5 rfl rfl | exact Cell.own 6 rfl rfl | exact Cell.own 7 rfl rfl | exact Cell.own 8 rfl rfl | exact Cell.own 9 rfl rfl | exact Cell.ofRo (by assumption))) rfl ?_)
        refine opG rfl rfl (y (x_eql rfl rfl) rfl ?_)
        refine opG rfl rfl (y (x_move rfl) rfl ?_)
        refine bsplit 30 rfl (fun g30 => ?_) (fun g30 => ?_)
        · try simp only [decide_eq_true_eq, decide_eq_false_iff_not, beq_iff_eq, bne_iff_ne, ne_eq, beq_eq_false_iff_ne, bne_eq_false_iff_eq, Bool.not_eq_true', Bool.not_eq_false', Bool.not_eq_true, Bool.not_eq_false, Decidable.not_not, Int.not_lt, Int.not_le] at g30
          refine opG rfl rfl (y (x_fieldAddr fo_34_7 rfl) rfl ?_)
          refine opG rfl rfl (y (x_load1 ag_3 rfl (by first | assumption | exact Cell.own 0 rfl rfl | exact Cell.own 1 rfl rfl | exact Cell.own 2 rfl rfl | exact Cell.own 3 rfl rfl | exact Cell.own 4 rfl rfl | exact Cell.own 5 rfl rfl | exact Cell.own 6 rfl rfl | exact Cell.own 7 rfl rfl | exact Cell.own 8 rfl rfl | exact Cell.own 9 rfl rfl | exact Cell.ofRo (by assumption))) rfl ?_)
          refine opG rfl rfl (e_call rfl fn_61 rfl rfl (Word4_c e.ret he.ret er _ _ hG9) fun v33 ro33 L33 hle33 hp33 => ?_)
          obtain ⟨sw, rfl, hsw, rfl, rfl⟩ := hp33
          refine opG rfl rfl (y (x_seql rfl rfl) rfl ?_)
          refine opG rfl rfl (y (x_pickT rfl rfl) rfl ?_)
          refine op (y (x_pickF rfl rfl) rfl ?_)
          refine nil ?_
          refine n_then ?_
          refine cond rfl (fun h2 => ?_) (fun h2 => ?_)
          · try simp only [decide_eq_true_eq, decide_eq_false_iff_not, beq_iff_eq, bne_iff_ne, ne_eq, beq_eq_false_iff_ne, bne_eq_false_iff_eq, Bool.not_eq_true', Bool.not_eq_false', Bool.not_eq_true, Bool.not_eq_false, Decidable.not_not, Int.not_lt, Int.not_le] at h2
            refine seq ?_
            have hGc := hG9.err 8 (by omega)
            refine region ?_
            refine op (y (x_load1 ag_43 rfl (Cell.ofRo hGc)) rfl ?_)
            refine op (y (x_assign rfl) rfl ?_)
            refine nil ?_
            refine n_then ?_
            refine ret ?_
            refine r_then ?_
            exact done rfl (.tmp rfl (.nil)) (hle9) (L) (subF (by (repeat (first | exact List.Sublist.refl _ | apply List.Sublist.cons_cons | apply List.Sublist.cons)); done)) (⟨IfV.mk _ _, ⟨fun h => (by cases h), fun h => absurd h (fun hk => by have h5 := hk.1; have h6 := hk.2.1; have h7 := hk.2.2.1; rw [← kinds_mem] at h5; grind [bytes_nil])⟩, rfl⟩)
          · try simp only [decide_eq_true_eq, decide_eq_false_iff_not, beq_iff_eq, bne_iff_ne, ne_eq, beq_eq_false_iff_ne, bne_eq_false_iff_eq, Bool.not_eq_true', Bool.not_eq_false', Bool.not_eq_true, Bool.not_eq_false, Decidable.not_not, Int.not_lt, Int.not_le] at h2
            refine skip ?_
            have hkm : e.kind ∈ ([3, 2, 1, 4, 5, 6, 7] : List Int) := hFk (by grind)
            obtain ⟨fk, caps, hmg, hfn, hnx⟩ := (hF e.kind).1 hkm
            refine said 3 (.func (.func fk) #[] caps.toArray) rfl (by rw [hmg]; rfl) ?_
            exact mid [(1, .pointer (some ⟨b1, 0, none⟩)), (3, .func (.func fk) #[] caps.toArray)] ⟨rfl, rfl, trivial⟩ ⟨fk, caps, rfl, rfl, hle9, hfn, hnx, kinds_mem.1 hkm, (by grind), (by grind [bytes_nil])⟩
        · try simp only [decide_eq_true_eq, decide_eq_false_iff_not, beq_iff_eq, bne_iff_ne, ne_eq, beq_eq_false_iff_ne, bne_eq_false_iff_eq, Bool.not_eq_true', Bool.not_eq_false', Bool.not_eq_true, Bool.not_eq_false, Decidable.not_not, Int.not_lt, Int.not_le] at g30
          refine opN rfl rfl rfl rfl ?_
          refine opN rfl rfl rfl rfl ?_
          refine opN rfl rfl rfl rfl ?_
          refine opN rfl rfl rfl rfl ?_
          refine opG rfl rfl (y (x_pickF rfl rfl) rfl ?_)
          refine op (y (x_pickF rfl rfl) rfl ?_)
          refine nil ?_
          refine n_then ?_
          refine condF rfl ?_
          refine skip ?_
          have hkm : e.kind ∈ ([3, 2, 1, 4, 5, 6, 7] : List Int) := hFk (by grind)
          obtain ⟨fk, caps, hmg, hfn, hnx⟩ := (hF e.kind).1 hkm
          refine said 3 (.func (.func fk) #[] caps.toArray) rfl (by rw [hmg]; rfl) ?_
          exact mid [(1, .pointer (some ⟨b1, 0, none⟩)), (3, .func (.func fk) #[] caps.toArray)] ⟨rfl, rfl, trivial⟩ ⟨fk, caps, rfl, rfl, hle9, hfn, hnx, kinds_mem.1 hkm, (by grind), (by grind [bytes_nil])⟩
  · rintro F roM' LM' ⟨fk, caps, rfl, rfl, hro, hfn, hnx, hkd, hc2, hc3⟩
    refine seq ?_
    refine region ?_
    refine op (y ((by first | exact x_loadOwn 0 _ ag_34 rfl rfl rfl rfl | exact x_loadOwn 1 _ ag_34 rfl rfl rfl rfl | exact x_loadOwn 2 _ ag_34 rfl rfl rfl rfl | exact x_loadOwn 3 _ ag_34 rfl rfl rfl rfl | exact x_loadOwn 4 _ ag_34 rfl rfl rfl rfl | exact x_loadOwn 5 _ ag_34 rfl rfl rfl rfl | exact x_loadOwn 6 _ ag_34 rfl rfl rfl rfl | exact x_loadOwn 7 _ ag_34 rfl rfl rfl rfl | exact x_loadOwn 8 _ ag_34 rfl rfl rfl rfl | exact x_loadOwn 9 _ ag_34 rfl rfl rfl rfl | exact x_loadOwn 10 _ ag_34 rfl rfl rfl rfl | exact x_loadOwn 11 _ ag_34 rfl rfl rfl rfl)) rfl ?_)
    refine op (e_alloc rfl zc_34 rfl fun b4 => ?_)
    first | refine op (e_store 0 rfl rfl ts_34 rfl rfl rfl rfl rfl rfl ?_) | refine op (e_store 1 rfl rfl ts_34 rfl rfl rfl rfl rfl rfl ?_) | refine op (e_store 2 rfl rfl ts_34 rfl rfl rfl rfl rfl rfl ?_) | refine op (e_store 3 rfl rfl ts_34 rfl rfl rfl rfl rfl rfl ?_) | refine op (e_store 4 rfl rfl ts_34 rfl rfl rfl rfl rfl rfl ?_) | refine op (e_store 5 rfl rfl ts_34 rfl rfl rfl rfl rfl rfl ?_) | refine op (e_store 6 rfl rfl ts_34 rfl rfl rfl rfl rfl rfl ?_) | refine op (e_store 7 rfl rfl ts_34 rfl rfl rfl rfl rfl rfl ?_) | refine op (e_store 8 rfl rfl ts_34 rfl rfl rfl rfl rfl rfl ?_) | refine op (e_store 9 rfl rfl ts_34 rfl rfl rfl rfl rfl rfl ?_)
    refine nil ?_
    refine n_then ?_
    refine seq ?_
    refine region ?_
    refine op (y (x_fieldAddr fo_34_0 rfl) rfl ?_)
    refine op (e_store 0 rfl rfl ts_3 rfl rfl rfl rfl (putN_ev e (by omega) 0) rfl ?_)
    refine nil ?_
    refine n_then ?_
    refine seq ?_
    refine seq ?_
    refine region ?_
    refine op (y (x_assign rfl) rfl ?_)
    refine nil ?_
    refine n_then ?_
    refine block ?_
    have hfl := flds_len e
    have hGM := hG.mono hro
    refine loop (fun m F ro2' L2' => ∃ (i : Nat) (r : Ev), (m = (flds e).length + 1 - i) ∧ (F = [(1, .pointer (some ⟨b1, 0, none⟩)), (4, .pointer (some ⟨b4, 0, none⟩)), (3, .func (.func fk) #[] caps.toArray), (5, .int .i64 (i : Nat))]) ∧ (L2' = [(b4, Obj.cells (encEv r).toArray 34 (0, 0))] :: [(b1, Obj.cells (encEv e).toArray 34 (0, 0))] :: L) ∧ (i ≤ (flds e).length) ∧ (roM'.le ro2') ∧ (zE e ((flds e).take i) = r) ∧ (∀ q : Nat, q < i → ∀ j, (flds e)[q]? = some j → minJ j ≤ evGet e j ∧ evGet e j ≤ maxJ j)) ((flds e).length + 1 - 0) [(1, .pointer (some ⟨b1, 0, none⟩)), (4, .pointer (some ⟨b4, 0, none⟩)), (3, .func (.func fk) #[] caps.toArray), (5, .int .i64 (0 : Nat))] ⟨rfl, rfl, rfl, rfl, trivial⟩ ⟨0, evSet e 0 0, rfl, rfl, rfl, by omega, Ro.le.refl _, rfl, by omega⟩ ?_
    rintro m F ro2' L2' ⟨i, r, rfl, rfl, rfl, hi, hro2, hr, hin⟩
    refine seq ?_
    refine block ?_
    refine seq ?_
    refine region ?_
    refine op (y (x_move rfl) rfl ?_)
    refine op (y ((by first | exact x_loadOwn 0 _ ag_34 rfl rfl rfl rfl | exact x_loadOwn 1 _ ag_34 rfl rfl rfl rfl | exact x_loadOwn 2 _ ag_34 rfl rfl rfl rfl | exact x_loadOwn 3 _ ag_34 rfl rfl rfl rfl | exact x_loadOwn 4 _ ag_34 rfl rfl rfl rfl | exact x_loadOwn 5 _ ag_34 rfl rfl rfl rfl | exact x_loadOwn 6 _ ag_34 rfl rfl rfl rfl | exact x_loadOwn 7 _ ag_34 rfl rfl rfl rfl | exact x_loadOwn 8 _ ag_34 rfl rfl rfl rfl | exact x_loadOwn 9 _ ag_34 rfl rfl rfl rfl | exact x_loadOwn 10 _ ag_34 rfl rfl rfl rfl | exact x_loadOwn 11 _ ag_34 rfl rfl rfl rfl)) rfl ?_)
    refine op (y (x_move rfl) rfl ?_)
    refine op (e_call rfl (hfn) rfl rfl (hnx _ e i _ hro2 rfl (by omega)) fun v46 ro46 L46 hle46 hp46 => ?_)
    obtain ⟨hv9, rfl⟩ := hp46
    obtain ⟨c0, fx, fy, fz, fb, hnf, hok⟩ := nextV_form (flds e) i
    rw [hnf] at hv9
    subst hv9
    refine op (y (x_move rfl) rfl ?_)
    refine op (y (x_extract rfl rfl) rfl ?_)
    refine op (y (x_extract rfl rfl) rfl ?_)
    refine op (e_alloc rfl zc_106 rfl fun b6 => ?_)
    refine op (e_store 0 rfl rfl ts_106 rfl rfl hok rfl rfl rfl ?_)
    
    refine op (y (x_assign rfl) rfl ?_)
    refine nil ?_
    refine n_then ?_
    refine seq ?_
    refine seq ?_
    refine region ?_
    refine op (y (x_move rfl) rfl ?_)
    refine op (y (x_not rfl) rfl ?_)
    refine nil ?_
    refine n_then ?_
    refine cond rfl (fun h9 => ?_) (fun h9 => ?_)
    · try simp only [decide_eq_true_eq, decide_eq_false_iff_not, beq_iff_eq, bne_iff_ne, ne_eq, beq_eq_false_iff_ne, bne_eq_false_iff_eq, Bool.not_eq_true', Bool.not_eq_false', Bool.not_eq_true, Bool.not_eq_false, Decidable.not_not, Int.not_lt, Int.not_le] at h9
      have hfb : fb = false := by simpa using h9
      subst hfb
      have hge := nextV_false hnf
      refine exit ?_
      refine e_then ?_
      refine e_out rfl ?_
      refine e_then ?_
      refine e_then ?_
      refine e_in ?_
      refine n_then ?_
      refine seq ?_
      refine seq ?_
      have hrall : zE e (flds e) = r := by rw [← hr, List.take_of_length_le hge]
      refine region ?_
      refine op (y ((by first | exact x_loadOwn 0 _ ag_34 rfl rfl rfl rfl | exact x_loadOwn 1 _ ag_34 rfl rfl rfl rfl | exact x_loadOwn 2 _ ag_34 rfl rfl rfl rfl | exact x_loadOwn 3 _ ag_34 rfl rfl rfl rfl | exact x_loadOwn 4 _ ag_34 rfl rfl rfl rfl | exact x_loadOwn 5 _ ag_34 rfl rfl rfl rfl | exact x_loadOwn 6 _ ag_34 rfl rfl rfl rfl | exact x_loadOwn 7 _ ag_34 rfl rfl rfl rfl | exact x_loadOwn 8 _ ag_34 rfl rfl rfl rfl | exact x_loadOwn 9 _ ag_34 rfl rfl rfl rfl | exact x_loadOwn 10 _ ag_34 rfl rfl rfl rfl | exact x_loadOwn 11 _ ag_34 rfl rfl rfl rfl)) rfl ?_)
      refine op (y (x_build bu_34 rfl rfl) rfl ?_)
      refine op (y (Ex.as (v' := .bool (!decide (r = ev0))) (x_stNe (us := ints_ev r) (ws := ints_ev ev0) int34 rfl rfl rfl rfl) (by simp only [ints_ev_inj])) rfl ?_)
      refine nil ?_
      refine n_then ?_
      refine cond rfl (fun h14 => ?_) (fun h14 => ?_)
      · try simp only [decide_eq_true_eq, decide_eq_false_iff_not, beq_iff_eq, bne_iff_ne, ne_eq, beq_eq_false_iff_ne, bne_eq_false_iff_eq, Bool.not_eq_true', Bool.not_eq_false', Bool.not_eq_true, Bool.not_eq_false, Decidable.not_not, Int.not_lt, Int.not_le] at h14
        refine seq ?_
        have hGc := (hGM.mono (hro2.trans hle46)).err 9 (by omega)
        refine region ?_
        refine op (y (x_load1 ag_43 rfl (Cell.ofRo hGc)) rfl ?_)
        refine op (y (x_assign rfl) rfl ?_)
        refine nil ?_
        refine n_then ?_
        refine ret ?_
        refine r_then ?_
        exact done rfl (.tmp rfl (.nil)) (hro.trans (hro2.trans hle46)) (L) (subF (by (repeat (first | exact List.Sublist.refl _ | apply List.Sublist.cons_cons | apply List.Sublist.cons)); done)) (⟨IfV.mk _ _, ⟨fun h => (by cases h), fun h => absurd h (fun hk => by have h5 := (zE_all e).2 hk.2.2.2.2; rw [hrall] at h5; simp [h5] at h14)⟩, rfl⟩)
      · try simp only [decide_eq_true_eq, decide_eq_false_iff_not, beq_iff_eq, bne_iff_ne, ne_eq, beq_eq_false_iff_ne, bne_eq_false_iff_eq, Bool.not_eq_true', Bool.not_eq_false', Bool.not_eq_true, Bool.not_eq_false, Decidable.not_not, Int.not_lt, Int.not_le] at h14
        refine skip ?_
        refine n_then ?_
        refine seq ?_
        refine region ?_
        refine op (y (x_assign rfl) rfl ?_)
        refine nil ?_
        refine n_then ?_
        refine ret ?_
        exact done rfl (.tmp rfl (.nil)) (hro.trans (hro2.trans hle46)) (L) (subF (by (repeat (first | exact List.Sublist.refl _ | apply List.Sublist.cons_cons | apply List.Sublist.cons)); done)) (⟨IfV.nil, ⟨fun _ => ⟨hkd, hc2, hc3, fun j hj => by obtain ⟨q, hq, hq2⟩ := List.getElem_of_mem hj; exact hin q (by omega) j (by rw [List.getElem?_eq_getElem hq, hq2]), (zE_all e).1 (by rw [hrall]; simpa using h14)⟩, fun _ => rfl⟩, rfl⟩)
    · try simp only [decide_eq_true_eq, decide_eq_false_iff_not, beq_iff_eq, bne_iff_ne, ne_eq, beq_eq_false_iff_ne, bne_eq_false_iff_eq, Bool.not_eq_true', Bool.not_eq_false', Bool.not_eq_true, Bool.not_eq_false, Decidable.not_not, Int.not_lt, Int.not_le] at h9
      refine skip ?_
      refine n_then ?_
      refine seq ?_
      refine seq ?_
      have hfb : fb = true := by simpa using h9
      subst hfb
      obtain ⟨j, hj, rfl, rfl, rfl, rfl⟩ := nextV_true hnf
      have hjm : j ∈ flds e := List.mem_of_getElem? hj
      obtain ⟨hj1, hj8⟩ := flds_rng j hjm
      refine region ?_
      refine op (y (x_fieldAddr fo_106_0 rfl) rfl ?_)
      refine op (y (x_load1 ag_104 rfl (by first | assumption | exact Cell.own 0 rfl rfl | exact Cell.own 1 rfl rfl | exact Cell.own 2 rfl rfl | exact Cell.own 3 rfl rfl | exact Cell.own 4 rfl rfl | exact Cell.own 5 rfl rfl | exact Cell.own 6 rfl rfl | exact Cell.own 7 rfl rfl | exact Cell.own 8 rfl rfl | exact Cell.own 9 rfl rfl | exact Cell.ofRo (by assumption))) rfl ?_)
      refine op (e_call rfl (fn_of hj1 hj8) rfl rfl (of_c hj1 hj8 b1 0 _ _) fun v53 ro53 L53 hle53 hp53 => ?_)
      obtain ⟨hv53, rfl, rfl⟩ := hp53
      rw [Nat.zero_add] at hv53
      subst hv53
      refine op (y (x_nilPtr rfl) rfl ?_)
      refine op (y (x_load1 ag_3 rfl (Cell.own 2 rfl (by simpa using enc_get e hj8))) rfl ?_)
      refine op (y (x_assign rfl) rfl ?_)
      refine nil ?_
      refine n_then ?_
      refine seq ?_
      refine region ?_
      refine op (y (x_move rfl) rfl ?_)
      refine op (y (x_fieldAddr fo_106_2 rfl) rfl ?_)
      refine op (y (x_load1 ag_3 rfl (by first | assumption | exact Cell.own 0 rfl rfl | exact Cell.own 1 rfl rfl | exact Cell.own 2 rfl rfl | exact Cell.own 3 rfl rfl | exact Cell.own 4 rfl rfl | exact Cell.own 5 rfl rfl | exact Cell.own 6 rfl rfl | exact Cell.own 7 rfl rfl | exact Cell.own 8 rfl rfl | exact Cell.own 9 rfl rfl | exact Cell.ofRo (by assumption))) rfl ?_)
      refine op (y (x_lss rfl rfl) rfl ?_)
      refine op (y (x_move rfl) rfl ?_)
      refine bsplit 60 rfl (fun g60 => ?_) (fun g60 => ?_)
      · try simp only [decide_eq_true_eq, decide_eq_false_iff_not, beq_iff_eq, bne_iff_ne, ne_eq, beq_eq_false_iff_ne, bne_eq_false_iff_eq, Bool.not_eq_true', Bool.not_eq_false', Bool.not_eq_true, Bool.not_eq_false, Decidable.not_not, Int.not_lt, Int.not_le] at g60
        refine opN rfl rfl rfl rfl ?_
        refine opN rfl rfl rfl rfl ?_
        refine opN rfl rfl rfl rfl ?_
        refine opN rfl rfl rfl rfl ?_
        refine op (y (x_pickT rfl rfl) rfl ?_)
        refine nil ?_
        refine n_then ?_
        refine condT rfl ?_
        refine seq ?_
        have hGc := (hGM.mono (hro2.trans hle46)).err 9 (by omega)
        refine region ?_
        refine op (y (x_load1 ag_43 rfl (Cell.ofRo hGc)) rfl ?_)
        refine op (y (x_assign rfl) rfl ?_)
        refine nil ?_
        refine n_then ?_
        refine ret ?_
        refine r_then ?_
        refine r_in ?_
        refine r_then ?_
        refine r_then ?_
        refine r_in ?_
        refine r_then ?_
        exact done rfl (.tmp rfl (.nil)) (hro.trans (hro2.trans hle46)) (L) (subF (by (repeat (first | exact List.Sublist.refl _ | apply List.Sublist.cons_cons | apply List.Sublist.cons)); done)) (⟨IfV.mk _ _, ⟨fun h => (by cases h), fun h => absurd h (fun hk => by have h5 := hk.2.2.2.1 j hjm; grind)⟩, rfl⟩)
      · try simp only [decide_eq_true_eq, decide_eq_false_iff_not, beq_iff_eq, bne_iff_ne, ne_eq, beq_eq_false_iff_ne, bne_eq_false_iff_eq, Bool.not_eq_true', Bool.not_eq_false', Bool.not_eq_true, Bool.not_eq_false, Decidable.not_not, Int.not_lt, Int.not_le] at g60
        refine opG rfl rfl (y (x_move rfl) rfl ?_)
        refine opG rfl rfl (y (x_fieldAddr fo_106_3 rfl) rfl ?_)
        refine opG rfl rfl (y (x_load1 ag_3 rfl (by first | assumption | exact Cell.own 0 rfl rfl | exact Cell.own 1 rfl rfl | exact Cell.own 2 rfl rfl | exact Cell.own 3 rfl rfl | exact Cell.own 4 rfl rfl | exact Cell.own 5 rfl rfl | exact Cell.own 6 rfl rfl | exact Cell.own 7 rfl rfl | exact Cell.own 8 rfl rfl | exact Cell.own 9 rfl rfl | exact Cell.ofRo (by assumption))) rfl ?_)
        refine opG rfl rfl (y (x_gtr rfl rfl) rfl ?_)
        refine op (y (x_pickF rfl rfl) rfl ?_)
        refine nil ?_
        refine n_then ?_
        refine cond rfl (fun h11 => ?_) (fun h11 => ?_)
        · try simp only [decide_eq_true_eq, decide_eq_false_iff_not, beq_iff_eq, bne_iff_ne, ne_eq, beq_eq_false_iff_ne, bne_eq_false_iff_eq, Bool.not_eq_true', Bool.not_eq_false', Bool.not_eq_true, Bool.not_eq_false, Decidable.not_not, Int.not_lt, Int.not_le] at h11
          refine seq ?_
          have hGc := (hGM.mono (hro2.trans hle46)).err 9 (by omega)
          refine region ?_
          refine op (y (x_load1 ag_43 rfl (Cell.ofRo hGc)) rfl ?_)
          refine op (y (x_assign rfl) rfl ?_)
          refine nil ?_
          refine n_then ?_
          refine ret ?_
          refine r_then ?_
          refine r_in ?_
          refine r_then ?_
          refine r_then ?_
          refine r_in ?_
          refine r_then ?_
          exact done rfl (.tmp rfl (.nil)) (hro.trans (hro2.trans hle46)) (L) (subF (by (repeat (first | exact List.Sublist.refl _ | apply List.Sublist.cons_cons | apply List.Sublist.cons)); done)) (⟨IfV.mk _ _, ⟨fun h => (by cases h), fun h => absurd h (fun hk => by have h5 := hk.2.2.2.1 j hjm; grind)⟩, rfl⟩)
        · try simp only [decide_eq_true_eq, decide_eq_false_iff_not, beq_iff_eq, bne_iff_ne, ne_eq, beq_eq_false_iff_ne, bne_eq_false_iff_eq, Bool.not_eq_true', Bool.not_eq_false', Bool.not_eq_true, Bool.not_eq_false, Decidable.not_not, Int.not_lt, Int.not_le] at h11
          refine skip ?_
          refine n_then ?_
          refine region ?_
          refine op (y (x_fieldAddr fo_106_0 rfl) rfl ?_)
          refine op (y (x_load1 ag_104 rfl (by first | assumption | exact Cell.own 0 rfl rfl | exact Cell.own 1 rfl rfl | exact Cell.own 2 rfl rfl | exact Cell.own 3 rfl rfl | exact Cell.own 4 rfl rfl | exact Cell.own 5 rfl rfl | exact Cell.own 6 rfl rfl | exact Cell.own 7 rfl rfl | exact Cell.own 8 rfl rfl | exact Cell.own 9 rfl rfl | exact Cell.ofRo (by assumption))) rfl ?_)
          refine op (e_call rfl (fn_of hj1 hj8) rfl rfl (of_c hj1 hj8 b4 0 _ _) fun v69 ro69 L69 hle69 hp69 => ?_)
          obtain ⟨hv69, rfl, rfl⟩ := hp69
          rw [Nat.zero_add] at hv69
          subst hv69
          refine op (y (x_nilPtr rfl) rfl ?_)
          refine op (e_store 1 rfl rfl ts_3 rfl rfl rfl rfl (putN_ev r hj8 0) rfl ?_)
          refine nil ?_
          refine n_in ?_
          refine n_then ?_
          refine region ?_
          refine op (y (x_move rfl) rfl ?_)
          refine op (y (x_add rfl rfl _ (wr (by omega) (by omega))) rfl ?_)
          refine op (y (x_assign rfl) rfl ?_)
          refine nil ?_
          refine drop0 ?_
          have hil : i < (flds e).length := (List.getElem?_eq_some_iff.1 hj).1
          exact round ((flds e).length + 1 - (i + 1)) [(1, .pointer (some ⟨b1, 0, none⟩)), (4, .pointer (some ⟨b4, 0, none⟩)), (3, .func (.func fk) #[] caps.toArray), (5, .int .i64 ((i + 1) : Nat))] (by omega) ⟨rfl, rfl, rfl, rfl, trivial⟩ ⟨i + 1, _, rfl, rfl, rfl, by omega, hro2.trans hle46, by rw [take_snoc' hj, zE_snoc, hr], upto (p := fun q => ∀ j, (flds e)[q]? = some j → minJ j ≤ evGet e j ∧ evGet e j ≤ maxJ j) hin (fun j2 hj2 => by rw [hj] at hj2; cases hj2; grind)⟩

end Go.Proofs.YtijafcilfefafaaDoor
