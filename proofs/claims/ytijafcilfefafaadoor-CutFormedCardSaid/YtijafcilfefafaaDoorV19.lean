/- The walks of histories without a deed, without spare objects, of the committed ones alone. -/
import Derived.Test.YtijafcilfefafaaDoorV18
namespace Go.Proofs.YtijafcilfefafaaDoor
open Go Go.U
set_option maxRecDepth 20000
set_option linter.unusedSimpArgs false
set_option linter.unusedVariables false

/-- without a deed -/
def dropM (h : Hi) (tx k : Int) : Option Hi :=
  match takenM h with
  | none => none
  | some sts => match findM (sts.map (·.tx)) tx with
    | none => none
    | some i => match (sts.map (·.tx))[i]? with
      | none => none
      | some t => if 0 ≤ k then match t.ds[k.toNat]? with
        | none => none
        | some d => some ⟨h.os, kp (fun i _ => decide ((i : Int) ≠ d.at_ ∧ (i : Int) ≠ d.back)) h.es⟩
        else none
def noTx (h : Hi) (tx : Int) : Bool := match takenM h with
  | none => false
  | some sts => (findM (sts.map (·.tx)) tx).isNone
def PDrop (er : Nat → Addr) (h : Hi) (tx k : Int) (L : List (List Blk)) : Value → Ro → List (List Blk) → Prop := fun v ro' L' => ∃ (r : Hi) (A : Option Addr) (cA : Nat) (B : Option Addr) (cB : Nat) (ev : Value), v = .tuple [.agg [.slice A r.os.length cA, .slice B r.es.length cB].toArray, ev].toArray ∧ SH ro' A cA B cB r ∧ L = L' ∧
  ((ev = .nilIface ∧ dropM h tx k = some r) ∨ ((∃ t u, ev = .iface t u) ∧ dropM h tx k = none ∧ r = ⟨[], []⟩ ∧ (noTx h tx = true → ev = .iface 125 (.pointer (some (er 0))))))
theorem sh_nil {ro : Ro} : SH ro none 0 none 0 ⟨[], []⟩ := ⟨sl_nil, sl_nil⟩
def manyN (es : List Ev) : Nat := es.foldl (fun m e => if e.kind = 2 then max m (e.obj + 1).toNat else m) 0
theorem manyN_snoc {es : List Ev} {k : Nat} {e : Ev} (h : es[k]? = some e) : manyN (es.take (k + 1)) = if e.kind = 2 then max (manyN (es.take k)) (e.obj + 1).toNat else manyN (es.take k) := by
  rw [take_snoc' h]; unfold manyN; rw [List.foldl_append]; rfl
def spareH (h : Hi) : Hi := ⟨h.os.take (manyN h.es), h.es⟩
theorem takenM_hv {h : Hi} (hs : (takenM h).isSome = true) : HV h := by
  unfold takenM at hs
  split at hs
  · assumption
  · cases hs
theorem manyN_le {h : Hi} (hv : HV h) : ∀ k : Nat, manyN (h.es.take k) ≤ h.os.length := by
  have key : ∀ (l : List Ev) (m : Nat), m ≤ h.os.length → (∀ e ∈ l, EvOk e ∧ EvIn h.os e) → l.foldl (fun m e => if e.kind = 2 then max m (e.obj + 1).toNat else m) m ≤ h.os.length := by
    intro l
    induction l with
    | nil => intro m hm _; exact hm
    | cons e l ih =>
      intro m hm hl
      refine ih _ ?_ (fun x hx => hl x (by simp [hx]))
      show (if e.kind = 2 then max m (e.obj + 1).toNat else m) ≤ _
      split
      · rename_i hk
        have := ((hl e (by simp)).2 hk).1
        omega
      · exact hm
  intro k
  exact key _ 0 (by omega) (fun e he => hv.2.2.2 e (List.mem_of_mem_take he))
def PSpare (h : Hi) (L : List (List Blk)) : Value → Ro → List (List Blk) → Prop := fun v _ L' => ∃ (r : Hi) (A : Option Addr) (cA : Nat) (B : Option Addr) (cB : Nat) (R1 R2 : List Blk) (ev : Value), v = .tuple [.agg [.slice A r.os.length cA, .slice B r.es.length cB].toArray, ev].toArray ∧ OwnS 31 2 A r.os.length cA (r.os.flatMap encOb) R1 ∧ OwnS 34 8 B r.es.length cB (r.es.flatMap encEv) R2 ∧ L' = R1 :: R2 :: L ∧
  ((ev = .nilIface ∧ (takenM h).isSome = true ∧ r = spareH h) ∨ ((∃ t u, ev = .iface t u) ∧ takenM h = none ∧ r = ⟨[], []⟩))
theorem emp2 {L : List (List Blk)} : ∃ M, M.Perm L.flatten ∧ (List.flatten ([] :: [] :: L)).Sublist M := ⟨_, .refl _, by simp⟩
def commM (h : Hi) : Option Hi := match takenM h with
  | none => none
  | some sts => some (onT h (fun tx => match findM (sts.map (·.tx)) tx with
    | none => false
    | some i => match (sts.map (·.tx))[i]? with
      | none => false
      | some t => decide (t.status = 3)))
def PComm (h : Hi) (L : List (List Blk)) : Value → Ro → List (List Blk) → Prop := fun v ro' L' => ∃ (r : Hi) (A : Option Addr) (cA : Nat) (B : Option Addr) (cB : Nat) (ev : Value), v = .tuple [.agg [.slice A r.os.length cA, .slice B r.es.length cB].toArray, ev].toArray ∧ SH ro' A cA B cB r ∧ L = L' ∧
  ((ev = .nilIface ∧ commM h = some r) ∨ ((∃ t u, ev = .iface t u) ∧ commM h = none ∧ r = ⟨[], []⟩))
theorem findM_lt {l : List Tm} {id : Int} {i : Nat} (h : findM l id = some i) : i < l.length := by
  unfold findM at h
  rw [List.findIdx?_eq_some_iff_getElem] at h
  exact h.1

theorem Drop1_c (i : Nat) (e : Ev) (d : De) (b : Nat) (ro : Ro) (L : List (List Blk)) (hK : (b, Obj.cells (encDe d).toArray 72 (0, 0)) ∈ L.flatten) :
    CT Tryd.prog 45 [.int .i64 (i : Nat), .agg (encEv e).toArray, .pointer (some ⟨b, 0, none⟩)].toArray ro L (fun v _ L' => v = .bool (decide ((i : Int) ≠ d.at_ ∧ (i : Int) ≠ d.back)) ∧ L' = L) := by
  refine enter Tryd.func45 rfl Tryd.ntmps45 rfl ?_
  refine seq ?_
  refine region ?_
  refine op (e_box rfl rfl rfl fun b4 => ?_)
  refine op (y (x_assign rfl) rfl ?_)
  refine nil ?_
  refine n_then ?_
  refine seq ?_
  refine region ?_
  refine op (y (x_move rfl) rfl ?_)
  refine op (y (x_fieldAddr fo_72_6 rfl) rfl ?_)
  refine op (y (x_load1 ag_3 rfl (Cell.blk (mem1 hK) rfl)) rfl ?_)
  refine op (y (x_neq rfl rfl) rfl ?_)
  refine op (y (x_move rfl) rfl ?_)
  refine bsplit 10 rfl (fun g10 => ?_) (fun g10 => ?_)
  · try simp only [decide_eq_true_eq, decide_eq_false_iff_not, beq_iff_eq, bne_iff_ne, ne_eq, beq_eq_false_iff_ne, bne_eq_false_iff_eq, Bool.not_eq_true', Bool.not_eq_false', Bool.not_eq_true, Bool.not_eq_false, Decidable.not_not, Int.not_lt, Int.not_le] at g10
    refine opG rfl rfl (y (x_move rfl) rfl ?_)
    refine opG rfl rfl (y (x_fieldAddr fo_72_7 rfl) rfl ?_)
    refine opG rfl rfl (y (x_load1 ag_3 rfl (Cell.blk (mem1 hK) rfl)) rfl ?_)
    refine opG rfl rfl (y (x_neq rfl rfl) rfl ?_)
    refine op (y (x_pickT rfl rfl) rfl ?_)
    refine op (y (x_assign rfl) rfl ?_)
    refine nil ?_
    refine n_then ?_
    refine ret ?_
    exact done rfl (.tmp rfl (.nil)) (Ro.le.refl _) (L) (subF (by (repeat (first | exact List.Sublist.refl _ | apply List.Sublist.cons_cons | apply List.Sublist.cons)); done)) (⟨by simp only [tupled]; congr 1; grind, rfl⟩)
  · try simp only [decide_eq_true_eq, decide_eq_false_iff_not, beq_iff_eq, bne_iff_ne, ne_eq, beq_eq_false_iff_ne, bne_eq_false_iff_eq, Bool.not_eq_true', Bool.not_eq_false', Bool.not_eq_true, Bool.not_eq_false, Decidable.not_not, Int.not_lt, Int.not_le] at g10
    refine opN rfl rfl rfl rfl ?_
    refine opN rfl rfl rfl rfl ?_
    refine opN rfl rfl rfl rfl ?_
    refine opN rfl rfl rfl rfl ?_
    refine op (y (x_pickF rfl rfl) rfl ?_)
    refine op (y (x_assign rfl) rfl ?_)
    refine nil ?_
    refine n_then ?_
    refine ret ?_
    exact done rfl (.tmp rfl (.nil)) (Ro.le.refl _) (L) (subF (by (repeat (first | exact List.Sublist.refl _ | apply List.Sublist.cons_cons | apply List.Sublist.cons)); done)) (⟨by simp only [tupled]; congr 1; grind, rfl⟩)

theorem Drop_c (h : Hi) (A : Option Addr) (cA : Nat) (B : Option Addr) (cB : Nat) (ro : Ro) (L : List (List Blk)) (hh : SH ro A cA B cB h) (hn1 : h.os.length ≤ 100) (hn2 : h.es.length ≤ 600) (tx k : Int) (hI : HI h) (er : Nat → Addr) (hG : Glob er ro) :
    CT Tryd.prog 23 [.agg [.slice A h.os.length cA, .slice B h.es.length cB].toArray, .int .i64 tx, .int .i64 k].toArray ro L (PDrop er h tx k L) := by
  refine enter Tryd.func23 rfl Tryd.ntmps23 rfl ?_
  refine seq ?_
  refine region ?_
  refine op (e_box rfl rfl rfl fun b3 => ?_)
  refine op (e_alloc rfl zc_25 rfl fun b6 => ?_)
  refine op (y (x_assign rfl) rfl ?_)
  refine nil ?_
  refine n_then ?_
  refine seq ?_
  refine region ?_
  refine op (y ((by first | exact x_loadOwn 0 _ ag_25 rfl rfl rfl rfl | exact x_loadOwn 1 _ ag_25 rfl rfl rfl rfl | exact x_loadOwn 2 _ ag_25 rfl rfl rfl rfl | exact x_loadOwn 3 _ ag_25 rfl rfl rfl rfl | exact x_loadOwn 4 _ ag_25 rfl rfl rfl rfl | exact x_loadOwn 5 _ ag_25 rfl rfl rfl rfl | exact x_loadOwn 6 _ ag_25 rfl rfl rfl rfl | exact x_loadOwn 7 _ ag_25 rfl rfl rfl rfl | exact x_loadOwn 8 _ ag_25 rfl rfl rfl rfl | exact x_loadOwn 9 _ ag_25 rfl rfl rfl rfl | exact x_loadOwn 10 _ ag_25 rfl rfl rfl rfl | exact x_loadOwn 11 _ ag_25 rfl rfl rfl rfl)) rfl ?_)
  refine op (e_call rfl fn_32 rfl rfl (Table_c h A cA B cB _ _ hh hn1 hn2 hI er hG) fun v15 ro15 L15 hle15 hp15 => ?_)
  obtain ⟨tA, tc, tgs, ev15, rfl, hev15, hcase15, rfl⟩ := hp15
  refine op (y (x_move rfl) rfl ?_)
  refine op (y (x_extract rfl rfl) rfl ?_)
  refine op (y (x_extract rfl rfl) rfl ?_)
  refine op (y (x_assign rfl) rfl ?_)
  refine op (y (x_assign rfl) rfl ?_)
  refine nil ?_
  refine n_then ?_
  refine seq ?_
  refine seq ?_
  refine region ?_
  refine op (y (x_move rfl) rfl ?_)
  refine op (y (x_ifNeNil Tryd.underlying43 rfl (by assumption)) rfl ?_)
  refine nil ?_
  refine n_then ?_
  refine cond rfl (fun h2 => ?_) (fun h2 => ?_)
  · try simp only [decide_eq_true_eq, decide_eq_false_iff_not, beq_iff_eq, bne_iff_ne, ne_eq, beq_eq_false_iff_ne, bne_eq_false_iff_eq, Bool.not_eq_true', Bool.not_eq_false', Bool.not_eq_true, Bool.not_eq_false, Decidable.not_not, Int.not_lt, Int.not_le] at h2
    refine seq ?_
    change isNilI ev15 = false at h2
    rcases hcase15 with ⟨hx, _⟩ | ⟨_, hno, rfl⟩
    · rw [hx] at h2; cases h2
    obtain ⟨tt, uu, rfl⟩ := ifv_some hev15 h2
    refine region ?_
    refine op (y (x_build bu_25 rfl rfl) rfl ?_)
    refine op (y (x_move rfl) rfl ?_)
    first | refine op (e_store 0 rfl rfl ts_25 rfl rfl rfl rfl rfl rfl ?_) | refine op (e_store 1 rfl rfl ts_25 rfl rfl rfl rfl rfl rfl ?_) | refine op (e_store 2 rfl rfl ts_25 rfl rfl rfl rfl rfl rfl ?_) | refine op (e_store 3 rfl rfl ts_25 rfl rfl rfl rfl rfl rfl ?_) | refine op (e_store 4 rfl rfl ts_25 rfl rfl rfl rfl rfl rfl ?_) | refine op (e_store 5 rfl rfl ts_25 rfl rfl rfl rfl rfl rfl ?_) | refine op (e_store 6 rfl rfl ts_25 rfl rfl rfl rfl rfl rfl ?_) | refine op (e_store 7 rfl rfl ts_25 rfl rfl rfl rfl rfl rfl ?_) | refine op (e_store 8 rfl rfl ts_25 rfl rfl rfl rfl rfl rfl ?_) | refine op (e_store 9 rfl rfl ts_25 rfl rfl rfl rfl rfl rfl ?_)
    refine op (y (x_assign rfl) rfl ?_)
    refine nil ?_
    refine n_then ?_
    refine ret ?_
    refine r_then ?_
    exact done rfl (Res.cellN ag_25 rfl rfl (CellsAt.own 0 0 2 _ rfl rfl) (.tmp rfl (.nil))) (hle15) (L) (subF (by (repeat (first | exact List.Sublist.refl _ | apply List.Sublist.cons_cons | apply List.Sublist.cons)); done)) (⟨⟨[], []⟩, none, 0, none, 0, .iface tt uu, rfl, sh_nil, rfl, .inr ⟨⟨_, _, rfl⟩, by unfold dropM; rw [hno], rfl, fun hx => (by unfold noTx at hx; rw [hno] at hx; cases hx)⟩⟩)
  · try simp only [decide_eq_true_eq, decide_eq_false_iff_not, beq_iff_eq, bne_iff_ne, ne_eq, beq_eq_false_iff_ne, bne_eq_false_iff_eq, Bool.not_eq_true', Bool.not_eq_false', Bool.not_eq_true, Bool.not_eq_false, Decidable.not_not, Int.not_lt, Int.not_le] at h2
    refine skip ?_
    refine n_then ?_
    refine seq ?_
    change isNilI ev15 = true at h2
    rcases hcase15.symm with ⟨hx, _⟩ | ⟨_, ⟨sts, hsts, hmp⟩, hSt⟩
    · rw [hx] at h2; cases h2
    refine region ?_
    refine op (y (x_move rfl) rfl ?_)
    refine op (y (x_move rfl) rfl ?_)
    refine op (e_call rfl fn_44 rfl rfl (Find_c tgs tA tc tx _ _ hSt.sl) fun v25 ro25 L25 hle25 hp25 => ?_)
    obtain ⟨rfl, rfl, rfl⟩ := hp25
    refine op (y (x_move rfl) rfl ?_)
    refine op (y (x_extract rfl rfl) rfl ?_)
    refine op (y (x_extract rfl rfl) rfl ?_)
    refine op (y (x_assign rfl) rfl ?_)
    refine op (y (x_assign rfl) rfl ?_)
    refine nil ?_
    refine n_then ?_
    refine seq ?_
    refine seq ?_
    refine region ?_
    refine op (y (x_move rfl) rfl ?_)
    refine op (y (x_not rfl) rfl ?_)
    refine nil ?_
    refine n_then ?_
    refine cond rfl (fun h5 => ?_) (fun h5 => ?_)
    · try simp only [decide_eq_true_eq, decide_eq_false_iff_not, beq_iff_eq, bne_iff_ne, ne_eq, beq_eq_false_iff_ne, bne_eq_false_iff_eq, Bool.not_eq_true', Bool.not_eq_false', Bool.not_eq_true, Bool.not_eq_false, Decidable.not_not, Int.not_lt, Int.not_le] at h5
      have hfn : findM (sts.map (·.tx)) tx = none := by rw [← hmp]; cases hf : findM (tgs.map (·.tm)) tx with | none => rfl | some i => (rw [hf] at h5; cases h5)
      refine seq ?_
      refine draw (([] : List Blk)) (by kernel_rfl) ?_
      refine d_take 0 rfl (by kernel_rfl) (by kernel_rfl) (by kernel_rfl) (fun _ _ _ h => h) rfl (.inl rfl) (x_build bu_25 rfl rfl) (fun w hi => J.of_le (Ro.le.refl _) (fun x hx => absurd hx (by simp)) hi) ?_
      refine d_take 1 rfl (by kernel_rfl) (by kernel_rfl) (by kernel_rfl) (fun _ _ _ h => h) rfl (.inl rfl) (x_load1 ag_43 rfl (Cell.ofRo ((hG.mono hle15).err 0 (by omega)))) (fun w hi => J.of_le (Ro.le.refl _) (fun x hx => absurd hx (by simp)) hi) ?_
      first | refine d_one 2 rfl (by kernel_rfl) (.inl rfl) (e_store 0 rfl rfl ts_25 rfl rfl rfl rfl rfl rfl ?_) | refine d_one 2 rfl (by kernel_rfl) (.inl rfl) (e_store 1 rfl rfl ts_25 rfl rfl rfl rfl rfl rfl ?_) | refine d_one 2 rfl (by kernel_rfl) (.inl rfl) (e_store 2 rfl rfl ts_25 rfl rfl rfl rfl rfl rfl ?_) | refine d_one 2 rfl (by kernel_rfl) (.inl rfl) (e_store 3 rfl rfl ts_25 rfl rfl rfl rfl rfl rfl ?_) | refine d_one 2 rfl (by kernel_rfl) (.inl rfl) (e_store 4 rfl rfl ts_25 rfl rfl rfl rfl rfl rfl ?_) | refine d_one 2 rfl (by kernel_rfl) (.inl rfl) (e_store 5 rfl rfl ts_25 rfl rfl rfl rfl rfl rfl ?_) | refine d_one 2 rfl (by kernel_rfl) (.inl rfl) (e_store 6 rfl rfl ts_25 rfl rfl rfl rfl rfl rfl ?_) | refine d_one 2 rfl (by kernel_rfl) (.inl rfl) (e_store 7 rfl rfl ts_25 rfl rfl rfl rfl rfl rfl ?_) | refine d_one 2 rfl (by kernel_rfl) (.inl rfl) (e_store 8 rfl rfl ts_25 rfl rfl rfl rfl rfl rfl ?_) | refine d_one 2 rfl (by kernel_rfl) (.inl rfl) (e_store 9 rfl rfl ts_25 rfl rfl rfl rfl rfl rfl ?_)
      refine d_next (fun w hi => J.of_le (Ro.le.refl _) (fun x hx => absurd hx (by simp)) hi) ?_
      refine d_take 3 rfl (by kernel_rfl) (by kernel_rfl) (by kernel_rfl) (fun _ _ _ h => h) rfl (.inl rfl) (x_assign rfl) (fun w hi => J.of_le (Ro.le.refl _) (fun x hx => absurd hx (by simp)) hi) ?_
      refine d_end (by kernel_rfl) ?_
      refine n_then ?_
      refine ret ?_
      refine r_then ?_
      exact done rfl (Res.cellN ag_25 rfl rfl (CellsAt.own 0 0 2 _ rfl rfl) (.tmp rfl (.nil))) (hle15) (L) (subF (by (repeat (first | exact List.Sublist.refl _ | apply List.Sublist.cons_cons | apply List.Sublist.cons)); done)) (⟨⟨[], []⟩, none, 0, none, 0, .iface 125 (.pointer (some (er 0))), rfl, sh_nil, rfl, .inr ⟨⟨_, _, rfl⟩, by unfold dropM; rw [hsts]; simp only; rw [hfn], rfl, fun _ => rfl⟩⟩)
    · try simp only [decide_eq_true_eq, decide_eq_false_iff_not, beq_iff_eq, bne_iff_ne, ne_eq, beq_eq_false_iff_ne, bne_eq_false_iff_eq, Bool.not_eq_true', Bool.not_eq_false', Bool.not_eq_true, Bool.not_eq_false, Decidable.not_not, Int.not_lt, Int.not_le] at h5
      refine skip ?_
      refine n_then ?_
      refine seq ?_
      refine seq ?_
      obtain ⟨i, hfi⟩ : ∃ i, findM (tgs.map (·.tm)) tx = some i := by cases hf : findM (tgs.map (·.tm)) tx with | none => (rw [hf] at h5; cases h5) | some i => exact ⟨i, rfl⟩
      have hfi2 : findM (sts.map (·.tx)) tx = some i := by rw [← hmp]; exact hfi
      have hil : i < tgs.length := by have := findM_lt hfi; simpa using this
      refine said 10 (.int .i64 ((i : Nat) : Int)) rfl (by show Value.int .i64 (((findM (tgs.map (·.tm)) tx).getD 0 : Nat) : Int) = _; rw [hfi]; rfl) ?_
      have hsl := hSt.sl
      obtain ⟨bbx, offx, rfl, hcx⟩ := hsl.at_ (i := i) (by omega)
      have hx := List.getElem?_eq_getElem (show i < tgs.length from by omega)
      have hds := hSt.ds _ (List.mem_of_getElem? hx)
      have hit : (sts.map (·.tx))[i]? = some (tgs[i]).tm := by rw [← hmp, List.getElem?_map, hx]; rfl
      have hmd : dropM h tx k = if 0 ≤ k then match (tgs[i]).tm.ds[k.toNat]? with
              | none => none
              | some d => some ⟨h.os, kp (fun i _ => decide ((i : Int) ≠ d.at_ ∧ (i : Int) ≠ d.back)) h.es⟩
              else none := by unfold dropM; rw [hsts]; simp only; rw [hfi2]; simp only; rw [hit]
      have hnt : noTx h tx = false := by unfold noTx; rw [hsts]; simp only; rw [hfi2]; rfl
      refine region ?_
      refine op (y (x_move rfl) rfl ?_)
      refine op (y (x_lss rfl rfl) rfl ?_)
      refine op (y (x_move rfl) rfl ?_)
      refine bsplit 34 rfl (fun g34 => ?_) (fun g34 => ?_)
      · try simp only [decide_eq_true_eq, decide_eq_false_iff_not, beq_iff_eq, bne_iff_ne, ne_eq, beq_eq_false_iff_ne, bne_eq_false_iff_eq, Bool.not_eq_true', Bool.not_eq_false', Bool.not_eq_true, Bool.not_eq_false, Decidable.not_not, Int.not_lt, Int.not_le] at g34
        refine opN rfl rfl rfl rfl ?_
        refine opN rfl rfl rfl rfl ?_
        refine opN rfl rfl rfl rfl ?_
        refine opN rfl rfl rfl rfl ?_
        refine opN rfl rfl rfl rfl ?_
        refine opN rfl rfl rfl rfl ?_
        refine opN rfl rfl rfl rfl ?_
        refine opN rfl rfl rfl rfl ?_
        refine op (y (x_pickT rfl rfl) rfl ?_)
        refine nil ?_
        refine n_then ?_
        refine condT rfl ?_
        refine seq ?_
        refine draw (([] : List Blk)) (by kernel_rfl) ?_
        refine d_take 0 rfl (by kernel_rfl) (by kernel_rfl) (by kernel_rfl) (fun _ _ _ h => h) rfl (.inl rfl) (x_build bu_25 rfl rfl) (fun w hi => J.of_le (Ro.le.refl _) (fun x hx => absurd hx (by simp)) hi) ?_
        refine d_take 1 rfl (by kernel_rfl) (by kernel_rfl) (by kernel_rfl) (fun _ _ _ h => h) rfl (.inl rfl) (x_load1 ag_43 rfl (Cell.ofRo ((hG.mono hle15).err 1 (by omega)))) (fun w hi => J.of_le (Ro.le.refl _) (fun x hx => absurd hx (by simp)) hi) ?_
        first | refine d_one 2 rfl (by kernel_rfl) (.inl rfl) (e_store 0 rfl rfl ts_25 rfl rfl rfl rfl rfl rfl ?_) | refine d_one 2 rfl (by kernel_rfl) (.inl rfl) (e_store 1 rfl rfl ts_25 rfl rfl rfl rfl rfl rfl ?_) | refine d_one 2 rfl (by kernel_rfl) (.inl rfl) (e_store 2 rfl rfl ts_25 rfl rfl rfl rfl rfl rfl ?_) | refine d_one 2 rfl (by kernel_rfl) (.inl rfl) (e_store 3 rfl rfl ts_25 rfl rfl rfl rfl rfl rfl ?_) | refine d_one 2 rfl (by kernel_rfl) (.inl rfl) (e_store 4 rfl rfl ts_25 rfl rfl rfl rfl rfl rfl ?_) | refine d_one 2 rfl (by kernel_rfl) (.inl rfl) (e_store 5 rfl rfl ts_25 rfl rfl rfl rfl rfl rfl ?_) | refine d_one 2 rfl (by kernel_rfl) (.inl rfl) (e_store 6 rfl rfl ts_25 rfl rfl rfl rfl rfl rfl ?_) | refine d_one 2 rfl (by kernel_rfl) (.inl rfl) (e_store 7 rfl rfl ts_25 rfl rfl rfl rfl rfl rfl ?_) | refine d_one 2 rfl (by kernel_rfl) (.inl rfl) (e_store 8 rfl rfl ts_25 rfl rfl rfl rfl rfl rfl ?_) | refine d_one 2 rfl (by kernel_rfl) (.inl rfl) (e_store 9 rfl rfl ts_25 rfl rfl rfl rfl rfl rfl ?_)
        refine d_next (fun w hi => J.of_le (Ro.le.refl _) (fun x hx => absurd hx (by simp)) hi) ?_
        refine d_take 3 rfl (by kernel_rfl) (by kernel_rfl) (by kernel_rfl) (fun _ _ _ h => h) rfl (.inl rfl) (x_assign rfl) (fun w hi => J.of_le (Ro.le.refl _) (fun x hx => absurd hx (by simp)) hi) ?_
        refine d_end (by kernel_rfl) ?_
        refine n_then ?_
        refine ret ?_
        refine r_then ?_
        exact done rfl (Res.cellN ag_25 rfl rfl (CellsAt.own 0 0 2 _ rfl rfl) (.tmp rfl (.nil))) (hle15) (L) (subF (by (repeat (first | exact List.Sublist.refl _ | apply List.Sublist.cons_cons | apply List.Sublist.cons)); done)) (⟨⟨[], []⟩, none, 0, none, 0, .iface 125 (.pointer (some (er 1))), rfl, sh_nil, rfl, .inr ⟨⟨_, _, rfl⟩, hmd.trans (by first | (rw [if_neg (by omega)]; done) | (rw [if_pos (by omega), List.getElem?_eq_none (by omega)]; done)), rfl, fun hx => (by rw [hnt] at hx; cases hx)⟩⟩)
      · try simp only [decide_eq_true_eq, decide_eq_false_iff_not, beq_iff_eq, bne_iff_ne, ne_eq, beq_eq_false_iff_ne, bne_eq_false_iff_eq, Bool.not_eq_true', Bool.not_eq_false', Bool.not_eq_true, Bool.not_eq_false, Decidable.not_not, Int.not_lt, Int.not_le] at g34
        refine opG rfl rfl (y (x_move rfl) rfl ?_)
        refine opG rfl rfl (y (x_move rfl) rfl ?_)
        refine opG rfl rfl (y (x_move rfl) rfl ?_)
        refine opG rfl rfl (y (x_indexNat sz_55 rfl rfl (hil)) rfl ?_)
        refine opG rfl rfl (y (x_fieldAddr fo_61_6 rfl) rfl ?_)
        refine opG rfl rfl (y (x_load1 ag_59 rfl (Cell.ofRo (hcx i _ hx 6 _ rfl))) rfl ?_)
        refine opG rfl rfl (y (x_lenSl sz_59 rfl) rfl ?_)
        refine opG rfl rfl (y (x_geq rfl rfl) rfl ?_)
        refine op (y (x_pickF rfl rfl) rfl ?_)
        refine nil ?_
        refine n_then ?_
        refine cond rfl (fun h7 => ?_) (fun h7 => ?_)
        · try simp only [decide_eq_true_eq, decide_eq_false_iff_not, beq_iff_eq, bne_iff_ne, ne_eq, beq_eq_false_iff_ne, bne_eq_false_iff_eq, Bool.not_eq_true', Bool.not_eq_false', Bool.not_eq_true, Bool.not_eq_false, Decidable.not_not, Int.not_lt, Int.not_le] at h7
          refine seq ?_
          refine draw (([] : List Blk)) (by kernel_rfl) ?_
          refine d_take 0 rfl (by kernel_rfl) (by kernel_rfl) (by kernel_rfl) (fun _ _ _ h => h) rfl (.inl rfl) (x_build bu_25 rfl rfl) (fun w hi => J.of_le (Ro.le.refl _) (fun x hx => absurd hx (by simp)) hi) ?_
          refine d_take 1 rfl (by kernel_rfl) (by kernel_rfl) (by kernel_rfl) (fun _ _ _ h => h) rfl (.inl rfl) (x_load1 ag_43 rfl (Cell.ofRo ((hG.mono hle15).err 1 (by omega)))) (fun w hi => J.of_le (Ro.le.refl _) (fun x hx => absurd hx (by simp)) hi) ?_
          first | refine d_one 2 rfl (by kernel_rfl) (.inl rfl) (e_store 0 rfl rfl ts_25 rfl rfl rfl rfl rfl rfl ?_) | refine d_one 2 rfl (by kernel_rfl) (.inl rfl) (e_store 1 rfl rfl ts_25 rfl rfl rfl rfl rfl rfl ?_) | refine d_one 2 rfl (by kernel_rfl) (.inl rfl) (e_store 2 rfl rfl ts_25 rfl rfl rfl rfl rfl rfl ?_) | refine d_one 2 rfl (by kernel_rfl) (.inl rfl) (e_store 3 rfl rfl ts_25 rfl rfl rfl rfl rfl rfl ?_) | refine d_one 2 rfl (by kernel_rfl) (.inl rfl) (e_store 4 rfl rfl ts_25 rfl rfl rfl rfl rfl rfl ?_) | refine d_one 2 rfl (by kernel_rfl) (.inl rfl) (e_store 5 rfl rfl ts_25 rfl rfl rfl rfl rfl rfl ?_) | refine d_one 2 rfl (by kernel_rfl) (.inl rfl) (e_store 6 rfl rfl ts_25 rfl rfl rfl rfl rfl rfl ?_) | refine d_one 2 rfl (by kernel_rfl) (.inl rfl) (e_store 7 rfl rfl ts_25 rfl rfl rfl rfl rfl rfl ?_) | refine d_one 2 rfl (by kernel_rfl) (.inl rfl) (e_store 8 rfl rfl ts_25 rfl rfl rfl rfl rfl rfl ?_) | refine d_one 2 rfl (by kernel_rfl) (.inl rfl) (e_store 9 rfl rfl ts_25 rfl rfl rfl rfl rfl rfl ?_)
          refine d_next (fun w hi => J.of_le (Ro.le.refl _) (fun x hx => absurd hx (by simp)) hi) ?_
          refine d_take 3 rfl (by kernel_rfl) (by kernel_rfl) (by kernel_rfl) (fun _ _ _ h => h) rfl (.inl rfl) (x_assign rfl) (fun w hi => J.of_le (Ro.le.refl _) (fun x hx => absurd hx (by simp)) hi) ?_
          refine d_end (by kernel_rfl) ?_
          refine n_then ?_
          refine ret ?_
          refine r_then ?_
          exact done rfl (Res.cellN ag_25 rfl rfl (CellsAt.own 0 0 2 _ rfl rfl) (.tmp rfl (.nil))) (hle15) (L) (subF (by (repeat (first | exact List.Sublist.refl _ | apply List.Sublist.cons_cons | apply List.Sublist.cons)); done)) (⟨⟨[], []⟩, none, 0, none, 0, .iface 125 (.pointer (some (er 1))), rfl, sh_nil, rfl, .inr ⟨⟨_, _, rfl⟩, hmd.trans (by first | (rw [if_neg (by omega)]; done) | (rw [if_pos (by omega), List.getElem?_eq_none (by omega)]; done)), rfl, fun hx => (by rw [hnt] at hx; cases hx)⟩⟩)
        · try simp only [decide_eq_true_eq, decide_eq_false_iff_not, beq_iff_eq, bne_iff_ne, ne_eq, beq_eq_false_iff_ne, bne_eq_false_iff_eq, Bool.not_eq_true', Bool.not_eq_false', Bool.not_eq_true, Bool.not_eq_false, Decidable.not_not, Int.not_lt, Int.not_le] at h7
          refine skip ?_
          refine n_then ?_
          refine seq ?_
          obtain ⟨kk, rfl⟩ := Int.eq_ofNat_of_zero_le (show 0 ≤ k by omega)
          have hkl : kk < (tgs[i]).tm.ds.length := by omega
          obtain ⟨bbz, offz, hAz, hcz⟩ := hds.at_ (i := kk) hkl
          have hz := List.getElem?_eq_getElem hkl
          obtain ⟨dd, hdd⟩ : ∃ dd, (tgs[i]).tm.ds[kk] = dd := ⟨_, rfl⟩
          rw [hdd] at hz
          refine region ?_
          refine op (y (x_move rfl) rfl ?_)
          refine op (y (x_move rfl) rfl ?_)
          refine op (y (x_indexNat sz_55 rfl rfl (hil)) rfl ?_)
          refine op (y (x_fieldAddr fo_61_6 rfl) rfl ?_)
          refine op (y (x_load1 ag_59 rfl (Cell.ofRo (hcx i _ hx 6 _ rfl))) rfl ?_)
          refine said 50 (.slice (some ⟨bbz, offz, none⟩) (tgs[i]).tm.ds.length (tgs[i]).cap) rfl (by rw [← hAz]) ?_
          refine op (y (x_move rfl) rfl ?_)
          refine op (y (x_indexNat sz_59 rfl rfl (hkl)) rfl ?_)
          refine op (y (x_loadN ag_72 rfl rfl (CellsAt.ofRo (hcz kk _ hz))) rfl ?_)
          refine op (e_alloc rfl zc_72 rfl fun b12 => ?_)
          first | refine op (e_store 0 rfl rfl ts_72 rfl rfl rfl rfl rfl rfl ?_) | refine op (e_store 1 rfl rfl ts_72 rfl rfl rfl rfl rfl rfl ?_) | refine op (e_store 2 rfl rfl ts_72 rfl rfl rfl rfl rfl rfl ?_) | refine op (e_store 3 rfl rfl ts_72 rfl rfl rfl rfl rfl rfl ?_) | refine op (e_store 4 rfl rfl ts_72 rfl rfl rfl rfl rfl rfl ?_) | refine op (e_store 5 rfl rfl ts_72 rfl rfl rfl rfl rfl rfl ?_) | refine op (e_store 6 rfl rfl ts_72 rfl rfl rfl rfl rfl rfl ?_) | refine op (e_store 7 rfl rfl ts_72 rfl rfl rfl rfl rfl rfl ?_) | refine op (e_store 8 rfl rfl ts_72 rfl rfl rfl rfl rfl rfl ?_) | refine op (e_store 9 rfl rfl ts_72 rfl rfl rfl rfl rfl rfl ?_)
          refine nil ?_
          refine n_then ?_
          refine seq ?_
          refine region ?_
          refine op (y ((by first | exact x_loadOwn 0 _ ag_25 rfl rfl rfl rfl | exact x_loadOwn 1 _ ag_25 rfl rfl rfl rfl | exact x_loadOwn 2 _ ag_25 rfl rfl rfl rfl | exact x_loadOwn 3 _ ag_25 rfl rfl rfl rfl | exact x_loadOwn 4 _ ag_25 rfl rfl rfl rfl | exact x_loadOwn 5 _ ag_25 rfl rfl rfl rfl | exact x_loadOwn 6 _ ag_25 rfl rfl rfl rfl | exact x_loadOwn 7 _ ag_25 rfl rfl rfl rfl | exact x_loadOwn 8 _ ag_25 rfl rfl rfl rfl | exact x_loadOwn 9 _ ag_25 rfl rfl rfl rfl | exact x_loadOwn 10 _ ag_25 rfl rfl rfl rfl | exact x_loadOwn 11 _ ag_25 rfl rfl rfl rfl)) rfl ?_)
          refine op (y (x_makeFunc rfl rfl) rfl ?_)
          refine op (e_call rfl fn_38 rfl rfl (kept_c h A cA B cB _ _ (hh.mono hle15) hn1 hn2 45 [.pointer (some ⟨b12, 0, none⟩)] fn_45 (fun i _ => decide ((i : Int) ≠ dd.at_ ∧ (i : Int) ≠ dd.back)) (fun _ Lx => Lx = [(b12, Obj.cells (encDe dd).toArray 72 (0, 0))] :: [(b6, Obj.cells [Value.slice none 0 0, Value.slice none 0 0].toArray 25 (0, 0))] :: [(b3, Obj.cells [Value.slice A h.os.length cA, Value.slice B h.es.length cB].toArray 25 (0, 0))] :: L) (fun i e Lx L0 ro' _ _ hL => (Drop1_c i e dd b12 ro' (Lx ++ L0) (by rw [hL]; simp)).mono fun v ro2 L2 _ hp => ⟨hp.1, Lx, hL, hp.2⟩) rfl) fun v56 ro56 L56 hle56 hp56 => ?_)
          obtain ⟨A5, c5, B5, c6, R1, R2, Lx, rfl, hO1, hO2, hLx, rfl⟩ := hp56
          subst hLx
          refine ufreeze fun rz1 hz1 hzR1 => ?_
          refine ufreeze fun rz2 hz2 hzR2 => ?_
          have hS1 := (hO1.sl enc_ob hzR1).mono hz2
          have hS2 := hO2.sl enc_ev hzR2
          first | refine op (e_store 0 rfl rfl ts_25 rfl rfl rfl rfl rfl rfl ?_) | refine op (e_store 1 rfl rfl ts_25 rfl rfl rfl rfl rfl rfl ?_) | refine op (e_store 2 rfl rfl ts_25 rfl rfl rfl rfl rfl rfl ?_) | refine op (e_store 3 rfl rfl ts_25 rfl rfl rfl rfl rfl rfl ?_) | refine op (e_store 4 rfl rfl ts_25 rfl rfl rfl rfl rfl rfl ?_) | refine op (e_store 5 rfl rfl ts_25 rfl rfl rfl rfl rfl rfl ?_) | refine op (e_store 6 rfl rfl ts_25 rfl rfl rfl rfl rfl rfl ?_) | refine op (e_store 7 rfl rfl ts_25 rfl rfl rfl rfl rfl rfl ?_) | refine op (e_store 8 rfl rfl ts_25 rfl rfl rfl rfl rfl rfl ?_) | refine op (e_store 9 rfl rfl ts_25 rfl rfl rfl rfl rfl rfl ?_)
          refine op (y (x_assign rfl) rfl ?_)
          refine nil ?_
          refine n_then ?_
          refine ret ?_
          exact done rfl (Res.cellN ag_25 rfl rfl (CellsAt.own 1 0 2 _ rfl rfl) (.tmp rfl (.nil))) (hle15.trans (hle56.trans (hz1.trans hz2))) (L) (subF (by (repeat (first | exact List.Sublist.refl _ | apply List.Sublist.cons_cons | apply List.Sublist.cons)); done)) (⟨_, A5, c5, B5, c6, .nilIface, rfl, ⟨hS1, hS2⟩, rfl, .inl ⟨rfl, hmd.trans (by rw [if_pos (by omega), Int.toNat_natCast, hz])⟩⟩)

theorem Spare_c (h : Hi) (A : Option Addr) (cA : Nat) (B : Option Addr) (cB : Nat) (ro : Ro) (L : List (List Blk)) (hh : SH ro A cA B cB h) (hn1 : h.os.length ≤ 100) (hn2 : h.es.length ≤ 600) (hI : HI h) (er : Nat → Addr) (hG : Glob er ro) :
    CT Tryd.prog 29 [.agg [.slice A h.os.length cA, .slice B h.es.length cB].toArray].toArray ro L (PSpare h L) := by
  refine enter Tryd.func29 rfl Tryd.ntmps29 rfl ?_
  refine seq ?_
  refine region ?_
  refine op (e_box rfl rfl rfl fun b1 => ?_)
  refine op (e_alloc rfl zc_25 rfl fun b2 => ?_)
  refine op (y (x_assign rfl) rfl ?_)
  refine nil ?_
  refine n_then ?_
  refine seq ?_
  refine seq ?_
  refine region ?_
  refine op (y ((by first | exact x_loadOwn 0 _ ag_25 rfl rfl rfl rfl | exact x_loadOwn 1 _ ag_25 rfl rfl rfl rfl | exact x_loadOwn 2 _ ag_25 rfl rfl rfl rfl | exact x_loadOwn 3 _ ag_25 rfl rfl rfl rfl | exact x_loadOwn 4 _ ag_25 rfl rfl rfl rfl | exact x_loadOwn 5 _ ag_25 rfl rfl rfl rfl | exact x_loadOwn 6 _ ag_25 rfl rfl rfl rfl | exact x_loadOwn 7 _ ag_25 rfl rfl rfl rfl | exact x_loadOwn 8 _ ag_25 rfl rfl rfl rfl | exact x_loadOwn 9 _ ag_25 rfl rfl rfl rfl | exact x_loadOwn 10 _ ag_25 rfl rfl rfl rfl | exact x_loadOwn 11 _ ag_25 rfl rfl rfl rfl)) rfl ?_)
  refine op (e_call rfl fn_34 rfl rfl (Check_c h A cA B cB _ _ hh hn1 hn2 hI er hG) fun v9 ro9 L9 hle9 hp9 => ?_)
  obtain ⟨hev9, hi9, rfl⟩ := hp9
  refine op (y (x_assign rfl) rfl ?_)
  refine nil ?_
  refine n_then ?_
  refine seq ?_
  refine region ?_
  refine op (y (x_move rfl) rfl ?_)
  refine op (y (x_ifNeNil Tryd.underlying43 rfl (by assumption)) rfl ?_)
  refine nil ?_
  refine n_then ?_
  refine cond rfl (fun h2 => ?_) (fun h2 => ?_)
  · try simp only [decide_eq_true_eq, decide_eq_false_iff_not, beq_iff_eq, bne_iff_ne, ne_eq, beq_eq_false_iff_ne, bne_eq_false_iff_eq, Bool.not_eq_true', Bool.not_eq_false', Bool.not_eq_true, Bool.not_eq_false, Decidable.not_not, Int.not_lt, Int.not_le] at h2
    refine seq ?_
    have hno : takenM h = none := by cases hq : takenM h with | none => rfl | some s => (rw [hi9.2 (by rw [hq]; rfl)] at h2; cases h2)
    obtain ⟨tt, uu, rfl⟩ := ifv_some hev9 h2
    refine region ?_
    refine op (y (x_build bu_25 rfl rfl) rfl ?_)
    refine op (y (x_move rfl) rfl ?_)
    first | refine op (e_store 0 rfl rfl ts_25 rfl rfl rfl rfl rfl rfl ?_) | refine op (e_store 1 rfl rfl ts_25 rfl rfl rfl rfl rfl rfl ?_) | refine op (e_store 2 rfl rfl ts_25 rfl rfl rfl rfl rfl rfl ?_) | refine op (e_store 3 rfl rfl ts_25 rfl rfl rfl rfl rfl rfl ?_) | refine op (e_store 4 rfl rfl ts_25 rfl rfl rfl rfl rfl rfl ?_) | refine op (e_store 5 rfl rfl ts_25 rfl rfl rfl rfl rfl rfl ?_) | refine op (e_store 6 rfl rfl ts_25 rfl rfl rfl rfl rfl rfl ?_) | refine op (e_store 7 rfl rfl ts_25 rfl rfl rfl rfl rfl rfl ?_) | refine op (e_store 8 rfl rfl ts_25 rfl rfl rfl rfl rfl rfl ?_) | refine op (e_store 9 rfl rfl ts_25 rfl rfl rfl rfl rfl rfl ?_)
    refine op (y (x_assign rfl) rfl ?_)
    refine nil ?_
    refine n_then ?_
    refine ret ?_
    refine r_then ?_
    exact done rfl (Res.cellN ag_25 rfl rfl (CellsAt.own 0 0 2 _ rfl rfl) (.tmp rfl (.nil))) (hle9) ([] :: [] :: L) (⟨_, .refl _, by simp⟩) (⟨⟨[], []⟩, none, 0, none, 0, [], [], .iface tt uu, rfl, OwnS.none_ 31 2, OwnS.none_ 34 8, rfl, .inr ⟨⟨_, _, rfl⟩, hno, rfl⟩⟩)
  · try simp only [decide_eq_true_eq, decide_eq_false_iff_not, beq_iff_eq, bne_iff_ne, ne_eq, beq_eq_false_iff_ne, bne_eq_false_iff_eq, Bool.not_eq_true', Bool.not_eq_false', Bool.not_eq_true, Bool.not_eq_false, Decidable.not_not, Int.not_lt, Int.not_le] at h2
    refine skip ?_
    refine n_then ?_
    refine seq ?_
    have hs := hi9.1 h2
    have hv := takenM_hv hs
    have hml := manyN_le hv
    refine region ?_
    refine op (y (x_assign rfl) rfl ?_)
    refine nil ?_
    refine n_then ?_
    refine seq ?_
    refine seq ?_
    refine region ?_
    refine op (y (x_fieldAddr fo_25_1 rfl) rfl ?_)
    refine op (y (x_load1 ag_23 rfl (by first | assumption | exact Cell.own 0 rfl rfl | exact Cell.own 1 rfl rfl | exact Cell.own 2 rfl rfl | exact Cell.own 3 rfl rfl | exact Cell.own 4 rfl rfl | exact Cell.own 5 rfl rfl | exact Cell.own 6 rfl rfl | exact Cell.own 7 rfl rfl | exact Cell.own 8 rfl rfl | exact Cell.own 9 rfl rfl | exact Cell.ofRo (by assumption))) rfl ?_)
    refine op (y (x_lenSl sz_23 rfl) rfl ?_)
    refine op (y (x_move rfl) rfl ?_)
    refine nil ?_
    refine n_then ?_
    refine block ?_
    refine loop (fun m F ro' L' => ∃ (i : Nat) (mq : Nat), (m = h.es.length - i) ∧ (F = [(1, .pointer (some ⟨b1, 0, none⟩)), (2, .pointer (some ⟨b2, 0, none⟩)), (5, .int .i64 (mq : Nat)), (15, .slice B h.es.length cB), (16, .int .i64 (h.es.length : Nat)), (17, .int .i64 (i : Nat))]) ∧ (ro9 = ro') ∧ (L' = [(b2, Obj.cells [Value.slice none 0 0, Value.slice none 0 0].toArray 25 (0, 0))] :: [(b1, Obj.cells [Value.slice A h.os.length cA, Value.slice B h.es.length cB].toArray 25 (0, 0))] :: L) ∧ (i ≤ h.es.length) ∧ (mq = manyN (h.es.take i))) (h.es.length - 0) [(1, .pointer (some ⟨b1, 0, none⟩)), (2, .pointer (some ⟨b2, 0, none⟩)), (5, .int .i64 (0 : Nat)), (15, .slice B h.es.length cB), (16, .int .i64 (h.es.length : Nat)), (17, .int .i64 (0 : Nat))] ⟨rfl, rfl, rfl, rfl, rfl, rfl, trivial⟩ ⟨0, 0, rfl, rfl, rfl, rfl, by omega, rfl⟩ ?_
    rintro m F ro' L' ⟨i, mq, rfl, rfl, rfl, rfl, hi, hm⟩
    refine seq ?_
    refine region ?_
    refine op (y (x_lss rfl rfl) rfl ?_)
    refine nil ?_
    refine n_then ?_
    refine seq ?_
    refine cond rfl (fun h6 => ?_) (fun h6 => ?_)
    · try simp only [decide_eq_true_eq, decide_eq_false_iff_not, beq_iff_eq, bne_iff_ne, ne_eq, beq_eq_false_iff_ne, bne_eq_false_iff_eq, Bool.not_eq_true', Bool.not_eq_false', Bool.not_eq_true, Bool.not_eq_false, Decidable.not_not, Int.not_lt, Int.not_le] at h6
      refine skip ?_
      refine n_then ?_
      refine seq ?_
      refine block ?_
      refine seq ?_
      have hB := hh.e
      obtain ⟨bbx, offx, rfl, hcx⟩ := hB.at_ (i := i) (by omega)
      have hx := List.getElem?_eq_getElem (show i < h.es.length from by omega)
      have hm9 := hv.2.2.2 _ (List.mem_of_getElem? hx)
      have hmi := hml i
      refine region ?_
      refine op (y (x_indexNat sz_23 rfl rfl (by omega)) rfl ?_)
      refine op (y (x_loadN ag_34 rfl rfl (CellsAt.ofRo (fun j v hv => hle9.cell (hcx i _ hx j v hv)))) rfl ?_)
      refine op (e_alloc rfl zc_34 rfl fun b7 => ?_)
      first | refine op (e_store 0 rfl rfl ts_34 rfl rfl rfl rfl rfl rfl ?_) | refine op (e_store 1 rfl rfl ts_34 rfl rfl rfl rfl rfl rfl ?_) | refine op (e_store 2 rfl rfl ts_34 rfl rfl rfl rfl rfl rfl ?_) | refine op (e_store 3 rfl rfl ts_34 rfl rfl rfl rfl rfl rfl ?_) | refine op (e_store 4 rfl rfl ts_34 rfl rfl rfl rfl rfl rfl ?_) | refine op (e_store 5 rfl rfl ts_34 rfl rfl rfl rfl rfl rfl ?_) | refine op (e_store 6 rfl rfl ts_34 rfl rfl rfl rfl rfl rfl ?_) | refine op (e_store 7 rfl rfl ts_34 rfl rfl rfl rfl rfl rfl ?_) | refine op (e_store 8 rfl rfl ts_34 rfl rfl rfl rfl rfl rfl ?_) | refine op (e_store 9 rfl rfl ts_34 rfl rfl rfl rfl rfl rfl ?_)
      refine nil ?_
      refine n_then ?_
      refine seq ?_
      refine region ?_
      refine op (y (x_fieldAddr fo_34_0 rfl) rfl ?_)
      refine op (y (x_load1 ag_3 rfl (by first | assumption | exact Cell.own 0 rfl rfl | exact Cell.own 1 rfl rfl | exact Cell.own 2 rfl rfl | exact Cell.own 3 rfl rfl | exact Cell.own 4 rfl rfl | exact Cell.own 5 rfl rfl | exact Cell.own 6 rfl rfl | exact Cell.own 7 rfl rfl | exact Cell.own 8 rfl rfl | exact Cell.own 9 rfl rfl | exact Cell.ofRo (by assumption))) rfl ?_)
      refine op (y (x_eql rfl rfl) rfl ?_)
      refine nil ?_
      refine n_then ?_
      refine cond rfl (fun h8 => ?_) (fun h8 => ?_)
      · try simp only [decide_eq_true_eq, decide_eq_false_iff_not, beq_iff_eq, bne_iff_ne, ne_eq, beq_eq_false_iff_ne, bne_eq_false_iff_eq, Bool.not_eq_true', Bool.not_eq_false', Bool.not_eq_true, Bool.not_eq_false, Decidable.not_not, Int.not_lt, Int.not_le] at h8
        have hob := hm9.1.obj h8
        refine region ?_
        refine op (y (x_move rfl) rfl ?_)
        refine op (y (x_fieldAddr fo_34_3 rfl) rfl ?_)
        refine op (y (x_load1 ag_3 rfl (by first | assumption | exact Cell.own 0 rfl rfl | exact Cell.own 1 rfl rfl | exact Cell.own 2 rfl rfl | exact Cell.own 3 rfl rfl | exact Cell.own 4 rfl rfl | exact Cell.own 5 rfl rfl | exact Cell.own 6 rfl rfl | exact Cell.own 7 rfl rfl | exact Cell.own 8 rfl rfl | exact Cell.own 9 rfl rfl | exact Cell.ofRo (by assumption))) rfl ?_)
        refine op (y (x_add rfl rfl _ (wr (by show -9223372036854775808 ≤ (h.es[i]).obj + 1; omega) (by show (h.es[i]).obj + 1 ≤ 9223372036854775807; omega))) rfl ?_)
        refine op (y (x_max rfl rfl _ rfl) rfl ?_)
        refine said 28 (.int .i64 ((max mq ((h.es[i]).obj + 1).toNat : Nat) : Int)) rfl (by show Value.int .i64 (if (mq : Int) < (h.es[i]).obj + 1 then (h.es[i]).obj + 1 else (mq : Int)) = _; congr 1; split <;> omega) ?_
        refine op (y (x_assign rfl) rfl ?_)
        refine nil ?_
        refine n_in ?_
        refine n_then ?_
        refine region ?_
        refine op (y (x_add rfl rfl _ (wr (by omega) (by omega))) rfl ?_)
        refine op (y (x_move rfl) rfl ?_)
        refine nil ?_
        refine drop0 ?_
        first | exact round (h.es.length - (i + 1)) [(1, .pointer (some ⟨b1, 0, none⟩)), (2, .pointer (some ⟨b2, 0, none⟩)), (5, .int .i64 (_ : Nat)), (15, .slice _ h.es.length cB), (16, .int .i64 (h.es.length : Nat)), (17, .int .i64 ((i + 1) : Nat))] (by omega) ⟨rfl, rfl, rfl, rfl, rfl, rfl, trivial⟩ ⟨i + 1, _, rfl, rfl, rfl, rfl, by omega, by rw [manyN_snoc hx, if_pos h8, hm]⟩ | exact round (h.es.length - (i + 1)) [(1, .pointer (some ⟨b1, 0, none⟩)), (2, .pointer (some ⟨b2, 0, none⟩)), (5, .int .i64 (_ : Nat)), (15, .slice _ h.es.length cB), (16, .int .i64 (h.es.length : Nat)), (17, .int .i64 ((i + 1) : Nat))] (by omega) ⟨rfl, rfl, rfl, rfl, rfl, rfl, trivial⟩ ⟨i + 1, _, rfl, rfl, rfl, rfl, by omega, by rw [manyN_snoc hx, if_neg h8, hm]⟩
      · try simp only [decide_eq_true_eq, decide_eq_false_iff_not, beq_iff_eq, bne_iff_ne, ne_eq, beq_eq_false_iff_ne, bne_eq_false_iff_eq, Bool.not_eq_true', Bool.not_eq_false', Bool.not_eq_true, Bool.not_eq_false, Decidable.not_not, Int.not_lt, Int.not_le] at h8
        refine skip ?_
        refine n_in ?_
        refine n_then ?_
        refine region ?_
        refine op (y (x_add rfl rfl _ (wr (by omega) (by omega))) rfl ?_)
        refine op (y (x_move rfl) rfl ?_)
        refine nil ?_
        refine drop0 ?_
        first | exact round (h.es.length - (i + 1)) [(1, .pointer (some ⟨b1, 0, none⟩)), (2, .pointer (some ⟨b2, 0, none⟩)), (5, .int .i64 (_ : Nat)), (15, .slice _ h.es.length cB), (16, .int .i64 (h.es.length : Nat)), (17, .int .i64 ((i + 1) : Nat))] (by omega) ⟨rfl, rfl, rfl, rfl, rfl, rfl, trivial⟩ ⟨i + 1, _, rfl, rfl, rfl, rfl, by omega, by rw [manyN_snoc hx, if_pos h8, hm]⟩ | exact round (h.es.length - (i + 1)) [(1, .pointer (some ⟨b1, 0, none⟩)), (2, .pointer (some ⟨b2, 0, none⟩)), (5, .int .i64 (_ : Nat)), (15, .slice _ h.es.length cB), (16, .int .i64 (h.es.length : Nat)), (17, .int .i64 ((i + 1) : Nat))] (by omega) ⟨rfl, rfl, rfl, rfl, rfl, rfl, trivial⟩ ⟨i + 1, _, rfl, rfl, rfl, rfl, by omega, by rw [manyN_snoc hx, if_neg h8, hm]⟩
    · try simp only [decide_eq_true_eq, decide_eq_false_iff_not, beq_iff_eq, bne_iff_ne, ne_eq, beq_eq_false_iff_ne, bne_eq_false_iff_eq, Bool.not_eq_true', Bool.not_eq_false', Bool.not_eq_true, Bool.not_eq_false, Decidable.not_not, Int.not_lt, Int.not_le] at h6
      refine exit ?_
      refine e_then ?_
      refine e_then ?_
      refine e_in ?_
      refine n_then ?_
      refine seq ?_
      obtain rfl : i = h.es.length := by omega
      have hmo := hml h.es.length
      rw [List.take_length] at hm hmo
      rw [← hm] at hmo
      have hAc := hh.o.1
      refine region ?_
      refine op (y (x_fieldAddr fo_25_0 rfl) rfl ?_)
      refine op (y (x_load1 ag_22 rfl (by first | assumption | exact Cell.own 0 rfl rfl | exact Cell.own 1 rfl rfl | exact Cell.own 2 rfl rfl | exact Cell.own 3 rfl rfl | exact Cell.own 4 rfl rfl | exact Cell.own 5 rfl rfl | exact Cell.own 6 rfl rfl | exact Cell.own 7 rfl rfl | exact Cell.own 8 rfl rfl | exact Cell.own 9 rfl rfl | exact Cell.ofRo (by assumption))) rfl ?_)
      refine op (y (x_move rfl) rfl ?_)
      refine op (y (x_sliceHiN sz_22 rfl rfl (by omega)) rfl ?_)
      refine said 33 (.slice A (h.os.take mq).length cA) rfl (by rw [List.length_take, Nat.min_eq_left hmo]) ?_
      refine op (y (x_fieldAddr fo_25_0 rfl) rfl ?_)
      first | refine op (e_store 0 rfl rfl ts_22 rfl rfl rfl rfl rfl rfl ?_) | refine op (e_store 1 rfl rfl ts_22 rfl rfl rfl rfl rfl rfl ?_) | refine op (e_store 2 rfl rfl ts_22 rfl rfl rfl rfl rfl rfl ?_) | refine op (e_store 3 rfl rfl ts_22 rfl rfl rfl rfl rfl rfl ?_) | refine op (e_store 4 rfl rfl ts_22 rfl rfl rfl rfl rfl rfl ?_) | refine op (e_store 5 rfl rfl ts_22 rfl rfl rfl rfl rfl rfl ?_) | refine op (e_store 6 rfl rfl ts_22 rfl rfl rfl rfl rfl rfl ?_) | refine op (e_store 7 rfl rfl ts_22 rfl rfl rfl rfl rfl rfl ?_) | refine op (e_store 8 rfl rfl ts_22 rfl rfl rfl rfl rfl rfl ?_) | refine op (e_store 9 rfl rfl ts_22 rfl rfl rfl rfl rfl rfl ?_)
      refine nil ?_
      refine n_then ?_
      refine seq ?_
      refine region ?_
      refine op (y ((by first | exact x_loadOwn 0 _ ag_25 rfl rfl rfl rfl | exact x_loadOwn 1 _ ag_25 rfl rfl rfl rfl | exact x_loadOwn 2 _ ag_25 rfl rfl rfl rfl | exact x_loadOwn 3 _ ag_25 rfl rfl rfl rfl | exact x_loadOwn 4 _ ag_25 rfl rfl rfl rfl | exact x_loadOwn 5 _ ag_25 rfl rfl rfl rfl | exact x_loadOwn 6 _ ag_25 rfl rfl rfl rfl | exact x_loadOwn 7 _ ag_25 rfl rfl rfl rfl | exact x_loadOwn 8 _ ag_25 rfl rfl rfl rfl | exact x_loadOwn 9 _ ag_25 rfl rfl rfl rfl | exact x_loadOwn 10 _ ag_25 rfl rfl rfl rfl | exact x_loadOwn 11 _ ag_25 rfl rfl rfl rfl)) rfl ?_)
      refine op (e_call rfl fn_37 rfl rfl (Clone_o ⟨h.os.take mq, h.es⟩ A cA B cB _ _ ⟨(hh.o.take mq).mono hle9, hh.e.mono hle9⟩ (by simp; omega) hn2) fun v36 ro36 L36 hle36 hp36 => ?_)
      obtain ⟨A5, c5, B5, c6, R1, R2, rfl, hO1, hO2, rfl⟩ := hp36
      first | refine op (e_store 0 rfl rfl ts_25 rfl rfl rfl rfl rfl rfl ?_) | refine op (e_store 1 rfl rfl ts_25 rfl rfl rfl rfl rfl rfl ?_) | refine op (e_store 2 rfl rfl ts_25 rfl rfl rfl rfl rfl rfl ?_) | refine op (e_store 3 rfl rfl ts_25 rfl rfl rfl rfl rfl rfl ?_) | refine op (e_store 4 rfl rfl ts_25 rfl rfl rfl rfl rfl rfl ?_) | refine op (e_store 5 rfl rfl ts_25 rfl rfl rfl rfl rfl rfl ?_) | refine op (e_store 6 rfl rfl ts_25 rfl rfl rfl rfl rfl rfl ?_) | refine op (e_store 7 rfl rfl ts_25 rfl rfl rfl rfl rfl rfl ?_) | refine op (e_store 8 rfl rfl ts_25 rfl rfl rfl rfl rfl rfl ?_) | refine op (e_store 9 rfl rfl ts_25 rfl rfl rfl rfl rfl rfl ?_)
      refine op (y (x_assign rfl) rfl ?_)
      refine nil ?_
      refine n_then ?_
      refine ret ?_
      exact done rfl (Res.cellN ag_25 rfl rfl (CellsAt.own 2 0 2 _ rfl rfl) (.tmp rfl (.nil))) (hle9.trans hle36) (R1 :: R2 :: L) (subF (by (repeat (first | exact List.Sublist.refl _ | apply List.Sublist.cons_cons | apply List.Sublist.cons)); done)) (⟨⟨h.os.take mq, h.es⟩, A5, c5, B5, c6, R1, R2, .nilIface, rfl, hO1, hO2, rfl, .inl ⟨rfl, hs, by unfold spareH; rw [hm]⟩⟩)

theorem Comm1_c (tx : Int) (h : Hi) (sts : List St) (hsts : takenM h = some sts) (tgs : List TG) (tA : Option Addr) (tc : Nat) (hmp : tgs.map (·.tm) = sts.map (·.tx)) (b : Nat) (ro : Ro) (L : List (List Blk)) (hsl : Sl ro 7 encTG tA tc tgs) (hK : (b, Obj.cells [Value.slice tA tgs.length tc].toArray 55 (0, 0)) ∈ L.flatten) :
    CT Tryd.prog 49 [.int .i64 tx, .pointer (some ⟨b, 0, none⟩)].toArray ro L (fun v _ L' => v = .bool (match findM (sts.map (·.tx)) tx with
    | none => false
    | some i => match (sts.map (·.tx))[i]? with
      | none => false
      | some t => decide (t.status = 3)) ∧ L' = L) := by
  refine enter Tryd.func49 rfl Tryd.ntmps49 rfl ?_
  refine seq ?_
  refine region ?_
  refine op (y (x_assign rfl) rfl ?_)
  refine nil ?_
  refine n_then ?_
  refine seq ?_
  refine region ?_
  refine op (y (x_load1 ag_55 rfl (Cell.blk hK rfl)) rfl ?_)
  refine op (y (x_move rfl) rfl ?_)
  refine op (e_call rfl fn_44 rfl rfl (Find_c tgs tA tc tx _ _ hsl) fun v9 ro9 L9 hle9 hp9 => ?_)
  obtain ⟨rfl, rfl, rfl⟩ := hp9
  refine op (y (x_move rfl) rfl ?_)
  refine op (y (x_extract rfl rfl) rfl ?_)
  refine op (y (x_extract rfl rfl) rfl ?_)
  refine op (y (x_assign rfl) rfl ?_)
  refine op (y (x_assign rfl) rfl ?_)
  refine nil ?_
  refine n_then ?_
  refine seq ?_
  refine region ?_
  refine op (y (x_move rfl) rfl ?_)
  refine op (y (x_move rfl) rfl ?_)
  refine bsplit 13 rfl (fun g13 => ?_) (fun g13 => ?_)
  · try simp only [decide_eq_true_eq, decide_eq_false_iff_not, beq_iff_eq, bne_iff_ne, ne_eq, beq_eq_false_iff_ne, bne_eq_false_iff_eq, Bool.not_eq_true', Bool.not_eq_false', Bool.not_eq_true, Bool.not_eq_false, Decidable.not_not, Int.not_lt, Int.not_le] at g13
    obtain ⟨i, hfi⟩ : ∃ i, findM (tgs.map (·.tm)) tx = some i := by cases hf : findM (tgs.map (·.tm)) tx with | none => (rw [hf] at g13; cases g13) | some i => exact ⟨i, rfl⟩
    have hfi2 : findM (sts.map (·.tx)) tx = some i := by rw [← hmp]; exact hfi
    have hil : i < tgs.length := by have := findM_lt hfi; simpa using this
    refine said 4 (.int .i64 ((i : Nat) : Int)) rfl (by show Value.int .i64 (((findM (tgs.map (·.tm)) tx).getD 0 : Nat) : Int) = _; rw [hfi]; rfl) ?_
    obtain ⟨bbx, offx, rfl, hcx⟩ := hsl.at_ (i := i) (by omega)
    have hx := List.getElem?_eq_getElem (show i < tgs.length from by omega)
    have hit : (sts.map (·.tx))[i]? = some (tgs[i]).tm := by rw [← hmp, List.getElem?_map, hx]; rfl
    refine opG rfl rfl (y (x_load1 ag_55 rfl (Cell.blk hK rfl)) rfl ?_)
    refine opG rfl rfl (y (x_move rfl) rfl ?_)
    refine opG rfl rfl (y (x_indexNat sz_55 rfl rfl (hil)) rfl ?_)
    refine opG rfl rfl (y (x_fieldAddr fo_61_2 rfl) rfl ?_)
    refine opG rfl rfl (y (x_load1 ag_3 rfl (Cell.ofRo (hcx i _ hx 2 _ rfl))) rfl ?_)
    refine opG rfl rfl (y (x_eql rfl rfl) rfl ?_)
    refine op (y (x_pickT rfl rfl) rfl ?_)
    refine op (y (x_assign rfl) rfl ?_)
    refine nil ?_
    refine n_then ?_
    refine ret ?_
    first | exact done rfl (.tmp rfl (.nil)) (Ro.le.refl _) (L) (subF (by (repeat (first | exact List.Sublist.refl _ | apply List.Sublist.cons_cons | apply List.Sublist.cons)); done)) (⟨by rw [hfi2]; simp only; rw [hit]; simp [tupled, beq_dec], rfl⟩) | exact done rfl (.tmp rfl (.nil)) (Ro.le.refl _) (L) (subF (by (repeat (first | exact List.Sublist.refl _ | apply List.Sublist.cons_cons | apply List.Sublist.cons)); done)) (⟨by rw [show findM (sts.map (·.tx)) tx = none from by rw [← hmp]; cases hf : findM (tgs.map (·.tm)) tx with | none => rfl | some i => (rw [hf] at g13; cases g13)]; rfl, rfl⟩)
  · try simp only [decide_eq_true_eq, decide_eq_false_iff_not, beq_iff_eq, bne_iff_ne, ne_eq, beq_eq_false_iff_ne, bne_eq_false_iff_eq, Bool.not_eq_true', Bool.not_eq_false', Bool.not_eq_true, Bool.not_eq_false, Decidable.not_not, Int.not_lt, Int.not_le] at g13
    refine opN rfl rfl rfl rfl ?_
    refine opN rfl rfl rfl rfl ?_
    refine opN rfl rfl rfl rfl ?_
    refine opN rfl rfl rfl rfl ?_
    refine opN rfl rfl rfl rfl ?_
    refine opN rfl rfl rfl rfl ?_
    refine op (y (x_pickF rfl rfl) rfl ?_)
    refine op (y (x_assign rfl) rfl ?_)
    refine nil ?_
    refine n_then ?_
    refine ret ?_
    first | exact done rfl (.tmp rfl (.nil)) (Ro.le.refl _) (L) (subF (by (repeat (first | exact List.Sublist.refl _ | apply List.Sublist.cons_cons | apply List.Sublist.cons)); done)) (⟨by rw [hfi2]; simp only; rw [hit]; simp [tupled, beq_dec], rfl⟩) | exact done rfl (.tmp rfl (.nil)) (Ro.le.refl _) (L) (subF (by (repeat (first | exact List.Sublist.refl _ | apply List.Sublist.cons_cons | apply List.Sublist.cons)); done)) (⟨by rw [show findM (sts.map (·.tx)) tx = none from by rw [← hmp]; cases hf : findM (tgs.map (·.tm)) tx with | none => rfl | some i => (rw [hf] at g13; cases g13)]; rfl, rfl⟩)

theorem Committed_c (h : Hi) (A : Option Addr) (cA : Nat) (B : Option Addr) (cB : Nat) (ro : Ro) (L : List (List Blk)) (hh : SH ro A cA B cB h) (hn1 : h.os.length ≤ 100) (hn2 : h.es.length ≤ 600) (hI : HI h) (er : Nat → Addr) (hG : Glob er ro) :
    CT Tryd.prog 33 [.agg [.slice A h.os.length cA, .slice B h.es.length cB].toArray].toArray ro L (PComm h L) := by
  refine enter Tryd.func33 rfl Tryd.ntmps33 rfl ?_
  refine seq ?_
  refine region ?_
  refine op (e_box rfl rfl rfl fun b1 => ?_)
  refine op (e_alloc rfl zc_25 rfl fun b2 => ?_)
  refine op (y (x_assign rfl) rfl ?_)
  refine nil ?_
  refine n_then ?_
  refine seq ?_
  refine region ?_
  refine op (y ((by first | exact x_loadOwn 0 _ ag_25 rfl rfl rfl rfl | exact x_loadOwn 1 _ ag_25 rfl rfl rfl rfl | exact x_loadOwn 2 _ ag_25 rfl rfl rfl rfl | exact x_loadOwn 3 _ ag_25 rfl rfl rfl rfl | exact x_loadOwn 4 _ ag_25 rfl rfl rfl rfl | exact x_loadOwn 5 _ ag_25 rfl rfl rfl rfl | exact x_loadOwn 6 _ ag_25 rfl rfl rfl rfl | exact x_loadOwn 7 _ ag_25 rfl rfl rfl rfl | exact x_loadOwn 8 _ ag_25 rfl rfl rfl rfl | exact x_loadOwn 9 _ ag_25 rfl rfl rfl rfl | exact x_loadOwn 10 _ ag_25 rfl rfl rfl rfl | exact x_loadOwn 11 _ ag_25 rfl rfl rfl rfl)) rfl ?_)
  refine op (e_call rfl fn_32 rfl rfl (Table_c h A cA B cB _ _ hh hn1 hn2 hI er hG) fun v8 ro8 L8 hle8 hp8 => ?_)
  obtain ⟨tA, tc, tgs, ev8, rfl, hev8, hcase8, rfl⟩ := hp8
  refine op (y (x_move rfl) rfl ?_)
  refine op (y (x_extract rfl rfl) rfl ?_)
  refine op (y (x_extract rfl rfl) rfl ?_)
  refine op (e_alloc rfl zc_55 rfl fun b4 => ?_)
  first | refine op (e_store 0 rfl rfl ts_55 rfl rfl rfl rfl rfl rfl ?_) | refine op (e_store 1 rfl rfl ts_55 rfl rfl rfl rfl rfl rfl ?_) | refine op (e_store 2 rfl rfl ts_55 rfl rfl rfl rfl rfl rfl ?_) | refine op (e_store 3 rfl rfl ts_55 rfl rfl rfl rfl rfl rfl ?_) | refine op (e_store 4 rfl rfl ts_55 rfl rfl rfl rfl rfl rfl ?_) | refine op (e_store 5 rfl rfl ts_55 rfl rfl rfl rfl rfl rfl ?_) | refine op (e_store 6 rfl rfl ts_55 rfl rfl rfl rfl rfl rfl ?_) | refine op (e_store 7 rfl rfl ts_55 rfl rfl rfl rfl rfl rfl ?_) | refine op (e_store 8 rfl rfl ts_55 rfl rfl rfl rfl rfl rfl ?_) | refine op (e_store 9 rfl rfl ts_55 rfl rfl rfl rfl rfl rfl ?_)
  refine op (y (x_assign rfl) rfl ?_)
  refine nil ?_
  refine n_then ?_
  refine seq ?_
  refine seq ?_
  refine region ?_
  refine op (y (x_move rfl) rfl ?_)
  refine op (y (x_ifNeNil Tryd.underlying43 rfl (by assumption)) rfl ?_)
  refine nil ?_
  refine n_then ?_
  refine cond rfl (fun h2 => ?_) (fun h2 => ?_)
  · try simp only [decide_eq_true_eq, decide_eq_false_iff_not, beq_iff_eq, bne_iff_ne, ne_eq, beq_eq_false_iff_ne, bne_eq_false_iff_eq, Bool.not_eq_true', Bool.not_eq_false', Bool.not_eq_true, Bool.not_eq_false, Decidable.not_not, Int.not_lt, Int.not_le] at h2
    refine seq ?_
    change isNilI ev8 = false at h2
    rcases hcase8 with ⟨hx, _⟩ | ⟨_, hno, rfl⟩
    · rw [hx] at h2; cases h2
    obtain ⟨tt, uu, rfl⟩ := ifv_some hev8 h2
    refine region ?_
    refine op (y (x_build bu_25 rfl rfl) rfl ?_)
    refine op (y (x_move rfl) rfl ?_)
    first | refine op (e_store 0 rfl rfl ts_25 rfl rfl rfl rfl rfl rfl ?_) | refine op (e_store 1 rfl rfl ts_25 rfl rfl rfl rfl rfl rfl ?_) | refine op (e_store 2 rfl rfl ts_25 rfl rfl rfl rfl rfl rfl ?_) | refine op (e_store 3 rfl rfl ts_25 rfl rfl rfl rfl rfl rfl ?_) | refine op (e_store 4 rfl rfl ts_25 rfl rfl rfl rfl rfl rfl ?_) | refine op (e_store 5 rfl rfl ts_25 rfl rfl rfl rfl rfl rfl ?_) | refine op (e_store 6 rfl rfl ts_25 rfl rfl rfl rfl rfl rfl ?_) | refine op (e_store 7 rfl rfl ts_25 rfl rfl rfl rfl rfl rfl ?_) | refine op (e_store 8 rfl rfl ts_25 rfl rfl rfl rfl rfl rfl ?_) | refine op (e_store 9 rfl rfl ts_25 rfl rfl rfl rfl rfl rfl ?_)
    refine op (y (x_assign rfl) rfl ?_)
    refine nil ?_
    refine n_then ?_
    refine ret ?_
    refine r_then ?_
    exact done rfl (Res.cellN ag_25 rfl rfl (CellsAt.own 1 0 2 _ rfl rfl) (.tmp rfl (.nil))) (hle8) (L) (subF (by (repeat (first | exact List.Sublist.refl _ | apply List.Sublist.cons_cons | apply List.Sublist.cons)); done)) (⟨⟨[], []⟩, none, 0, none, 0, .iface tt uu, rfl, sh_nil, rfl, .inr ⟨⟨_, _, rfl⟩, by unfold commM; rw [hno], rfl⟩⟩)
  · try simp only [decide_eq_true_eq, decide_eq_false_iff_not, beq_iff_eq, bne_iff_ne, ne_eq, beq_eq_false_iff_ne, bne_eq_false_iff_eq, Bool.not_eq_true', Bool.not_eq_false', Bool.not_eq_true, Bool.not_eq_false, Decidable.not_not, Int.not_lt, Int.not_le] at h2
    refine skip ?_
    refine n_then ?_
    refine seq ?_
    change isNilI ev8 = true at h2
    rcases hcase8.symm with ⟨hx, _⟩ | ⟨_, ⟨sts, hsts, hmp⟩, hSt⟩
    · rw [hx] at h2; cases h2
    refine region ?_
    refine op (y ((by first | exact x_loadOwn 0 _ ag_25 rfl rfl rfl rfl | exact x_loadOwn 1 _ ag_25 rfl rfl rfl rfl | exact x_loadOwn 2 _ ag_25 rfl rfl rfl rfl | exact x_loadOwn 3 _ ag_25 rfl rfl rfl rfl | exact x_loadOwn 4 _ ag_25 rfl rfl rfl rfl | exact x_loadOwn 5 _ ag_25 rfl rfl rfl rfl | exact x_loadOwn 6 _ ag_25 rfl rfl rfl rfl | exact x_loadOwn 7 _ ag_25 rfl rfl rfl rfl | exact x_loadOwn 8 _ ag_25 rfl rfl rfl rfl | exact x_loadOwn 9 _ ag_25 rfl rfl rfl rfl | exact x_loadOwn 10 _ ag_25 rfl rfl rfl rfl | exact x_loadOwn 11 _ ag_25 rfl rfl rfl rfl)) rfl ?_)
    refine op (y (x_makeFunc rfl rfl) rfl ?_)
    refine op (e_call rfl fn_17 rfl rfl (Only_c h A cA B cB _ _ (hh.mono hle8) hn1 hn2 49 [.pointer (some ⟨b4, 0, none⟩)] fn_49 (fun tx => match findM (sts.map (·.tx)) tx with | none => false | some i => match (sts.map (·.tx))[i]? with | none => false | some t => decide (t.status = 3)) (fun _ Lx => Lx = [(b4, Obj.cells [Value.slice tA tgs.length tc].toArray 55 (0, 0))] :: [(b2, Obj.cells [Value.slice none 0 0, Value.slice none 0 0].toArray 25 (0, 0))] :: [(b1, Obj.cells [Value.slice A h.os.length cA, Value.slice B h.es.length cB].toArray 25 (0, 0))] :: L) (fun i e Lx L0 ro' hro _ hL => (Comm1_c e.tx h sts hsts tgs tA tc hmp b4 ro' (Lx ++ L0) (hSt.sl.mono hro) (by rw [hL]; simp)).mono fun v ro2 L2 _ hp => ⟨hp.1, Lx, hL, hp.2⟩) rfl) fun v17 ro17 L17 hle17 hp17 => ?_)
    obtain ⟨A5, c5, B5, c6, R1, R2, Lx, rfl, hO1, hO2, hLx, rfl⟩ := hp17
    subst hLx
    refine ufreeze fun rz1 hz1 hzR1 => ?_
    refine ufreeze fun rz2 hz2 hzR2 => ?_
    have hS1 := (hO1.sl enc_ob hzR1).mono hz2
    have hS2 := hO2.sl enc_ev hzR2
    first | refine op (e_store 0 rfl rfl ts_25 rfl rfl rfl rfl rfl rfl ?_) | refine op (e_store 1 rfl rfl ts_25 rfl rfl rfl rfl rfl rfl ?_) | refine op (e_store 2 rfl rfl ts_25 rfl rfl rfl rfl rfl rfl ?_) | refine op (e_store 3 rfl rfl ts_25 rfl rfl rfl rfl rfl rfl ?_) | refine op (e_store 4 rfl rfl ts_25 rfl rfl rfl rfl rfl rfl ?_) | refine op (e_store 5 rfl rfl ts_25 rfl rfl rfl rfl rfl rfl ?_) | refine op (e_store 6 rfl rfl ts_25 rfl rfl rfl rfl rfl rfl ?_) | refine op (e_store 7 rfl rfl ts_25 rfl rfl rfl rfl rfl rfl ?_) | refine op (e_store 8 rfl rfl ts_25 rfl rfl rfl rfl rfl rfl ?_) | refine op (e_store 9 rfl rfl ts_25 rfl rfl rfl rfl rfl rfl ?_)
    refine op (y (x_assign rfl) rfl ?_)
    refine nil ?_
    refine n_then ?_
    refine ret ?_
    exact done rfl (Res.cellN ag_25 rfl rfl (CellsAt.own 1 0 2 _ rfl rfl) (.tmp rfl (.nil))) (hle8.trans (hle17.trans (hz1.trans hz2))) (L) (subF (by (repeat (first | exact List.Sublist.refl _ | apply List.Sublist.cons_cons | apply List.Sublist.cons)); done)) (⟨_, A5, c5, B5, c6, .nilIface, rfl, ⟨hS1, hS2⟩, rfl, .inl ⟨rfl, by unfold commM; rw [hsts]⟩⟩)

end Go.Proofs.YtijafcilfefafaaDoor
