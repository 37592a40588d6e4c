/- The walk of CutMakes. -/
import Derived.Test.YtijafcilfefafaaDoorV20
namespace Go.Proofs.YtijafcilfefafaaDoor
open Go Go.U
set_option maxRecDepth 20000
set_option linter.unusedSimpArgs false
set_option linter.unusedVariables false

theorem CutMakes1_c (id : Int) (la : List Int) (Aa : Option Addr) (ca : Nat) (Ra : List Blk) (hO : OwnS 3 1 Aa la.length ca (la.flatMap encInt) Ra) (hla : la.length ≤ 600) (b17 b9 : Nat) (sm : List Int) (T : Option Addr) (cT : Nat) (ro : Ro) (ht : Sl ro 1 encInt T cT sm) (hsm : sm.length ≤ 50) (Rest : List (List Blk)) (hK : (b9, Obj.cells [Value.slice T sm.length cT].toArray 26 (0, 0)) ∈ Rest.flatten) :
    CT Tryd.prog 18 [.int .i64 id, .pointer (some ⟨b17, 0, none⟩), .pointer (some ⟨b9, 0, none⟩)].toArray ro (Ra :: [(b17, Obj.cells [Value.slice Aa la.length ca].toArray 26 (0, 0))] :: Rest)
      (fun v _ L' => v = .bool (decide (id ∈ sm)) ∧ ∃ (A' : Option Addr) (c' : Nat) (R' : List Blk), OwnS 3 1 A' (la ++ [id]).length c' ((la ++ [id]).flatMap encInt) R' ∧ L' = R' :: [(b17, Obj.cells [Value.slice A' (la ++ [id]).length c'].toArray 26 (0, 0))] :: Rest) := by
  refine enter Tryd.func18 rfl Tryd.ntmps18 rfl ?_
  refine seq ?_
  refine region ?_
  refine op (y (x_assign rfl) rfl ?_)
  refine nil ?_
  refine n_then ?_
  refine seq ?_
  refine region ?_
  refine op (y (x_load1 ag_26 rfl (by first | assumption | exact Cell.own 0 rfl rfl | exact Cell.own 1 rfl rfl | exact Cell.own 2 rfl rfl | exact Cell.own 3 rfl rfl | exact Cell.own 4 rfl rfl | exact Cell.own 5 rfl rfl | exact Cell.own 6 rfl rfl | exact Cell.own 7 rfl rfl | exact Cell.own 8 rfl rfl | exact Cell.own 9 rfl rfl | exact Cell.ofRo (by assumption))) rfl ?_)
  refine op (y (x_move rfl) rfl ?_)
  refine op (e_slice1 rfl Tryd.underlying26 ti_3 rfl rfl (by decide) (by decide) rfl rfl rfl fun b8 => ?_)
  refine op (e_append1 0 rfl st_26 rfl rfl rfl hO rfl rfl (by omega) (by omega) (fun _ => rfl) fun A9 cap9 R9 hO9 => ?_)
  first | refine op (e_store 0 rfl rfl ts_26 rfl rfl rfl rfl rfl rfl ?_) | refine op (e_store 1 rfl rfl ts_26 rfl rfl rfl rfl rfl rfl ?_) | refine op (e_store 2 rfl rfl ts_26 rfl rfl rfl rfl rfl rfl ?_) | refine op (e_store 3 rfl rfl ts_26 rfl rfl rfl rfl rfl rfl ?_) | refine op (e_store 4 rfl rfl ts_26 rfl rfl rfl rfl rfl rfl ?_) | refine op (e_store 5 rfl rfl ts_26 rfl rfl rfl rfl rfl rfl ?_) | refine op (e_store 6 rfl rfl ts_26 rfl rfl rfl rfl rfl rfl ?_) | refine op (e_store 7 rfl rfl ts_26 rfl rfl rfl rfl rfl rfl ?_) | refine op (e_store 8 rfl rfl ts_26 rfl rfl rfl rfl rfl rfl ?_) | refine op (e_store 9 rfl rfl ts_26 rfl rfl rfl rfl rfl rfl ?_)
  refine nil ?_
  refine n_then ?_
  refine seq ?_
  refine seq ?_
  refine region ?_
  refine op (y (x_assign rfl) rfl ?_)
  refine nil ?_
  refine n_then ?_
  refine block ?_
  have hO2 : OwnS 3 1 A9 (la ++ [id]).length cap9 ((la ++ [id]).flatMap encInt) R9 := (hO9.snoc (enc := encInt)).cast (by simp) rfl
  refine loop (fun m F ro' L' => ∃ (i : Nat), (m = sm.length - i) ∧ (F = [(0, .int .i64 id), (2, .pointer (some ⟨b9, 0, none⟩)), (5, .int .i64 (i : Nat))]) ∧ (ro = ro') ∧ (L' = R9 :: [(b17, Obj.cells [Value.slice A9 (la.length + 1) cap9].toArray 26 (0, 0))] :: Rest) ∧ (i ≤ sm.length) ∧ (∀ j : Nat, j < i → sm[j]? ≠ some id)) (sm.length - 0) [(0, .int .i64 id), (2, .pointer (some ⟨b9, 0, none⟩)), (5, .int .i64 (0 : Nat))] ⟨rfl, rfl, rfl, trivial⟩ ⟨0, rfl, rfl, rfl, rfl, by omega, by omega⟩ ?_
  rintro m F ro' L' ⟨i, rfl, rfl, rfl, rfl, hi, hall⟩
  refine seq ?_
  refine seq ?_
  refine region ?_
  refine op (y (x_move rfl) rfl ?_)
  refine op (y (x_load1 ag_26 rfl (Cell.blk (mem1 (mem1 hK)) rfl)) rfl ?_)
  refine op (y (x_lenSl sz_26 rfl) rfl ?_)
  refine op (y (x_lss rfl rfl) rfl ?_)
  refine nil ?_
  refine n_then ?_
  refine cond rfl (fun h3 => ?_) (fun h3 => ?_)
  · try simp only [decide_eq_true_eq, decide_eq_false_iff_not, beq_iff_eq, bne_iff_ne, ne_eq, beq_eq_false_iff_ne, bne_eq_false_iff_eq, Bool.not_eq_true', Bool.not_eq_false', Bool.not_eq_true, Bool.not_eq_false, Decidable.not_not, Int.not_lt, Int.not_le] at h3
    refine skip ?_
    refine n_then ?_
    refine seq ?_
    refine block ?_
    refine seq ?_
    obtain ⟨bbx, offx, rfl, hcx⟩ := ht.at_ (i := i) (by omega)
    have hx := List.getElem?_eq_getElem (show i < sm.length from by omega)
    have cx0 := hcx i _ hx 0 _ rfl
    refine region ?_
    refine op (y (x_load1 ag_26 rfl (Cell.blk (mem1 (mem1 hK)) rfl)) rfl ?_)
    refine op (y (x_move rfl) rfl ?_)
    refine op (y (x_indexNat sz_26 rfl rfl (by omega)) rfl ?_)
    refine op (y (x_load1 ag_3 rfl (by first | assumption | exact Cell.own 0 rfl rfl | exact Cell.own 1 rfl rfl | exact Cell.own 2 rfl rfl | exact Cell.own 3 rfl rfl | exact Cell.own 4 rfl rfl | exact Cell.own 5 rfl rfl | exact Cell.own 6 rfl rfl | exact Cell.own 7 rfl rfl | exact Cell.own 8 rfl rfl | exact Cell.own 9 rfl rfl | exact Cell.ofRo (by assumption))) rfl ?_)
    refine op (y (x_move rfl) rfl ?_)
    refine op (y (x_eql rfl rfl) rfl ?_)
    refine nil ?_
    refine n_then ?_
    refine cond rfl (fun h5 => ?_) (fun h5 => ?_)
    · try simp only [decide_eq_true_eq, decide_eq_false_iff_not, beq_iff_eq, bne_iff_ne, ne_eq, beq_eq_false_iff_ne, bne_eq_false_iff_eq, Bool.not_eq_true', Bool.not_eq_false', Bool.not_eq_true, Bool.not_eq_false, Decidable.not_not, Int.not_lt, Int.not_le] at h5
      refine seq ?_
      refine region ?_
      refine op (y (x_assign rfl) rfl ?_)
      refine nil ?_
      refine n_then ?_
      refine ret ?_
      refine r_in ?_
      refine r_then ?_
      refine r_then ?_
      refine r_in ?_
      refine r_then ?_
      exact done rfl (.tmp rfl (.nil)) (Ro.le.refl _) (R9 :: [(b17, Obj.cells [Value.slice A9 (la.length + 1) cap9].toArray 26 (0, 0))] :: Rest) (subF (by (repeat (first | exact List.Sublist.refl _ | apply List.Sublist.cons_cons | apply List.Sublist.cons)); done)) (⟨by rw [decide_eq_true]; rfl; exact List.mem_of_getElem? (i := i) (by rw [hx, h5]), A9, cap9, R9, hO2, by simp⟩)
    · try simp only [decide_eq_true_eq, decide_eq_false_iff_not, beq_iff_eq, bne_iff_ne, ne_eq, beq_eq_false_iff_ne, bne_eq_false_iff_eq, Bool.not_eq_true', Bool.not_eq_false', Bool.not_eq_true, Bool.not_eq_false, Decidable.not_not, Int.not_lt, Int.not_le] at h5
      refine skip ?_
      refine n_in ?_
      refine n_then ?_
      refine region ?_
      refine op (y (x_move rfl) rfl ?_)
      refine op (y (x_add rfl rfl _ (wr (by omega) (by omega))) rfl ?_)
      refine op (y (x_assign rfl) rfl ?_)
      refine nil ?_
      exact round (sm.length - (i + 1)) [(0, .int .i64 id), (2, .pointer (some ⟨b9, 0, none⟩)), (5, .int .i64 ((i + 1) : Nat))] (by omega) ⟨rfl, rfl, rfl, trivial⟩ ⟨i + 1, rfl, rfl, rfl, rfl, by omega, upto (p := fun j => sm[j]? ≠ some id) hall (fun e => h5 (by rw [hx] at e; simpa using e))⟩
  · try simp only [decide_eq_true_eq, decide_eq_false_iff_not, beq_iff_eq, bne_iff_ne, ne_eq, beq_eq_false_iff_ne, bne_eq_false_iff_eq, Bool.not_eq_true', Bool.not_eq_false', Bool.not_eq_true, Bool.not_eq_false, Decidable.not_not, Int.not_lt, Int.not_le] at h3
    refine exit ?_
    refine e_then ?_
    refine e_then ?_
    refine e_in ?_
    refine n_then ?_
    refine seq ?_
    refine region ?_
    refine op (y (x_assign rfl) rfl ?_)
    refine nil ?_
    refine n_then ?_
    refine ret ?_
    exact done rfl (.tmp rfl (.nil)) (Ro.le.refl _) (R9 :: [(b17, Obj.cells [Value.slice A9 (la.length + 1) cap9].toArray 26 (0, 0))] :: Rest) (subF (by (repeat (first | exact List.Sublist.refl _ | apply List.Sublist.cons_cons | apply List.Sublist.cons)); done)) (⟨by rw [decide_eq_false]; rfl; exact not_mem_of (fun j hj => hall j (by omega)), A9, cap9, R9, hO2, by simp⟩)

def evTx (e : Ev) : Int := e.tx
theorem map_take_snoc {l : List Ev} {k : Nat} {e : Ev} (h : l[k]? = some e) : (l.take (k + 1)).map evTx = (l.take k).map evTx ++ [e.tx] := by rw [take_snoc' h, List.map_append]; rfl

theorem CutMakes_c (h : Hi) (A : Option Addr) (cA : Nat) (B : Option Addr) (cB : Nat) (k : Hi) (A2 : Option Addr) (cA2 : Nat) (B2 : Option Addr) (cB2 : Nat) (n tx : Int) (sm : List Int) (T : Option Addr) (cT : Nat) (ro : Ro) (L : List (List Blk)) (hh : SH ro A cA B cB h) (hk : SH ro A2 cA2 B2 cB2 k) (ht : Sl ro 1 encInt T cT sm) (er : Nat → Addr) (hG : Glob er ro) :
    CT Tryd.prog 3 [.agg [.slice A h.os.length cA, .slice B h.es.length cB].toArray, .agg [.slice A2 k.os.length cA2, .slice B2 k.es.length cB2].toArray, .int .i64 n, .int .i64 tx, .slice T sm.length cT].toArray ro L (PV (.bool true) L) := by
  refine enter Tryd.func3 rfl Tryd.ntmps3 rfl ?_
  refine seq ?_
  refine region ?_
  refine op (e_box rfl rfl rfl fun b5 => ?_)
  refine op (e_box rfl rfl rfl fun b6 => ?_)
  refine op (e_box rfl rfl rfl fun b9 => ?_)
  refine op (y (x_assign rfl) rfl ?_)
  refine nil ?_
  refine n_then ?_
  refine seq ?_
  refine region ?_
  refine op (e_call rfl fn_8 rfl rfl (first_c er _ _ hG) fun v23 ro23 L23 hle23 hp23 => ?_)
  obtain ⟨rfl, rfl⟩ := hp23
  refine op (y (x_assign rfl) rfl ?_)
  refine nil ?_
  refine n_then ?_
  refine seq ?_
  refine seq ?_
  refine region ?_
  refine op (y (x_move rfl) rfl ?_)
  refine op (y (x_not rfl) rfl ?_)
  refine nil ?_
  refine n_then ?_
  refine condF rfl ?_
  refine skip ?_
  refine n_then ?_
  refine seq ?_
  refine seq ?_
  refine region ?_
  refine op (y ((by first | exact x_loadOwn 0 _ ag_25 rfl rfl rfl rfl | exact x_loadOwn 1 _ ag_25 rfl rfl rfl rfl | exact x_loadOwn 2 _ ag_25 rfl rfl rfl rfl | exact x_loadOwn 3 _ ag_25 rfl rfl rfl rfl | exact x_loadOwn 4 _ ag_25 rfl rfl rfl rfl | exact x_loadOwn 5 _ ag_25 rfl rfl rfl rfl | exact x_loadOwn 6 _ ag_25 rfl rfl rfl rfl | exact x_loadOwn 7 _ ag_25 rfl rfl rfl rfl | exact x_loadOwn 8 _ ag_25 rfl rfl rfl rfl | exact x_loadOwn 9 _ ag_25 rfl rfl rfl rfl | exact x_loadOwn 10 _ ag_25 rfl rfl rfl rfl | exact x_loadOwn 11 _ ag_25 rfl rfl rfl rfl)) rfl ?_)
  refine op (e_call rfl fn_9 rfl rfl (small_c h A cA B cB _ _ (hh.mono hle23)) fun v27 ro27 L27 hle27 hp27 => ?_)
  obtain ⟨rfl, rfl, rfl⟩ := hp27
  refine op (y (x_not rfl) rfl ?_)
  refine op (y (x_move rfl) rfl ?_)
  refine bsplit 29 rfl (fun g29 => ?_) (fun g29 => ?_)
  · try simp only [decide_eq_true_eq, decide_eq_false_iff_not, beq_iff_eq, bne_iff_ne, ne_eq, beq_eq_false_iff_ne, bne_eq_false_iff_eq, Bool.not_eq_true', Bool.not_eq_false', Bool.not_eq_true, Bool.not_eq_false, Decidable.not_not, Int.not_lt, Int.not_le] at g29
    refine opN rfl rfl rfl rfl ?_
    refine opN rfl rfl rfl rfl ?_
    refine opN rfl rfl rfl rfl ?_
    refine op (y (x_pickT rfl rfl) rfl ?_)
    refine op (y (x_move rfl) rfl ?_)
    refine opN rfl rfl rfl rfl ?_
    refine opN rfl rfl rfl rfl ?_
    refine opN rfl rfl rfl rfl ?_
    refine op (y (x_pickT rfl rfl) rfl ?_)
    refine op (y (x_move rfl) rfl ?_)
    refine opN rfl rfl rfl rfl ?_
    refine opN rfl rfl rfl rfl ?_
    refine op (y (x_pickT rfl rfl) rfl ?_)
    refine nil ?_
    refine n_then ?_
    refine condT rfl ?_
    refine seq ?_
    refine region ?_
    refine op (y (x_move rfl) rfl ?_)
    refine op (y (x_assign rfl) rfl ?_)
    refine nil ?_
    refine n_then ?_
    refine ret ?_
    refine r_then ?_
    exact done rfl (.tmp rfl (.nil)) (hle23) (L) (subF (by (repeat (first | exact List.Sublist.refl _ | apply List.Sublist.cons_cons | apply List.Sublist.cons)); done)) (⟨rfl, rfl⟩)
  · try simp only [decide_eq_true_eq, decide_eq_false_iff_not, beq_iff_eq, bne_iff_ne, ne_eq, beq_eq_false_iff_ne, bne_eq_false_iff_eq, Bool.not_eq_true', Bool.not_eq_false', Bool.not_eq_true, Bool.not_eq_false, Decidable.not_not, Int.not_lt, Int.not_le] at g29
    refine opG rfl rfl (y ((by first | exact x_loadOwn 0 _ ag_25 rfl rfl rfl rfl | exact x_loadOwn 1 _ ag_25 rfl rfl rfl rfl | exact x_loadOwn 2 _ ag_25 rfl rfl rfl rfl | exact x_loadOwn 3 _ ag_25 rfl rfl rfl rfl | exact x_loadOwn 4 _ ag_25 rfl rfl rfl rfl | exact x_loadOwn 5 _ ag_25 rfl rfl rfl rfl | exact x_loadOwn 6 _ ag_25 rfl rfl rfl rfl | exact x_loadOwn 7 _ ag_25 rfl rfl rfl rfl | exact x_loadOwn 8 _ ag_25 rfl rfl rfl rfl | exact x_loadOwn 9 _ ag_25 rfl rfl rfl rfl | exact x_loadOwn 10 _ ag_25 rfl rfl rfl rfl | exact x_loadOwn 11 _ ag_25 rfl rfl rfl rfl)) rfl ?_)
    refine opG rfl rfl (e_call rfl fn_9 rfl rfl (small_c k A2 cA2 B2 cB2 _ _ (hk.mono hle23)) fun v31 ro31 L31 hle31 hp31 => ?_)
    obtain ⟨rfl, rfl, rfl⟩ := hp31
    refine opG rfl rfl (y (x_not rfl) rfl ?_)
    refine op (y (x_pickF rfl rfl) rfl ?_)
    refine op (y (x_move rfl) rfl ?_)
    refine bsplit 34 rfl (fun g34 => ?_) (fun g34 => ?_)
    · try simp only [decide_eq_true_eq, decide_eq_false_iff_not, beq_iff_eq, bne_iff_ne, ne_eq, beq_eq_false_iff_ne, bne_eq_false_iff_eq, Bool.not_eq_true', Bool.not_eq_false', Bool.not_eq_true, Bool.not_eq_false, Decidable.not_not, Int.not_lt, Int.not_le] at g34
      refine opN rfl rfl rfl rfl ?_
      refine opN rfl rfl rfl rfl ?_
      refine opN rfl rfl rfl rfl ?_
      refine op (y (x_pickT rfl rfl) rfl ?_)
      refine op (y (x_move rfl) rfl ?_)
      refine opN rfl rfl rfl rfl ?_
      refine opN rfl rfl rfl rfl ?_
      refine op (y (x_pickT rfl rfl) rfl ?_)
      refine nil ?_
      refine n_then ?_
      refine condT rfl ?_
      refine seq ?_
      refine region ?_
      refine op (y (x_move rfl) rfl ?_)
      refine op (y (x_assign rfl) rfl ?_)
      refine nil ?_
      refine n_then ?_
      refine ret ?_
      refine r_then ?_
      exact done rfl (.tmp rfl (.nil)) (hle23) (L) (subF (by (repeat (first | exact List.Sublist.refl _ | apply List.Sublist.cons_cons | apply List.Sublist.cons)); done)) (⟨rfl, rfl⟩)
    · try simp only [decide_eq_true_eq, decide_eq_false_iff_not, beq_iff_eq, bne_iff_ne, ne_eq, beq_eq_false_iff_ne, bne_eq_false_iff_eq, Bool.not_eq_true', Bool.not_eq_false', Bool.not_eq_true, Bool.not_eq_false, Decidable.not_not, Int.not_lt, Int.not_le] at g34
      refine opG rfl rfl (y (x_load1 ag_26 rfl (by first | assumption | exact Cell.own 0 rfl rfl | exact Cell.own 1 rfl rfl | exact Cell.own 2 rfl rfl | exact Cell.own 3 rfl rfl | exact Cell.own 4 rfl rfl | exact Cell.own 5 rfl rfl | exact Cell.own 6 rfl rfl | exact Cell.own 7 rfl rfl | exact Cell.own 8 rfl rfl | exact Cell.own 9 rfl rfl | exact Cell.ofRo (by assumption))) rfl ?_)
      refine opG rfl rfl (y (x_lenSl sz_26 rfl) rfl ?_)
      refine opG rfl rfl (y (x_gtr rfl rfl) rfl ?_)
      refine op (y (x_pickF rfl rfl) rfl ?_)
      refine op (y (x_move rfl) rfl ?_)
      refine bsplit 39 rfl (fun g39 => ?_) (fun g39 => ?_)
      · try simp only [decide_eq_true_eq, decide_eq_false_iff_not, beq_iff_eq, bne_iff_ne, ne_eq, beq_eq_false_iff_ne, bne_eq_false_iff_eq, Bool.not_eq_true', Bool.not_eq_false', Bool.not_eq_true, Bool.not_eq_false, Decidable.not_not, Int.not_lt, Int.not_le] at g39
        refine opN rfl rfl rfl rfl ?_
        refine opN rfl rfl rfl rfl ?_
        refine op (y (x_pickT rfl rfl) rfl ?_)
        refine nil ?_
        refine n_then ?_
        refine condT rfl ?_
        refine seq ?_
        refine region ?_
        refine op (y (x_move rfl) rfl ?_)
        refine op (y (x_assign rfl) rfl ?_)
        refine nil ?_
        refine n_then ?_
        refine ret ?_
        refine r_then ?_
        exact done rfl (.tmp rfl (.nil)) (hle23) (L) (subF (by (repeat (first | exact List.Sublist.refl _ | apply List.Sublist.cons_cons | apply List.Sublist.cons)); done)) (⟨rfl, rfl⟩)
      · try simp only [decide_eq_true_eq, decide_eq_false_iff_not, beq_iff_eq, bne_iff_ne, ne_eq, beq_eq_false_iff_ne, bne_eq_false_iff_eq, Bool.not_eq_true', Bool.not_eq_false', Bool.not_eq_true, Bool.not_eq_false, Decidable.not_not, Int.not_lt, Int.not_le] at g39
        refine opG rfl rfl (y (x_move rfl) rfl ?_)
        refine opG rfl rfl (y (x_not rfl) rfl ?_)
        refine op (y (x_pickF rfl rfl) rfl ?_)
        refine nil ?_
        refine n_then ?_
        refine condF rfl ?_
        refine skip ?_
        refine n_then ?_
        refine seq ?_
        obtain ⟨hn1, hn2⟩ := g29
        obtain ⟨hk1, hk2⟩ := g34
        have hsm : sm.length ≤ 50 := by omega
        refine region ?_
        refine op (y (x_fieldAddr fo_25_0 rfl) rfl ?_)
        refine op (y (x_load1 ag_22 rfl (by first | assumption | exact Cell.own 0 rfl rfl | exact Cell.own 1 rfl rfl | exact Cell.own 2 rfl rfl | exact Cell.own 3 rfl rfl | exact Cell.own 4 rfl rfl | exact Cell.own 5 rfl rfl | exact Cell.own 6 rfl rfl | exact Cell.own 7 rfl rfl | exact Cell.own 8 rfl rfl | exact Cell.own 9 rfl rfl | exact Cell.ofRo (by assumption))) rfl ?_)
        refine op (e_call rfl fn_10 rfl rfl (Objects_o h.os A cA _ _ (hh.o.mono hle23) (by omega)) fun v46 ro46 L46 hle46 hp46 => ?_)
        obtain ⟨A46, c46, R46, rfl, hO46, rfl⟩ := hp46
        refine op (y (x_build bu_31 rfl rfl) rfl ?_)
        refine op (e_slice1 rfl Tryd.underlying22 ti_31 rfl rfl (by decide) (by decide) rfl rfl rfl fun b48 => ?_)
        refine op (e_append1 0 rfl st_22 rfl rfl rfl hO46 rfl rfl (by omega) (by omega) (fun _ => rfl) fun A49 cap49 R49 hO49 => ?_)
        refine ufreeze fun rz1 hz1 hzR1 => ?_
        have hSo : Sl rz1 2 encOb A49 cap49 (h.os ++ [⟨47, 0⟩]) := OwnS.sl ((hO49.snoc (enc := encOb) (x := ⟨47, 0⟩)).cast (by simp) rfl) enc_ob hzR1
        refine op (y (x_assign rfl) rfl ?_)
        refine nil ?_
        refine n_then ?_
        refine seq ?_
        refine region ?_
        refine op (y (x_fieldAddr fo_25_1 rfl) rfl ?_)
        refine op (y (x_load1 ag_23 rfl (by first | assumption | exact Cell.own 0 rfl rfl | exact Cell.own 1 rfl rfl | exact Cell.own 2 rfl rfl | exact Cell.own 3 rfl rfl | exact Cell.own 4 rfl rfl | exact Cell.own 5 rfl rfl | exact Cell.own 6 rfl rfl | exact Cell.own 7 rfl rfl | exact Cell.own 8 rfl rfl | exact Cell.own 9 rfl rfl | exact Cell.ofRo (by assumption))) rfl ?_)
        refine op (e_call rfl fn_11 rfl rfl (Events_o h.es B cB _ _ (hh.e.mono (hle23.trans (hle46.trans hz1))) (by omega)) fun v52 ro52 L52 hle52 hp52 => ?_)
        obtain ⟨A52, c52, R52, rfl, hO52, rfl⟩ := hp52
        refine op (y (x_build bu_34 rfl rfl) rfl ?_)
        refine op (e_slice1 rfl Tryd.underlying23 ti_34 rfl rfl (by decide) (by decide) rfl rfl rfl fun b54 => ?_)
        refine op (e_append1 0 rfl st_23 rfl rfl rfl hO52 rfl rfl (by omega) (by omega) (fun _ => rfl) fun A55 cap55 R55 hO55 => ?_)
        refine ufreeze fun rz2 hz2 hzR2 => ?_
        have hSe : Sl rz2 8 encEv A55 cap55 (h.es ++ [⟨47, 0, 0, 0, 0, 0, 0, 0⟩]) := OwnS.sl ((hO55.snoc (enc := encEv) (x := ⟨47, 0, 0, 0, 0, 0, 0, 0⟩)).cast (by simp) rfl) enc_ev hzR2
        have hle2 := hle23.trans (hle46.trans (hz1.trans (hle52.trans hz2)))
        have hSo2 := hSo.mono (hle52.trans hz2)
        have hcpo : h.os.length + 1 ≤ cap49 := by have := hSo2.1; simpa using this
        have hcpe : h.es.length + 1 ≤ cap55 := by have := hSe.1; simpa using this
        have hm : SH rz2 A49 cap49 A55 cap55 h := ⟨by have := hSo2.take h.os.length; simpa using this, by have := hSe.take h.es.length; simpa using this⟩
        refine op (y (x_assign rfl) rfl ?_)
        refine nil ?_
        refine n_then ?_
        refine seq ?_
        refine draw (List.flatten [[(b5, Obj.cells [Value.slice A h.os.length cA, Value.slice B h.es.length cB].toArray 25 (0, 0))]]) (by kernel_rfl) ?_
        refine d_take 0 rfl (by kernel_rfl) (by kernel_rfl) (by kernel_rfl) (fun _ _ _ h => h) rfl (.inl rfl) (x_move rfl) (fun w hi => J.of_le (Ro.le.refl _) (fun x hx => by simp only [List.flatten_cons, List.flatten_nil, List.append_nil, List.mem_singleton] at hx; subst hx; simp) hi) ?_
        refine d_take 1 rfl (by kernel_rfl) (by kernel_rfl) (by kernel_rfl) (fun _ _ _ h => h) rfl (.inl rfl) (x_fieldAddr fo_25_0 rfl) (fun w hi => J.of_le (Ro.le.refl _) (fun x hx => by simp only [List.flatten_cons, List.flatten_nil, List.append_nil, List.mem_singleton] at hx; subst hx; simp) hi) ?_
        refine d_take 2 rfl (by kernel_rfl) (by kernel_rfl) (by kernel_rfl) (fun _ _ _ h => h) rfl (.inl rfl) (x_load1 ag_22 rfl (by first | assumption | exact Cell.own 0 rfl rfl | exact Cell.own 1 rfl rfl | exact Cell.own 2 rfl rfl | exact Cell.own 3 rfl rfl | exact Cell.own 4 rfl rfl | exact Cell.own 5 rfl rfl | exact Cell.own 6 rfl rfl | exact Cell.own 7 rfl rfl | exact Cell.own 8 rfl rfl | exact Cell.own 9 rfl rfl | exact Cell.ofRo (by assumption))) (fun w hi => J.of_le (Ro.le.refl _) (fun x hx => by simp only [List.flatten_cons, List.flatten_nil, List.append_nil, List.mem_singleton] at hx; subst hx; simp) hi) ?_
        refine d_take 3 rfl (by kernel_rfl) (by kernel_rfl) (by kernel_rfl) (fun _ _ _ h => h) rfl (.inl rfl) (x_lenSl sz_22 rfl) (fun w hi => J.of_le (Ro.le.refl _) (fun x hx => by simp only [List.flatten_cons, List.flatten_nil, List.append_nil, List.mem_singleton] at hx; subst hx; simp) hi) ?_
        refine d_take 4 rfl (by kernel_rfl) (by kernel_rfl) (by kernel_rfl) (fun _ _ _ h => h) rfl (.inl rfl) (x_sliceHiN sz_22 rfl rfl (by omega)) (fun w hi => J.of_le (Ro.le.refl _) (fun x hx => by simp only [List.flatten_cons, List.flatten_nil, List.append_nil, List.mem_singleton] at hx; subst hx; simp) hi) ?_
        refine d_take 5 rfl (by kernel_rfl) (by kernel_rfl) (by kernel_rfl) (fun _ _ _ h => h) rfl (.inl rfl) (x_move rfl) (fun w hi => J.of_le (Ro.le.refl _) (fun x hx => by simp only [List.flatten_cons, List.flatten_nil, List.append_nil, List.mem_singleton] at hx; subst hx; simp) hi) ?_
        refine d_take 6 rfl (by kernel_rfl) (by kernel_rfl) (by kernel_rfl) (fun _ _ _ h => h) rfl (.inl rfl) (x_fieldAddr fo_25_1 rfl) (fun w hi => J.of_le (Ro.le.refl _) (fun x hx => by simp only [List.flatten_cons, List.flatten_nil, List.append_nil, List.mem_singleton] at hx; subst hx; simp) hi) ?_
        refine d_take 7 rfl (by kernel_rfl) (by kernel_rfl) (by kernel_rfl) (fun _ _ _ h => h) rfl (.inl rfl) (x_load1 ag_23 rfl (by first | assumption | exact Cell.own 0 rfl rfl | exact Cell.own 1 rfl rfl | exact Cell.own 2 rfl rfl | exact Cell.own 3 rfl rfl | exact Cell.own 4 rfl rfl | exact Cell.own 5 rfl rfl | exact Cell.own 6 rfl rfl | exact Cell.own 7 rfl rfl | exact Cell.own 8 rfl rfl | exact Cell.own 9 rfl rfl | exact Cell.ofRo (by assumption))) (fun w hi => J.of_le (Ro.le.refl _) (fun x hx => by simp only [List.flatten_cons, List.flatten_nil, List.append_nil, List.mem_singleton] at hx; subst hx; simp) hi) ?_
        refine d_take 8 rfl (by kernel_rfl) (by kernel_rfl) (by kernel_rfl) (fun _ _ _ h => h) rfl (.inl rfl) (x_lenSl sz_23 rfl) (fun w hi => J.of_le (Ro.le.refl _) (fun x hx => by simp only [List.flatten_cons, List.flatten_nil, List.append_nil, List.mem_singleton] at hx; subst hx; simp) hi) ?_
        refine d_take 9 rfl (by kernel_rfl) (by kernel_rfl) (by kernel_rfl) (fun _ _ _ h => h) rfl (.inl rfl) (x_sliceHiN sz_23 rfl rfl (by omega)) (fun w hi => J.of_le (Ro.le.refl _) (fun x hx => by simp only [List.flatten_cons, List.flatten_nil, List.append_nil, List.mem_singleton] at hx; subst hx; simp) hi) ?_
        refine d_take 10 rfl (by kernel_rfl) (by kernel_rfl) (by kernel_rfl) (fun _ _ _ h => h) rfl (.inl rfl) (x_build bu_25 rfl rfl) (fun w hi => J.of_le (Ro.le.refl _) (fun x hx => by simp only [List.flatten_cons, List.flatten_nil, List.append_nil, List.mem_singleton] at hx; subst hx; simp) hi) ?_
        refine d_one 11 rfl (by kernel_rfl) (.inl rfl) (e_alloc rfl zc_25 rfl fun b14 => ?_)
        refine d_next (fun w hi => J.of_le (Ro.le.refl _) (fun x hx => by simp only [List.flatten_cons, List.flatten_nil, List.append_nil, List.mem_singleton] at hx; subst hx; simp) hi) ?_
        first | refine d_one 12 rfl (by kernel_rfl) (.inl rfl) (e_store 0 rfl rfl ts_25 rfl rfl rfl rfl rfl rfl ?_) | refine d_one 12 rfl (by kernel_rfl) (.inl rfl) (e_store 1 rfl rfl ts_25 rfl rfl rfl rfl rfl rfl ?_) | refine d_one 12 rfl (by kernel_rfl) (.inl rfl) (e_store 2 rfl rfl ts_25 rfl rfl rfl rfl rfl rfl ?_) | refine d_one 12 rfl (by kernel_rfl) (.inl rfl) (e_store 3 rfl rfl ts_25 rfl rfl rfl rfl rfl rfl ?_) | refine d_one 12 rfl (by kernel_rfl) (.inl rfl) (e_store 4 rfl rfl ts_25 rfl rfl rfl rfl rfl rfl ?_) | refine d_one 12 rfl (by kernel_rfl) (.inl rfl) (e_store 5 rfl rfl ts_25 rfl rfl rfl rfl rfl rfl ?_) | refine d_one 12 rfl (by kernel_rfl) (.inl rfl) (e_store 6 rfl rfl ts_25 rfl rfl rfl rfl rfl rfl ?_) | refine d_one 12 rfl (by kernel_rfl) (.inl rfl) (e_store 7 rfl rfl ts_25 rfl rfl rfl rfl rfl rfl ?_) | refine d_one 12 rfl (by kernel_rfl) (.inl rfl) (e_store 8 rfl rfl ts_25 rfl rfl rfl rfl rfl rfl ?_) | refine d_one 12 rfl (by kernel_rfl) (.inl rfl) (e_store 9 rfl rfl ts_25 rfl rfl rfl rfl rfl rfl ?_)
        refine d_next (fun w hi => J.of_le (Ro.le.refl _) (fun x hx => by simp only [List.flatten_cons, List.flatten_nil, List.append_nil, List.mem_singleton] at hx; subst hx; simp) hi) ?_
        refine d_end (by kernel_rfl) ?_
        refine n_then ?_
        refine seq ?_
        refine drawL (by kernel_rfl) ?_
        refine d_take 0 rfl (by kernel_rfl) (by kernel_rfl) (by kernel_rfl) (fun _ _ _ h => h) rfl (.inl rfl) ((by first | exact x_loadOwn 0 _ ag_25 rfl rfl rfl rfl | exact x_loadOwn 1 _ ag_25 rfl rfl rfl rfl | exact x_loadOwn 2 _ ag_25 rfl rfl rfl rfl | exact x_loadOwn 3 _ ag_25 rfl rfl rfl rfl | exact x_loadOwn 4 _ ag_25 rfl rfl rfl rfl | exact x_loadOwn 5 _ ag_25 rfl rfl rfl rfl | exact x_loadOwn 6 _ ag_25 rfl rfl rfl rfl | exact x_loadOwn 7 _ ag_25 rfl rfl rfl rfl | exact x_loadOwn 8 _ ag_25 rfl rfl rfl rfl | exact x_loadOwn 9 _ ag_25 rfl rfl rfl rfl | exact x_loadOwn 10 _ ag_25 rfl rfl rfl rfl | exact x_loadOwn 11 _ ag_25 rfl rfl rfl rfl)) (fun w hi => by first | exact hi.j | exact J.of_le (hle69) (fun x hx => hx) hi | exact J.of_le (hle69.trans hle72) (fun x hx => hx) hi) ?_
        refine d_take 1 rfl (by kernel_rfl) (by kernel_rfl) (by kernel_rfl) (fun _ _ _ h => h) rfl (.inl rfl) (x_move rfl) (fun w hi => by first | exact hi.j | exact J.of_le (hle69) (fun x hx => hx) hi | exact J.of_le (hle69.trans hle72) (fun x hx => hx) hi) ?_
        refine d_take 3 rfl (by kernel_rfl) (by kernel_rfl) (by kernel_rfl) (fun _ _ _ h => h) rfl (.inl rfl) ((by first | exact x_loadOwn 0 _ ag_25 rfl rfl rfl rfl | exact x_loadOwn 1 _ ag_25 rfl rfl rfl rfl | exact x_loadOwn 2 _ ag_25 rfl rfl rfl rfl | exact x_loadOwn 3 _ ag_25 rfl rfl rfl rfl | exact x_loadOwn 4 _ ag_25 rfl rfl rfl rfl | exact x_loadOwn 5 _ ag_25 rfl rfl rfl rfl | exact x_loadOwn 6 _ ag_25 rfl rfl rfl rfl | exact x_loadOwn 7 _ ag_25 rfl rfl rfl rfl | exact x_loadOwn 8 _ ag_25 rfl rfl rfl rfl | exact x_loadOwn 9 _ ag_25 rfl rfl rfl rfl | exact x_loadOwn 10 _ ag_25 rfl rfl rfl rfl | exact x_loadOwn 11 _ ag_25 rfl rfl rfl rfl)) (fun w hi => by first | exact hi.j | exact J.of_le (hle69) (fun x hx => hx) hi | exact J.of_le (hle69.trans hle72) (fun x hx => hx) hi) ?_
        refine d_take 4 rfl (by kernel_rfl) (by kernel_rfl) (by kernel_rfl) (fun _ _ _ h => h) rfl (.inl rfl) (x_move rfl) (fun w hi => by first | exact hi.j | exact J.of_le (hle69) (fun x hx => hx) hi | exact J.of_le (hle69.trans hle72) (fun x hx => hx) hi) ?_
        refine d_one 2 rfl (by kernel_rfl) (.inl rfl) (e_call rfl fn_13 rfl rfl (PHo.frozen (Prefix_o h A49 cap49 A55 cap55 _ _ hm n hn1 hn2)) fun v69 ro69 L69 hle69 hp69 => ?_)
        obtain ⟨pA, pc, pB, pd, rfl, hSp, rfl⟩ := hp69
        refine d_next (fun w hi => by first | exact hi.j | exact J.of_le (hle69) (fun x hx => hx) hi | exact J.of_le (hle69.trans hle72) (fun x hx => hx) hi) ?_
        refine d_one 5 rfl (by kernel_rfl) (.inl rfl) (e_call rfl fn_14 rfl rfl (PrefixR_c h A cA B cB _ _ (hh.mono (hle2.trans hle69)) n hn1 hn2) fun v72 ro72 L72 hle72 hp72 => ?_)
        obtain ⟨qA, qc, qB, qd, rfl, hSq, rfl⟩ := hp72
        refine d_next (fun w hi => by first | exact hi.j | exact J.of_le (hle69) (fun x hx => hx) hi | exact J.of_le (hle69.trans hle72) (fun x hx => hx) hi) ?_
        refine d_one 6 rfl (by kernel_rfl) (.inl rfl) (e_call rfl fn_12 rfl rfl (SameHistory_c (pre h n) _ _ _ _ (pre h n) _ _ _ _ _ _ (hSp.mono hle72) hSq) fun v73 ro73 L73 hle73 hp73 => ?_)
        obtain ⟨rfl, rfl, rfl⟩ := hp73
        refine said 73 (.bool true) rfl (by simp) ?_
        refine d_next (fun w hi => by first | exact hi.j | exact J.of_le (hle69) (fun x hx => hx) hi | exact J.of_le (hle69.trans hle72) (fun x hx => hx) hi) ?_
        refine d_take 7 rfl (by kernel_rfl) (by kernel_rfl) (by kernel_rfl) (fun _ _ _ h => h) rfl (.inl rfl) (x_assign rfl) (fun w hi => by first | exact hi.j | exact J.of_le (hle69) (fun x hx => hx) hi | exact J.of_le (hle69.trans hle72) (fun x hx => hx) hi) ?_
        refine d_end (by kernel_rfl) ?_
        refine n_then ?_
        refine seq ?_
        have hle3 := hle2.trans (hle69.trans hle72)
        have hm3 := hm.mono (hle69.trans hle72)
        refine drawL (by kernel_rfl) ?_
        refine d_take 0 rfl (by kernel_rfl) (by kernel_rfl) (by kernel_rfl) (fun _ _ _ h => h) rfl (.inl rfl) ((by first | exact x_loadOwn 0 _ ag_25 rfl rfl rfl rfl | exact x_loadOwn 1 _ ag_25 rfl rfl rfl rfl | exact x_loadOwn 2 _ ag_25 rfl rfl rfl rfl | exact x_loadOwn 3 _ ag_25 rfl rfl rfl rfl | exact x_loadOwn 4 _ ag_25 rfl rfl rfl rfl | exact x_loadOwn 5 _ ag_25 rfl rfl rfl rfl | exact x_loadOwn 6 _ ag_25 rfl rfl rfl rfl | exact x_loadOwn 7 _ ag_25 rfl rfl rfl rfl | exact x_loadOwn 8 _ ag_25 rfl rfl rfl rfl | exact x_loadOwn 9 _ ag_25 rfl rfl rfl rfl | exact x_loadOwn 10 _ ag_25 rfl rfl rfl rfl | exact x_loadOwn 11 _ ag_25 rfl rfl rfl rfl)) (fun w hi => by first | exact hi.j | exact J.of_le (hle76) (fun x hx => hx) hi | exact J.of_le (hle76.trans hle79) (fun x hx => hx) hi) ?_
        refine d_take 1 rfl (by kernel_rfl) (by kernel_rfl) (by kernel_rfl) (fun _ _ _ h => h) rfl (.inl rfl) (x_move rfl) (fun w hi => by first | exact hi.j | exact J.of_le (hle76) (fun x hx => hx) hi | exact J.of_le (hle76.trans hle79) (fun x hx => hx) hi) ?_
        refine d_take 3 rfl (by kernel_rfl) (by kernel_rfl) (by kernel_rfl) (fun _ _ _ h => h) rfl (.inl rfl) ((by first | exact x_loadOwn 0 _ ag_25 rfl rfl rfl rfl | exact x_loadOwn 1 _ ag_25 rfl rfl rfl rfl | exact x_loadOwn 2 _ ag_25 rfl rfl rfl rfl | exact x_loadOwn 3 _ ag_25 rfl rfl rfl rfl | exact x_loadOwn 4 _ ag_25 rfl rfl rfl rfl | exact x_loadOwn 5 _ ag_25 rfl rfl rfl rfl | exact x_loadOwn 6 _ ag_25 rfl rfl rfl rfl | exact x_loadOwn 7 _ ag_25 rfl rfl rfl rfl | exact x_loadOwn 8 _ ag_25 rfl rfl rfl rfl | exact x_loadOwn 9 _ ag_25 rfl rfl rfl rfl | exact x_loadOwn 10 _ ag_25 rfl rfl rfl rfl | exact x_loadOwn 11 _ ag_25 rfl rfl rfl rfl)) (fun w hi => by first | exact hi.j | exact J.of_le (hle76) (fun x hx => hx) hi | exact J.of_le (hle76.trans hle79) (fun x hx => hx) hi) ?_
        refine d_take 4 rfl (by kernel_rfl) (by kernel_rfl) (by kernel_rfl) (fun _ _ _ h => h) rfl (.inl rfl) (x_move rfl) (fun w hi => by first | exact hi.j | exact J.of_le (hle76) (fun x hx => hx) hi | exact J.of_le (hle76.trans hle79) (fun x hx => hx) hi) ?_
        refine d_one 2 rfl (by kernel_rfl) (.inl rfl) (e_call rfl fn_15 rfl rfl (PHo.frozen (Without_o h A49 cap49 A55 cap55 _ _ hm3 tx hn1 hn2)) fun v76 ro76 L76 hle76 hp76 => ?_)
        obtain ⟨wA, wc, wB, wd, rfl, hSw, rfl⟩ := hp76
        refine d_next (fun w hi => by first | exact hi.j | exact J.of_le (hle76) (fun x hx => hx) hi | exact J.of_le (hle76.trans hle79) (fun x hx => hx) hi) ?_
        refine d_one 5 rfl (by kernel_rfl) (.inl rfl) (e_call rfl fn_16 rfl rfl (WithoutR_c h A cA B cB _ _ (hh.mono (hle3.trans hle76)) tx hn1 hn2) fun v79 ro79 L79 hle79 hp79 => ?_)
        obtain ⟨xA, xc, xB, xd, rfl, hSx, rfl⟩ := hp79
        refine d_next (fun w hi => by first | exact hi.j | exact J.of_le (hle76) (fun x hx => hx) hi | exact J.of_le (hle76.trans hle79) (fun x hx => hx) hi) ?_
        refine d_one 6 rfl (by kernel_rfl) (.inl rfl) (e_call rfl fn_12 rfl rfl (SameHistory_c (woT h tx) _ _ _ _ (woT h tx) _ _ _ _ _ _ (hSw.mono hle79) hSx) fun v80 ro80 L80 hle80 hp80 => ?_)
        obtain ⟨rfl, rfl, rfl⟩ := hp80
        refine said 80 (.bool true) rfl (by simp) ?_
        refine d_next (fun w hi => by first | exact hi.j | exact J.of_le (hle76) (fun x hx => hx) hi | exact J.of_le (hle76.trans hle79) (fun x hx => hx) hi) ?_
        refine d_take 7 rfl (by kernel_rfl) (by kernel_rfl) (by kernel_rfl) (fun _ _ _ h => h) rfl (.inl rfl) (x_assign rfl) (fun w hi => by first | exact hi.j | exact J.of_le (hle76) (fun x hx => hx) hi | exact J.of_le (hle76.trans hle79) (fun x hx => hx) hi) ?_
        refine d_end (by kernel_rfl) ?_
        refine n_then ?_
        refine seq ?_
        refine region ?_
        refine op (e_alloc rfl zc_26 rfl fun b17 => ?_)
        refine nil ?_
        refine n_then ?_
        refine seq ?_
        have hle4 := hle3.trans (hle76.trans hle79)
        have hm4 := hm3.mono (hle76.trans hle79)
        have ht4 := ht.mono hle4
        refine region ?_
        refine op (y ((by first | exact x_loadOwn 0 _ ag_25 rfl rfl rfl rfl | exact x_loadOwn 1 _ ag_25 rfl rfl rfl rfl | exact x_loadOwn 2 _ ag_25 rfl rfl rfl rfl | exact x_loadOwn 3 _ ag_25 rfl rfl rfl rfl | exact x_loadOwn 4 _ ag_25 rfl rfl rfl rfl | exact x_loadOwn 5 _ ag_25 rfl rfl rfl rfl | exact x_loadOwn 6 _ ag_25 rfl rfl rfl rfl | exact x_loadOwn 7 _ ag_25 rfl rfl rfl rfl | exact x_loadOwn 8 _ ag_25 rfl rfl rfl rfl | exact x_loadOwn 9 _ ag_25 rfl rfl rfl rfl | exact x_loadOwn 10 _ ag_25 rfl rfl rfl rfl | exact x_loadOwn 11 _ ag_25 rfl rfl rfl rfl)) rfl ?_)
        refine op (y (x_makeFunc rfl rfl) rfl ?_)
        refine emp ?_
        refine op (e_call rfl fn_17 rfl rfl (Only_c h A49 cap49 A55 cap55 _ _ hm4 hn1 hn2 18 [.pointer (some ⟨b17, 0, none⟩), .pointer (some ⟨b9, 0, none⟩)] fn_18 (fun t => decide (t ∈ sm)) (fun i Lx => ∃ (Aa : Option Addr) (ca : Nat) (Ra : List Blk), OwnS 3 1 Aa ((h.es.take i).map evTx).length ca (((h.es.take i).map evTx).flatMap encInt) Ra ∧ Lx = Ra :: [(b17, Obj.cells [Value.slice Aa ((h.es.take i).map evTx).length ca].toArray 26 (0, 0))] :: [(b14, Obj.cells [Value.slice A49 h.os.length cap49, Value.slice A55 h.es.length cap55].toArray 25 (0, 0))] :: [(b9, Obj.cells [Value.slice T sm.length cT].toArray 26 (0, 0))] :: [(b6, Obj.cells [Value.slice A2 k.os.length cA2, Value.slice B2 k.es.length cB2].toArray 25 (0, 0))] :: [(b5, Obj.cells [Value.slice A h.os.length cA, Value.slice B h.es.length cB].toArray 25 (0, 0))] :: L) (fun i e Lx L0 ro' hro hie hL => by obtain ⟨Aa, ca, Ra, hOa, rfl⟩ := hL ; refine (CutMakes1_c e.tx ((h.es.take i).map evTx) Aa ca Ra hOa (by simp; omega) b17 b9 sm T cT ro' (ht4.mono hro) hsm ([(b14, Obj.cells [Value.slice A49 h.os.length cap49, Value.slice A55 h.es.length cap55].toArray 25 (0, 0))] :: [(b9, Obj.cells [Value.slice T sm.length cT].toArray 26 (0, 0))] :: [(b6, Obj.cells [Value.slice A2 k.os.length cA2, Value.slice B2 k.es.length cB2].toArray 25 (0, 0))] :: [(b5, Obj.cells [Value.slice A h.os.length cA, Value.slice B h.es.length cB].toArray 25 (0, 0))] :: L ++ L0) (by simp)).mono fun v ro2 L2 _ hp => ?_ ; obtain ⟨rfl, A', c', R', hO', rfl⟩ := hp ; rw [← map_take_snoc hie] at hO' ⊢ ; exact ⟨rfl, _, ⟨A', c', R', hO', rfl⟩, rfl⟩) ⟨none, 0, [], OwnS.none_ 3 1, rfl⟩) fun v83 ro83 L83 hle83 hp83 => ?_)
        obtain ⟨A5, c5, B5, c6, R1, R2, Lx, rfl, hO1, hO2, ⟨Aa, ca, Ra, hOa, hLx⟩, rfl⟩ := hp83
        subst hLx
        rw [List.take_length] at hOa ⊢
        refine ufreeze fun rz3 hz3 hzR3 => ?_
        refine ufreeze fun rz4 hz4 hzR4 => ?_
        refine ufreeze fun rz5 hz5 hzR5 => ?_
        have hS83 : SH rz5 A5 c5 B5 c6 (onT h (fun t => decide (t ∈ sm))) := ⟨(hO1.sl enc_ob hzR3).mono (hz4.trans hz5), (hO2.sl enc_ev hzR4).mono hz5⟩
        have hSa : Sl rz5 1 encInt Aa ca (h.es.map evTx) := hOa.sl (fun _ _ => rfl) hzR5
        have hle5 := hle4.trans (hle83.trans (hz3.trans (hz4.trans hz5)))
        have hm5 := hm4.mono (hle83.trans (hz3.trans (hz4.trans hz5)))
        refine op (e_alloc rfl zc_25 rfl fun b18 => ?_)
        first | refine op (e_store 0 rfl rfl ts_25 rfl rfl rfl rfl rfl rfl ?_) | refine op (e_store 1 rfl rfl ts_25 rfl rfl rfl rfl rfl rfl ?_) | refine op (e_store 2 rfl rfl ts_25 rfl rfl rfl rfl rfl rfl ?_) | refine op (e_store 3 rfl rfl ts_25 rfl rfl rfl rfl rfl rfl ?_) | refine op (e_store 4 rfl rfl ts_25 rfl rfl rfl rfl rfl rfl ?_) | refine op (e_store 5 rfl rfl ts_25 rfl rfl rfl rfl rfl rfl ?_) | refine op (e_store 6 rfl rfl ts_25 rfl rfl rfl rfl rfl rfl ?_) | refine op (e_store 7 rfl rfl ts_25 rfl rfl rfl rfl rfl rfl ?_) | refine op (e_store 8 rfl rfl ts_25 rfl rfl rfl rfl rfl rfl ?_) | refine op (e_store 9 rfl rfl ts_25 rfl rfl rfl rfl rfl rfl ?_)
        refine nil ?_
        refine n_then ?_
        refine seq ?_
        refine drawL (by kernel_rfl) ?_
        refine d_take 0 rfl (by kernel_rfl) (by kernel_rfl) (by kernel_rfl) (fun _ _ _ h => h) rfl (.inl rfl) ((by first | exact x_loadOwn 0 _ ag_25 rfl rfl rfl rfl | exact x_loadOwn 1 _ ag_25 rfl rfl rfl rfl | exact x_loadOwn 2 _ ag_25 rfl rfl rfl rfl | exact x_loadOwn 3 _ ag_25 rfl rfl rfl rfl | exact x_loadOwn 4 _ ag_25 rfl rfl rfl rfl | exact x_loadOwn 5 _ ag_25 rfl rfl rfl rfl | exact x_loadOwn 6 _ ag_25 rfl rfl rfl rfl | exact x_loadOwn 7 _ ag_25 rfl rfl rfl rfl | exact x_loadOwn 8 _ ag_25 rfl rfl rfl rfl | exact x_loadOwn 9 _ ag_25 rfl rfl rfl rfl | exact x_loadOwn 10 _ ag_25 rfl rfl rfl rfl | exact x_loadOwn 11 _ ag_25 rfl rfl rfl rfl)) (fun w hi => by first | exact hi.j | exact J.of_le (hle87) (fun x hx => hx) hi) ?_
        refine d_take 1 rfl (by kernel_rfl) (by kernel_rfl) (by kernel_rfl) (fun _ _ _ h => h) rfl (.inl rfl) ((by first | exact x_loadOwn 0 _ ag_25 rfl rfl rfl rfl | exact x_loadOwn 1 _ ag_25 rfl rfl rfl rfl | exact x_loadOwn 2 _ ag_25 rfl rfl rfl rfl | exact x_loadOwn 3 _ ag_25 rfl rfl rfl rfl | exact x_loadOwn 4 _ ag_25 rfl rfl rfl rfl | exact x_loadOwn 5 _ ag_25 rfl rfl rfl rfl | exact x_loadOwn 6 _ ag_25 rfl rfl rfl rfl | exact x_loadOwn 7 _ ag_25 rfl rfl rfl rfl | exact x_loadOwn 8 _ ag_25 rfl rfl rfl rfl | exact x_loadOwn 9 _ ag_25 rfl rfl rfl rfl | exact x_loadOwn 10 _ ag_25 rfl rfl rfl rfl | exact x_loadOwn 11 _ ag_25 rfl rfl rfl rfl)) (fun w hi => by first | exact hi.j | exact J.of_le (hle87) (fun x hx => hx) hi) ?_
        refine d_take 2 rfl (by kernel_rfl) (by kernel_rfl) (by kernel_rfl) (fun _ _ _ h => h) rfl (.inl rfl) (x_load1 ag_26 rfl (by first | assumption | exact Cell.own 0 rfl rfl | exact Cell.own 1 rfl rfl | exact Cell.own 2 rfl rfl | exact Cell.own 3 rfl rfl | exact Cell.own 4 rfl rfl | exact Cell.own 5 rfl rfl | exact Cell.own 6 rfl rfl | exact Cell.own 7 rfl rfl | exact Cell.own 8 rfl rfl | exact Cell.own 9 rfl rfl | exact Cell.ofRo (by assumption))) (fun w hi => by first | exact hi.j | exact J.of_le (hle87) (fun x hx => hx) hi) ?_
        refine d_one 3 rfl (by kernel_rfl) (.inl rfl) (e_call rfl fn_19 rfl rfl (Keep_c h A cA B cB _ _ (hh.mono hle5) sm T cT (ht.mono hle5) true hn1 hn2) fun v87 ro87 L87 hle87 hp87 => ?_)
        obtain ⟨kA, kc, kB, kd, rfl, hSk, rfl⟩ := hp87
        rw [keepT_true] at hSk
        refine d_next (fun w hi => by first | exact hi.j | exact J.of_le (hle87) (fun x hx => hx) hi) ?_
        refine d_one 4 rfl (by kernel_rfl) (.inl rfl) (e_call rfl fn_12 rfl rfl (SameHistory_c (onT h (fun t => decide (t ∈ sm))) _ _ _ _ (keepT h sm true) _ _ _ _ _ _ (hS83.mono hle87) (by rw [keepT_true]; exact hSk)) fun v88 ro88 L88 hle88 hp88 => ?_)
        obtain ⟨rfl, rfl, rfl⟩ := hp88
        refine said 88 (.bool true) rfl (by simp [keepT_true]) ?_
        refine d_next (fun w hi => by first | exact hi.j | exact J.of_le (hle87) (fun x hx => hx) hi) ?_
        refine d_take 5 rfl (by kernel_rfl) (by kernel_rfl) (by kernel_rfl) (fun _ _ _ h => h) rfl (.inl rfl) (x_assign rfl) (fun w hi => by first | exact hi.j | exact J.of_le (hle87) (fun x hx => hx) hi) ?_
        refine d_end (by kernel_rfl) ?_
        refine n_then ?_
        refine seq ?_
        refine region ?_
        refine op (y (x_assign rfl) rfl ?_)
        refine nil ?_
        refine n_then ?_
        refine seq ?_
        refine seq ?_
        refine region ?_
        refine op (y (x_assign rfl) rfl ?_)
        refine nil ?_
        refine n_then ?_
        refine block ?_
        have hle6 := hle5.trans hle87
        have hm6 := hm5.mono hle87
        have hSa6 := hSa.mono hle87
        rw [show ((h.es.map evTx).length) = h.es.length by simp]
        refine emp ?_
        obtain ⟨roX, hroX⟩ : ∃ roX, ro87 = roX := ⟨_, rfl⟩
        subst hroX
        refine loop (fun m F ro' L' => ∃ (i : Nat) (A20 : Option Addr) (c20 : Nat) (R20 : List Blk), (m = h.es.length - i) ∧ (F = [(5, .pointer (some ⟨b5, 0, none⟩)), (6, .pointer (some ⟨b6, 0, none⟩)), (14, .pointer (some ⟨b14, 0, none⟩)), (17, .pointer (some ⟨b17, 0, none⟩)), (12, .slice A49 (h.os.length + 1) cap49), (13, .slice A55 (h.es.length + 1) cap55), (15, .bool true), (16, .bool true), (19, .bool true), (20, .slice A20 i c20), (21, .int .i64 (i : Nat))]) ∧ (ro87 = ro') ∧ (L' = R20 :: [(b18, Obj.cells [Value.slice A5 (onT h (fun t => decide (t ∈ sm))).os.length c5, Value.slice B5 (onT h (fun t => decide (t ∈ sm))).es.length c6].toArray 25 (0, 0))] :: [(b17, Obj.cells [Value.slice Aa h.es.length ca].toArray 26 (0, 0))] :: [(b14, Obj.cells [Value.slice A49 h.os.length cap49, Value.slice A55 h.es.length cap55].toArray 25 (0, 0))] :: [(b9, Obj.cells [Value.slice T sm.length cT].toArray 26 (0, 0))] :: [(b6, Obj.cells [Value.slice A2 k.os.length cA2, Value.slice B2 k.es.length cB2].toArray 25 (0, 0))] :: [(b5, Obj.cells [Value.slice A h.os.length cA, Value.slice B h.es.length cB].toArray 25 (0, 0))] :: L) ∧ (i ≤ h.es.length) ∧ (OwnS 3 1 A20 i c20 (((h.es.take i).map evTx).flatMap encInt) R20)) (h.es.length - 0) [(5, .pointer (some ⟨b5, 0, none⟩)), (6, .pointer (some ⟨b6, 0, none⟩)), (14, .pointer (some ⟨b14, 0, none⟩)), (17, .pointer (some ⟨b17, 0, none⟩)), (12, .slice A49 (h.os.length + 1) cap49), (13, .slice A55 (h.es.length + 1) cap55), (15, .bool true), (16, .bool true), (19, .bool true), (20, .slice none 0 0), (21, .int .i64 (0 : Nat))] ⟨rfl, rfl, rfl, rfl, rfl, rfl, rfl, rfl, rfl, rfl, rfl, trivial⟩ ⟨0, none, 0, [], rfl, rfl, rfl, rfl, by omega, OwnS.none_ 3 1⟩ ?_
        rintro m F ro' L' ⟨i, A20, c20, R20, rfl, rfl, rfl, rfl, hi, hO20⟩
        refine seq ?_
        refine seq ?_
        refine region ?_
        refine op (y (x_move rfl) rfl ?_)
        refine op (y (x_fieldAddr fo_25_1 rfl) rfl ?_)
        refine op (y (x_load1 ag_23 rfl (by first | assumption | exact Cell.own 0 rfl rfl | exact Cell.own 1 rfl rfl | exact Cell.own 2 rfl rfl | exact Cell.own 3 rfl rfl | exact Cell.own 4 rfl rfl | exact Cell.own 5 rfl rfl | exact Cell.own 6 rfl rfl | exact Cell.own 7 rfl rfl | exact Cell.own 8 rfl rfl | exact Cell.own 9 rfl rfl | exact Cell.ofRo (by assumption))) rfl ?_)
        refine op (y (x_lenSl sz_23 rfl) rfl ?_)
        refine op (y (x_lss rfl rfl) rfl ?_)
        refine nil ?_
        refine n_then ?_
        refine cond rfl (fun h16 => ?_) (fun h16 => ?_)
        · try simp only [decide_eq_true_eq, decide_eq_false_iff_not, beq_iff_eq, bne_iff_ne, ne_eq, beq_eq_false_iff_ne, bne_eq_false_iff_eq, Bool.not_eq_true', Bool.not_eq_false', Bool.not_eq_true, Bool.not_eq_false, Decidable.not_not, Int.not_lt, Int.not_le] at h16
          refine skip ?_
          refine n_then ?_
          refine seq ?_
          refine block ?_
          have hE6 := (hh.mono hle6).e
          obtain ⟨bbx, offx, rfl, hcx⟩ := hE6.at_ (i := i) (by omega)
          have hx := List.getElem?_eq_getElem (show i < h.es.length from by omega)
          have cx1 := hcx i _ hx 1 _ rfl
          refine region ?_
          refine op (y (x_move rfl) rfl ?_)
          refine op (y (x_fieldAddr fo_25_1 rfl) rfl ?_)
          refine op (y (x_load1 ag_23 rfl (by first | assumption | exact Cell.own 0 rfl rfl | exact Cell.own 1 rfl rfl | exact Cell.own 2 rfl rfl | exact Cell.own 3 rfl rfl | exact Cell.own 4 rfl rfl | exact Cell.own 5 rfl rfl | exact Cell.own 6 rfl rfl | exact Cell.own 7 rfl rfl | exact Cell.own 8 rfl rfl | exact Cell.own 9 rfl rfl | exact Cell.ofRo (by assumption))) rfl ?_)
          refine op (y (x_move rfl) rfl ?_)
          refine op (y (x_indexNat sz_23 rfl rfl (by omega)) rfl ?_)
          refine op (y (x_fieldAddr fo_34_1 rfl) rfl ?_)
          refine op (y (x_load1 ag_3 rfl (by first | assumption | exact Cell.own 0 rfl rfl | exact Cell.own 1 rfl rfl | exact Cell.own 2 rfl rfl | exact Cell.own 3 rfl rfl | exact Cell.own 4 rfl rfl | exact Cell.own 5 rfl rfl | exact Cell.own 6 rfl rfl | exact Cell.own 7 rfl rfl | exact Cell.own 8 rfl rfl | exact Cell.own 9 rfl rfl | exact Cell.ofRo (by assumption))) rfl ?_)
          refine op (e_slice1 rfl Tryd.underlying26 ti_3 rfl rfl (by decide) (by decide) rfl rfl rfl fun b103 => ?_)
          refine op (e_append1 0 rfl st_26 rfl rfl rfl hO20 rfl rfl (by omega) (by omega) (fun _ => rfl) fun A104 cap104 R104 hO104 => ?_)
          refine op (y (x_assign rfl) rfl ?_)
          refine nil ?_
          refine n_in ?_
          refine n_then ?_
          refine region ?_
          refine op (y (x_move rfl) rfl ?_)
          refine op (y (x_add rfl rfl _ (wr (by omega) (by omega))) rfl ?_)
          refine op (y (x_assign rfl) rfl ?_)
          refine nil ?_
          exact round (h.es.length - (i + 1)) [(5, .pointer (some ⟨b5, 0, none⟩)), (6, .pointer (some ⟨b6, 0, none⟩)), (14, .pointer (some ⟨b14, 0, none⟩)), (17, .pointer (some ⟨b17, 0, none⟩)), (12, .slice A49 (h.os.length + 1) cap49), (13, .slice A55 (h.es.length + 1) cap55), (15, .bool true), (16, .bool true), (19, .bool true), (20, .slice _ (i + 1) _), (21, .int .i64 ((i + 1) : Nat))] (by omega) ⟨rfl, rfl, rfl, rfl, rfl, rfl, rfl, rfl, rfl, rfl, rfl, trivial⟩ ⟨i + 1, _, _, _, rfl, rfl, rfl, rfl, by omega, by rw [map_take_snoc hx]; exact hO104.snoc (enc := encInt)⟩
        · try simp only [decide_eq_true_eq, decide_eq_false_iff_not, beq_iff_eq, bne_iff_ne, ne_eq, beq_eq_false_iff_ne, bne_eq_false_iff_eq, Bool.not_eq_true', Bool.not_eq_false', Bool.not_eq_true, Bool.not_eq_false, Decidable.not_not, Int.not_lt, Int.not_le] at h16
          refine exit ?_
          refine e_then ?_
          refine e_then ?_
          refine e_in ?_
          refine n_then ?_
          refine seq ?_
          obtain rfl : i = h.es.length := by omega
          rw [List.take_length] at hO20
          refine ufreeze fun rz6 hz6 hzR6 => ?_
          have hS20 : Sl rz6 1 encInt A20 c20 (h.es.map evTx) := OwnS.sl (hO20.cast (by simp) rfl) (fun _ _ => rfl) hzR6
          have hle7 := hle6.trans hz6
          have hm7 := hm6.mono hz6
          have hSo7 := hSo2.mono (hle69.trans (hle72.trans (hle76.trans (hle79.trans (hle83.trans (hz3.trans (hz4.trans (hz5.trans (hle87.trans hz6)))))))))
          have hSe7 := hSe.mono (hle69.trans (hle72.trans (hle76.trans (hle79.trans (hle83.trans (hz3.trans (hz4.trans (hz5.trans (hle87.trans hz6)))))))))
          obtain ⟨bbo, offo, rfl, hco⟩ := hSo7.at_ (i := h.os.length) (by simp)
          have ho := List.getElem?_eq_getElem (show h.os.length < (h.os ++ [(⟨47, 0⟩ : Ob)]).length from by simp)
          obtain ⟨bbe, offe, rfl, hce⟩ := hSe7.at_ (i := h.es.length) (by simp)
          have he := List.getElem?_eq_getElem (show h.es.length < (h.es ++ [(⟨47, 0, 0, 0, 0, 0, 0, 0⟩ : Ev)]).length from by simp)
          refine region ?_
          refine op (y ((by first | exact x_loadOwn 0 _ ag_25 rfl rfl rfl rfl | exact x_loadOwn 1 _ ag_25 rfl rfl rfl rfl | exact x_loadOwn 2 _ ag_25 rfl rfl rfl rfl | exact x_loadOwn 3 _ ag_25 rfl rfl rfl rfl | exact x_loadOwn 4 _ ag_25 rfl rfl rfl rfl | exact x_loadOwn 5 _ ag_25 rfl rfl rfl rfl | exact x_loadOwn 6 _ ag_25 rfl rfl rfl rfl | exact x_loadOwn 7 _ ag_25 rfl rfl rfl rfl | exact x_loadOwn 8 _ ag_25 rfl rfl rfl rfl | exact x_loadOwn 9 _ ag_25 rfl rfl rfl rfl | exact x_loadOwn 10 _ ag_25 rfl rfl rfl rfl | exact x_loadOwn 11 _ ag_25 rfl rfl rfl rfl)) rfl ?_)
          refine op (y ((by first | exact x_loadOwn 0 _ ag_25 rfl rfl rfl rfl | exact x_loadOwn 1 _ ag_25 rfl rfl rfl rfl | exact x_loadOwn 2 _ ag_25 rfl rfl rfl rfl | exact x_loadOwn 3 _ ag_25 rfl rfl rfl rfl | exact x_loadOwn 4 _ ag_25 rfl rfl rfl rfl | exact x_loadOwn 5 _ ag_25 rfl rfl rfl rfl | exact x_loadOwn 6 _ ag_25 rfl rfl rfl rfl | exact x_loadOwn 7 _ ag_25 rfl rfl rfl rfl | exact x_loadOwn 8 _ ag_25 rfl rfl rfl rfl | exact x_loadOwn 9 _ ag_25 rfl rfl rfl rfl | exact x_loadOwn 10 _ ag_25 rfl rfl rfl rfl | exact x_loadOwn 11 _ ag_25 rfl rfl rfl rfl)) rfl ?_)
          refine op (e_call rfl fn_12 rfl rfl (SameHistory_c h _ _ _ _ h _ _ _ _ _ _ hm7 (hh.mono hle7)) fun v107 ro107 L107 hle107 hp107 => ?_)
          obtain ⟨rfl, rfl, rfl⟩ := hp107
          refine said 107 (.bool true) rfl (by simp) ?_
          refine op (y (x_move rfl) rfl ?_)
          refine opG rfl rfl (y (x_move rfl) rfl ?_)
          refine opG rfl rfl (y (x_fieldAddr fo_25_0 rfl) rfl ?_)
          refine opG rfl rfl (y (x_load1 ag_22 rfl (by first | assumption | exact Cell.own 0 rfl rfl | exact Cell.own 1 rfl rfl | exact Cell.own 2 rfl rfl | exact Cell.own 3 rfl rfl | exact Cell.own 4 rfl rfl | exact Cell.own 5 rfl rfl | exact Cell.own 6 rfl rfl | exact Cell.own 7 rfl rfl | exact Cell.own 8 rfl rfl | exact Cell.own 9 rfl rfl | exact Cell.ofRo (by assumption))) rfl ?_)
          refine opG rfl rfl (y (x_lenSl sz_22 rfl) rfl ?_)
          refine opG rfl rfl (y (x_indexNat sz_22 rfl rfl (by omega)) rfl ?_)
          refine opG rfl rfl (y (x_fieldAddr fo_31_0 rfl) rfl ?_)
          refine opG rfl rfl (y (x_load1 ag_3 rfl (Cell.ofRo (hco h.os.length ⟨47, 0⟩ (by simp) 0 _ rfl))) rfl ?_)
          refine opG rfl rfl (y (x_eql rfl rfl) rfl ?_)
          refine said 116 (.bool true) rfl (rfl) ?_
          refine op (y (x_pickT rfl rfl) rfl ?_)
          refine op (y (x_move rfl) rfl ?_)
          refine opG rfl rfl (y (x_move rfl) rfl ?_)
          refine opG rfl rfl (y (x_fieldAddr fo_25_1 rfl) rfl ?_)
          refine opG rfl rfl (y (x_load1 ag_23 rfl (by first | assumption | exact Cell.own 0 rfl rfl | exact Cell.own 1 rfl rfl | exact Cell.own 2 rfl rfl | exact Cell.own 3 rfl rfl | exact Cell.own 4 rfl rfl | exact Cell.own 5 rfl rfl | exact Cell.own 6 rfl rfl | exact Cell.own 7 rfl rfl | exact Cell.own 8 rfl rfl | exact Cell.own 9 rfl rfl | exact Cell.ofRo (by assumption))) rfl ?_)
          refine opG rfl rfl (y (x_lenSl sz_23 rfl) rfl ?_)
          refine opG rfl rfl (y (x_indexNat sz_23 rfl rfl (by omega)) rfl ?_)
          refine opG rfl rfl (y (x_fieldAddr fo_34_0 rfl) rfl ?_)
          refine opG rfl rfl (y (x_load1 ag_3 rfl (Cell.ofRo (hce h.es.length ⟨47, 0, 0, 0, 0, 0, 0, 0⟩ (by simp) 0 _ rfl))) rfl ?_)
          refine opG rfl rfl (y (x_eql rfl rfl) rfl ?_)
          refine said 126 (.bool true) rfl (rfl) ?_
          refine op (y (x_pickT rfl rfl) rfl ?_)
          refine op (y (x_assign rfl) rfl ?_)
          refine nil ?_
          refine n_then ?_
          refine seq ?_
          refine drawL (by kernel_rfl) ?_
          refine d_take 0 rfl (by kernel_rfl) (by kernel_rfl) (by kernel_rfl) (fun _ _ _ h => h) rfl (.inl rfl) (x_move rfl) (fun w hi => by first | exact hi.j | exact J.of_le (Ro.le.refl _) (fun x hx => List.mem_append_right _ hx) hi | exact J.of_le (Ro.le.refl _) (fun x hx => List.mem_append_right _ (List.mem_append_right _ hx)) hi | exact J.of_le (Ro.le.refl _) (fun x hx => absurd hx (by simp)) hi | exact J.of_le (by assumption) (fun x hx => absurd hx (by simp)) hi) ?_
          refine d_take 1 rfl (by kernel_rfl) (by kernel_rfl) (by kernel_rfl) (fun _ _ _ h => h) rfl (.inl rfl) (x_move rfl) (fun w hi => by first | exact hi.j | exact J.of_le (Ro.le.refl _) (fun x hx => List.mem_append_right _ hx) hi | exact J.of_le (Ro.le.refl _) (fun x hx => List.mem_append_right _ (List.mem_append_right _ hx)) hi | exact J.of_le (Ro.le.refl _) (fun x hx => absurd hx (by simp)) hi | exact J.of_le (by assumption) (fun x hx => absurd hx (by simp)) hi) ?_
          refine d_take 2 rfl (by kernel_rfl) (by kernel_rfl) (by kernel_rfl) (fun _ _ _ h => h) rfl (.inr ⟨_, _, _, rfl, rfl, rfl⟩) (x_move rfl) (fun w hi => by first | exact hi.j | exact J.of_le (Ro.le.refl _) (fun x hx => List.mem_append_right _ hx) hi | exact J.of_le (Ro.le.refl _) (fun x hx => List.mem_append_right _ (List.mem_append_right _ hx)) hi | exact J.of_le (Ro.le.refl _) (fun x hx => absurd hx (by simp)) hi | exact J.of_le (by assumption) (fun x hx => absurd hx (by simp)) hi) ?_
          refine d_take 3 rfl (by kernel_rfl) (by kernel_rfl) (by kernel_rfl) (fun _ _ _ h => h) rfl (.inl rfl) (x_pickT rfl rfl) (fun w hi => by first | exact hi.j | exact J.of_le (Ro.le.refl _) (fun x hx => List.mem_append_right _ hx) hi | exact J.of_le (Ro.le.refl _) (fun x hx => List.mem_append_right _ (List.mem_append_right _ hx)) hi | exact J.of_le (Ro.le.refl _) (fun x hx => absurd hx (by simp)) hi | exact J.of_le (by assumption) (fun x hx => absurd hx (by simp)) hi) ?_
          refine d_take 4 rfl (by kernel_rfl) (by kernel_rfl) (by kernel_rfl) (fun _ _ _ h => h) rfl (.inl rfl) (x_move rfl) (fun w hi => by first | exact hi.j | exact J.of_le (Ro.le.refl _) (fun x hx => List.mem_append_right _ hx) hi | exact J.of_le (Ro.le.refl _) (fun x hx => List.mem_append_right _ (List.mem_append_right _ hx)) hi | exact J.of_le (Ro.le.refl _) (fun x hx => absurd hx (by simp)) hi | exact J.of_le (by assumption) (fun x hx => absurd hx (by simp)) hi) ?_
          refine d_take 5 rfl (by kernel_rfl) (by kernel_rfl) (by kernel_rfl) (fun _ _ _ h => h) rfl (.inr ⟨_, _, _, rfl, rfl, rfl⟩) (x_move rfl) (fun w hi => by first | exact hi.j | exact J.of_le (Ro.le.refl _) (fun x hx => List.mem_append_right _ hx) hi | exact J.of_le (Ro.le.refl _) (fun x hx => List.mem_append_right _ (List.mem_append_right _ hx)) hi | exact J.of_le (Ro.le.refl _) (fun x hx => absurd hx (by simp)) hi | exact J.of_le (by assumption) (fun x hx => absurd hx (by simp)) hi) ?_
          refine d_take 6 rfl (by kernel_rfl) (by kernel_rfl) (by kernel_rfl) (fun _ _ _ h => h) rfl (.inl rfl) (x_pickT rfl rfl) (fun w hi => by first | exact hi.j | exact J.of_le (Ro.le.refl _) (fun x hx => List.mem_append_right _ hx) hi | exact J.of_le (Ro.le.refl _) (fun x hx => List.mem_append_right _ (List.mem_append_right _ hx)) hi | exact J.of_le (Ro.le.refl _) (fun x hx => absurd hx (by simp)) hi | exact J.of_le (by assumption) (fun x hx => absurd hx (by simp)) hi) ?_
          refine d_take 7 rfl (by kernel_rfl) (by kernel_rfl) (by kernel_rfl) (fun _ _ _ h => h) rfl (.inl rfl) (x_move rfl) (fun w hi => by first | exact hi.j | exact J.of_le (Ro.le.refl _) (fun x hx => List.mem_append_right _ hx) hi | exact J.of_le (Ro.le.refl _) (fun x hx => List.mem_append_right _ (List.mem_append_right _ hx)) hi | exact J.of_le (Ro.le.refl _) (fun x hx => absurd hx (by simp)) hi | exact J.of_le (by assumption) (fun x hx => absurd hx (by simp)) hi) ?_
          refine d_take 8 rfl (by kernel_rfl) (by kernel_rfl) (by kernel_rfl) (fun _ _ _ h => h) rfl (.inr ⟨_, _, _, rfl, rfl, rfl⟩) (x_load1 (v := .slice Aa (h.es.map evTx).length ca) ag_26 rfl (by rw [show (h.es.map evTx).length = h.es.length by simp]; exact Cell.own 1 rfl rfl)) (fun w hi => by first | exact hi.j | exact J.of_le (Ro.le.refl _) (fun x hx => List.mem_append_right _ hx) hi | exact J.of_le (Ro.le.refl _) (fun x hx => List.mem_append_right _ (List.mem_append_right _ hx)) hi | exact J.of_le (Ro.le.refl _) (fun x hx => absurd hx (by simp)) hi | exact J.of_le (by assumption) (fun x hx => absurd hx (by simp)) hi) ?_
          refine d_take 9 rfl (by kernel_rfl) (by kernel_rfl) (by kernel_rfl) (fun _ _ _ h => h) rfl (.inr ⟨_, _, _, rfl, rfl, rfl⟩) (Ex.as (v' := .slice A20 (h.es.map evTx).length c20) (x_move rfl) (by simp)) (fun w hi => by first | exact hi.j | exact J.of_le (Ro.le.refl _) (fun x hx => List.mem_append_right _ hx) hi | exact J.of_le (Ro.le.refl _) (fun x hx => List.mem_append_right _ (List.mem_append_right _ hx)) hi | exact J.of_le (Ro.le.refl _) (fun x hx => absurd hx (by simp)) hi | exact J.of_le (by assumption) (fun x hx => absurd hx (by simp)) hi) ?_
          refine d_one 10 rfl (by kernel_rfl) (.inr ⟨_, _, _, rfl, rfl, rfl⟩) (e_call rfl fn_20 rfl rfl (SameInts_c (h.es.map evTx) _ _ (h.es.map evTx) _ _ _ _ (hSa6.mono hz6) hS20) fun v138 ro138 L138 hle138 hp138 => ?_)
          obtain ⟨rfl, rfl, rfl⟩ := hp138
          refine said 138 (.bool true) rfl (by simp) ?_
          refine d_next (fun w hi => by first | exact hi.j | exact J.of_le (Ro.le.refl _) (fun x hx => List.mem_append_right _ hx) hi | exact J.of_le (Ro.le.refl _) (fun x hx => List.mem_append_right _ (List.mem_append_right _ hx)) hi | exact J.of_le (Ro.le.refl _) (fun x hx => absurd hx (by simp)) hi | exact J.of_le (by assumption) (fun x hx => absurd hx (by simp)) hi) ?_
          refine d_take 11 rfl (by kernel_rfl) (by kernel_rfl) (by kernel_rfl) (fun _ _ _ h => h) rfl (.inl rfl) (x_pickT rfl rfl) (fun w hi => by first | exact hi.j | exact J.of_le (Ro.le.refl _) (fun x hx => List.mem_append_right _ hx) hi | exact J.of_le (Ro.le.refl _) (fun x hx => List.mem_append_right _ (List.mem_append_right _ hx)) hi | exact J.of_le (Ro.le.refl _) (fun x hx => absurd hx (by simp)) hi | exact J.of_le (by assumption) (fun x hx => absurd hx (by simp)) hi) ?_
          refine d_take 12 rfl (by kernel_rfl) (by kernel_rfl) (by kernel_rfl) (fun _ _ _ h => h) rfl (.inl rfl) (x_move rfl) (fun w hi => by first | exact hi.j | exact J.of_le (Ro.le.refl _) (fun x hx => List.mem_append_right _ hx) hi | exact J.of_le (Ro.le.refl _) (fun x hx => List.mem_append_right _ (List.mem_append_right _ hx)) hi | exact J.of_le (Ro.le.refl _) (fun x hx => absurd hx (by simp)) hi | exact J.of_le (by assumption) (fun x hx => absurd hx (by simp)) hi) ?_
          refine d_take 13 rfl (by kernel_rfl) (by kernel_rfl) (by kernel_rfl) (fun _ _ _ h => h) rfl (.inr ⟨_, _, _, rfl, rfl, rfl⟩) (x_move rfl) (fun w hi => by first | exact hi.j | exact J.of_le (Ro.le.refl _) (fun x hx => List.mem_append_right _ hx) hi | exact J.of_le (Ro.le.refl _) (fun x hx => List.mem_append_right _ (List.mem_append_right _ hx)) hi | exact J.of_le (Ro.le.refl _) (fun x hx => absurd hx (by simp)) hi | exact J.of_le (by assumption) (fun x hx => absurd hx (by simp)) hi) ?_
          refine d_take 14 rfl (by kernel_rfl) (by kernel_rfl) (by kernel_rfl) (fun _ _ _ h => h) rfl (.inl rfl) (x_pickT rfl rfl) (fun w hi => by first | exact hi.j | exact J.of_le (Ro.le.refl _) (fun x hx => List.mem_append_right _ hx) hi | exact J.of_le (Ro.le.refl _) (fun x hx => List.mem_append_right _ (List.mem_append_right _ hx)) hi | exact J.of_le (Ro.le.refl _) (fun x hx => absurd hx (by simp)) hi | exact J.of_le (by assumption) (fun x hx => absurd hx (by simp)) hi) ?_
          refine d_take 15 rfl (by kernel_rfl) (by kernel_rfl) (by kernel_rfl) (fun _ _ _ h => h) rfl (.inl rfl) (x_move rfl) (fun w hi => by first | exact hi.j | exact J.of_le (Ro.le.refl _) (fun x hx => List.mem_append_right _ hx) hi | exact J.of_le (Ro.le.refl _) (fun x hx => List.mem_append_right _ (List.mem_append_right _ hx)) hi | exact J.of_le (Ro.le.refl _) (fun x hx => absurd hx (by simp)) hi | exact J.of_le (by assumption) (fun x hx => absurd hx (by simp)) hi) ?_
          refine d_take 16 rfl (by kernel_rfl) (by kernel_rfl) (by kernel_rfl) (fun _ _ _ h => h) rfl (.inr ⟨_, _, _, rfl, rfl, rfl⟩) ((by first | exact x_loadOwn 0 _ ag_25 rfl rfl rfl rfl | exact x_loadOwn 1 _ ag_25 rfl rfl rfl rfl | exact x_loadOwn 2 _ ag_25 rfl rfl rfl rfl | exact x_loadOwn 3 _ ag_25 rfl rfl rfl rfl | exact x_loadOwn 4 _ ag_25 rfl rfl rfl rfl | exact x_loadOwn 5 _ ag_25 rfl rfl rfl rfl | exact x_loadOwn 6 _ ag_25 rfl rfl rfl rfl | exact x_loadOwn 7 _ ag_25 rfl rfl rfl rfl | exact x_loadOwn 8 _ ag_25 rfl rfl rfl rfl | exact x_loadOwn 9 _ ag_25 rfl rfl rfl rfl | exact x_loadOwn 10 _ ag_25 rfl rfl rfl rfl | exact x_loadOwn 11 _ ag_25 rfl rfl rfl rfl)) (fun w hi => by first | exact hi.j | exact J.of_le (Ro.le.refl _) (fun x hx => List.mem_append_right _ hx) hi | exact J.of_le (Ro.le.refl _) (fun x hx => List.mem_append_right _ (List.mem_append_right _ hx)) hi | exact J.of_le (Ro.le.refl _) (fun x hx => absurd hx (by simp)) hi | exact J.of_le (by assumption) (fun x hx => absurd hx (by simp)) hi) ?_
          refine d_take 17 rfl (by kernel_rfl) (by kernel_rfl) (by kernel_rfl) (fun _ _ _ h => h) rfl (.inr ⟨_, _, _, rfl, rfl, rfl⟩) ((by first | exact x_loadOwn 0 _ ag_25 rfl rfl rfl rfl | exact x_loadOwn 1 _ ag_25 rfl rfl rfl rfl | exact x_loadOwn 2 _ ag_25 rfl rfl rfl rfl | exact x_loadOwn 3 _ ag_25 rfl rfl rfl rfl | exact x_loadOwn 4 _ ag_25 rfl rfl rfl rfl | exact x_loadOwn 5 _ ag_25 rfl rfl rfl rfl | exact x_loadOwn 6 _ ag_25 rfl rfl rfl rfl | exact x_loadOwn 7 _ ag_25 rfl rfl rfl rfl | exact x_loadOwn 8 _ ag_25 rfl rfl rfl rfl | exact x_loadOwn 9 _ ag_25 rfl rfl rfl rfl | exact x_loadOwn 10 _ ag_25 rfl rfl rfl rfl | exact x_loadOwn 11 _ ag_25 rfl rfl rfl rfl)) (fun w hi => by first | exact hi.j | exact J.of_le (Ro.le.refl _) (fun x hx => List.mem_append_right _ hx) hi | exact J.of_le (Ro.le.refl _) (fun x hx => List.mem_append_right _ (List.mem_append_right _ hx)) hi | exact J.of_le (Ro.le.refl _) (fun x hx => absurd hx (by simp)) hi | exact J.of_le (by assumption) (fun x hx => absurd hx (by simp)) hi) ?_
          refine d_take 19 rfl (by kernel_rfl) (by kernel_rfl) (by kernel_rfl) (fun _ _ _ h => h) rfl (.inr ⟨_, _, _, rfl, rfl, rfl⟩) ((by first | exact x_loadOwn 0 _ ag_25 rfl rfl rfl rfl | exact x_loadOwn 1 _ ag_25 rfl rfl rfl rfl | exact x_loadOwn 2 _ ag_25 rfl rfl rfl rfl | exact x_loadOwn 3 _ ag_25 rfl rfl rfl rfl | exact x_loadOwn 4 _ ag_25 rfl rfl rfl rfl | exact x_loadOwn 5 _ ag_25 rfl rfl rfl rfl | exact x_loadOwn 6 _ ag_25 rfl rfl rfl rfl | exact x_loadOwn 7 _ ag_25 rfl rfl rfl rfl | exact x_loadOwn 8 _ ag_25 rfl rfl rfl rfl | exact x_loadOwn 9 _ ag_25 rfl rfl rfl rfl | exact x_loadOwn 10 _ ag_25 rfl rfl rfl rfl | exact x_loadOwn 11 _ ag_25 rfl rfl rfl rfl)) (fun w hi => by first | exact hi.j | exact J.of_le (Ro.le.refl _) (fun x hx => List.mem_append_right _ hx) hi | exact J.of_le (Ro.le.refl _) (fun x hx => List.mem_append_right _ (List.mem_append_right _ hx)) hi | exact J.of_le (Ro.le.refl _) (fun x hx => absurd hx (by simp)) hi | exact J.of_le (by assumption) (fun x hx => absurd hx (by simp)) hi) ?_
          refine d_take 20 rfl (by kernel_rfl) (by kernel_rfl) (by kernel_rfl) (fun _ _ _ h => h) rfl (.inr ⟨_, _, _, rfl, rfl, rfl⟩) ((by first | exact x_loadOwn 0 _ ag_25 rfl rfl rfl rfl | exact x_loadOwn 1 _ ag_25 rfl rfl rfl rfl | exact x_loadOwn 2 _ ag_25 rfl rfl rfl rfl | exact x_loadOwn 3 _ ag_25 rfl rfl rfl rfl | exact x_loadOwn 4 _ ag_25 rfl rfl rfl rfl | exact x_loadOwn 5 _ ag_25 rfl rfl rfl rfl | exact x_loadOwn 6 _ ag_25 rfl rfl rfl rfl | exact x_loadOwn 7 _ ag_25 rfl rfl rfl rfl | exact x_loadOwn 8 _ ag_25 rfl rfl rfl rfl | exact x_loadOwn 9 _ ag_25 rfl rfl rfl rfl | exact x_loadOwn 10 _ ag_25 rfl rfl rfl rfl | exact x_loadOwn 11 _ ag_25 rfl rfl rfl rfl)) (fun w hi => by first | exact hi.j | exact J.of_le (Ro.le.refl _) (fun x hx => List.mem_append_right _ hx) hi | exact J.of_le (Ro.le.refl _) (fun x hx => List.mem_append_right _ (List.mem_append_right _ hx)) hi | exact J.of_le (Ro.le.refl _) (fun x hx => absurd hx (by simp)) hi | exact J.of_le (by assumption) (fun x hx => absurd hx (by simp)) hi) ?_
          refine d_one 18 rfl (by kernel_rfl) (.inr ⟨_, _, _, rfl, rfl, rfl⟩) (e_call rfl fn_21 rfl rfl (Sub_c h _ _ _ _ k _ _ _ _ _ _ hm7 (hk.mono hle7)) fun v146 ro146 L146 hle146 hp146 => ?_)
          obtain ⟨rfl, rfl, rfl⟩ := hp146
          refine d_next (fun w hi => by first | exact hi.j | exact J.of_le (Ro.le.refl _) (fun x hx => List.mem_append_right _ hx) hi | exact J.of_le (Ro.le.refl _) (fun x hx => List.mem_append_right _ (List.mem_append_right _ hx)) hi | exact J.of_le (Ro.le.refl _) (fun x hx => absurd hx (by simp)) hi | exact J.of_le (by assumption) (fun x hx => absurd hx (by simp)) hi) ?_
          refine d_one 21 rfl (by kernel_rfl) (.inr ⟨_, _, _, rfl, rfl, rfl⟩) (e_call rfl fn_22 rfl rfl (SubR_c h _ _ _ _ k _ _ _ _ _ _ (hh.mono hle7) (hk.mono hle7)) fun v149 ro149 L149 hle149 hp149 => ?_)
          obtain ⟨rfl, rfl, rfl⟩ := hp149
          refine d_next (fun w hi => by first | exact hi.j | exact J.of_le (Ro.le.refl _) (fun x hx => List.mem_append_right _ hx) hi | exact J.of_le (Ro.le.refl _) (fun x hx => List.mem_append_right _ (List.mem_append_right _ hx)) hi | exact J.of_le (Ro.le.refl _) (fun x hx => absurd hx (by simp)) hi | exact J.of_le (by assumption) (fun x hx => absurd hx (by simp)) hi) ?_
          refine d_take 22 rfl (by kernel_rfl) (by kernel_rfl) (by kernel_rfl) (fun _ _ _ h => h) rfl (.inr ⟨_, _, _, rfl, rfl, rfl⟩) (x_beql Tryd.underlying4 rfl rfl) (fun w hi => by first | exact hi.j | exact J.of_le (Ro.le.refl _) (fun x hx => List.mem_append_right _ hx) hi | exact J.of_le (Ro.le.refl _) (fun x hx => List.mem_append_right _ (List.mem_append_right _ hx)) hi | exact J.of_le (Ro.le.refl _) (fun x hx => absurd hx (by simp)) hi | exact J.of_le (by assumption) (fun x hx => absurd hx (by simp)) hi) ?_
          refine said 150 (.bool true) rfl (by simp) ?_
          refine d_take 23 rfl (by kernel_rfl) (by kernel_rfl) (by kernel_rfl) (fun _ _ _ h => h) rfl (.inl rfl) (x_pickT rfl rfl) (fun w hi => by first | exact hi.j | exact J.of_le (Ro.le.refl _) (fun x hx => List.mem_append_right _ hx) hi | exact J.of_le (Ro.le.refl _) (fun x hx => List.mem_append_right _ (List.mem_append_right _ hx)) hi | exact J.of_le (Ro.le.refl _) (fun x hx => absurd hx (by simp)) hi | exact J.of_le (by assumption) (fun x hx => absurd hx (by simp)) hi) ?_
          refine d_take 24 rfl (by kernel_rfl) (by kernel_rfl) (by kernel_rfl) (fun _ _ _ h => h) rfl (.inl rfl) (x_move rfl) (fun w hi => by first | exact hi.j | exact J.of_le (Ro.le.refl _) (fun x hx => List.mem_append_right _ hx) hi | exact J.of_le (Ro.le.refl _) (fun x hx => List.mem_append_right _ (List.mem_append_right _ hx)) hi | exact J.of_le (Ro.le.refl _) (fun x hx => absurd hx (by simp)) hi | exact J.of_le (by assumption) (fun x hx => absurd hx (by simp)) hi) ?_
          refine d_take 25 rfl (by kernel_rfl) (by kernel_rfl) (by kernel_rfl) (fun _ _ _ h => h) rfl (.inr ⟨_, _, _, rfl, rfl, rfl⟩) ((by first | exact x_loadOwn 0 _ ag_25 rfl rfl rfl rfl | exact x_loadOwn 1 _ ag_25 rfl rfl rfl rfl | exact x_loadOwn 2 _ ag_25 rfl rfl rfl rfl | exact x_loadOwn 3 _ ag_25 rfl rfl rfl rfl | exact x_loadOwn 4 _ ag_25 rfl rfl rfl rfl | exact x_loadOwn 5 _ ag_25 rfl rfl rfl rfl | exact x_loadOwn 6 _ ag_25 rfl rfl rfl rfl | exact x_loadOwn 7 _ ag_25 rfl rfl rfl rfl | exact x_loadOwn 8 _ ag_25 rfl rfl rfl rfl | exact x_loadOwn 9 _ ag_25 rfl rfl rfl rfl | exact x_loadOwn 10 _ ag_25 rfl rfl rfl rfl | exact x_loadOwn 11 _ ag_25 rfl rfl rfl rfl)) (fun w hi => by first | exact hi.j | exact J.of_le (Ro.le.refl _) (fun x hx => List.mem_append_right _ hx) hi | exact J.of_le (Ro.le.refl _) (fun x hx => List.mem_append_right _ (List.mem_append_right _ hx)) hi | exact J.of_le (Ro.le.refl _) (fun x hx => absurd hx (by simp)) hi | exact J.of_le (by assumption) (fun x hx => absurd hx (by simp)) hi) ?_
          refine d_take 26 rfl (by kernel_rfl) (by kernel_rfl) (by kernel_rfl) (fun _ _ _ h => h) rfl (.inr ⟨_, _, _, rfl, rfl, rfl⟩) ((by first | exact x_loadOwn 0 _ ag_25 rfl rfl rfl rfl | exact x_loadOwn 1 _ ag_25 rfl rfl rfl rfl | exact x_loadOwn 2 _ ag_25 rfl rfl rfl rfl | exact x_loadOwn 3 _ ag_25 rfl rfl rfl rfl | exact x_loadOwn 4 _ ag_25 rfl rfl rfl rfl | exact x_loadOwn 5 _ ag_25 rfl rfl rfl rfl | exact x_loadOwn 6 _ ag_25 rfl rfl rfl rfl | exact x_loadOwn 7 _ ag_25 rfl rfl rfl rfl | exact x_loadOwn 8 _ ag_25 rfl rfl rfl rfl | exact x_loadOwn 9 _ ag_25 rfl rfl rfl rfl | exact x_loadOwn 10 _ ag_25 rfl rfl rfl rfl | exact x_loadOwn 11 _ ag_25 rfl rfl rfl rfl)) (fun w hi => by first | exact hi.j | exact J.of_le (Ro.le.refl _) (fun x hx => List.mem_append_right _ hx) hi | exact J.of_le (Ro.le.refl _) (fun x hx => List.mem_append_right _ (List.mem_append_right _ hx)) hi | exact J.of_le (Ro.le.refl _) (fun x hx => absurd hx (by simp)) hi | exact J.of_le (by assumption) (fun x hx => absurd hx (by simp)) hi) ?_
          refine d_take 28 rfl (by kernel_rfl) (by kernel_rfl) (by kernel_rfl) (fun _ _ _ h => h) rfl (.inr ⟨_, _, _, rfl, rfl, rfl⟩) ((by first | exact x_loadOwn 0 _ ag_25 rfl rfl rfl rfl | exact x_loadOwn 1 _ ag_25 rfl rfl rfl rfl | exact x_loadOwn 2 _ ag_25 rfl rfl rfl rfl | exact x_loadOwn 3 _ ag_25 rfl rfl rfl rfl | exact x_loadOwn 4 _ ag_25 rfl rfl rfl rfl | exact x_loadOwn 5 _ ag_25 rfl rfl rfl rfl | exact x_loadOwn 6 _ ag_25 rfl rfl rfl rfl | exact x_loadOwn 7 _ ag_25 rfl rfl rfl rfl | exact x_loadOwn 8 _ ag_25 rfl rfl rfl rfl | exact x_loadOwn 9 _ ag_25 rfl rfl rfl rfl | exact x_loadOwn 10 _ ag_25 rfl rfl rfl rfl | exact x_loadOwn 11 _ ag_25 rfl rfl rfl rfl)) (fun w hi => by first | exact hi.j | exact J.of_le (Ro.le.refl _) (fun x hx => List.mem_append_right _ hx) hi | exact J.of_le (Ro.le.refl _) (fun x hx => List.mem_append_right _ (List.mem_append_right _ hx)) hi | exact J.of_le (Ro.le.refl _) (fun x hx => absurd hx (by simp)) hi | exact J.of_le (by assumption) (fun x hx => absurd hx (by simp)) hi) ?_
          refine d_take 29 rfl (by kernel_rfl) (by kernel_rfl) (by kernel_rfl) (fun _ _ _ h => h) rfl (.inr ⟨_, _, _, rfl, rfl, rfl⟩) ((by first | exact x_loadOwn 0 _ ag_25 rfl rfl rfl rfl | exact x_loadOwn 1 _ ag_25 rfl rfl rfl rfl | exact x_loadOwn 2 _ ag_25 rfl rfl rfl rfl | exact x_loadOwn 3 _ ag_25 rfl rfl rfl rfl | exact x_loadOwn 4 _ ag_25 rfl rfl rfl rfl | exact x_loadOwn 5 _ ag_25 rfl rfl rfl rfl | exact x_loadOwn 6 _ ag_25 rfl rfl rfl rfl | exact x_loadOwn 7 _ ag_25 rfl rfl rfl rfl | exact x_loadOwn 8 _ ag_25 rfl rfl rfl rfl | exact x_loadOwn 9 _ ag_25 rfl rfl rfl rfl | exact x_loadOwn 10 _ ag_25 rfl rfl rfl rfl | exact x_loadOwn 11 _ ag_25 rfl rfl rfl rfl)) (fun w hi => by first | exact hi.j | exact J.of_le (Ro.le.refl _) (fun x hx => List.mem_append_right _ hx) hi | exact J.of_le (Ro.le.refl _) (fun x hx => List.mem_append_right _ (List.mem_append_right _ hx)) hi | exact J.of_le (Ro.le.refl _) (fun x hx => absurd hx (by simp)) hi | exact J.of_le (by assumption) (fun x hx => absurd hx (by simp)) hi) ?_
          refine d_one 27 rfl (by kernel_rfl) (.inr ⟨_, _, _, rfl, rfl, rfl⟩) (e_call rfl fn_21 rfl rfl (Sub_c k _ _ _ _ h _ _ _ _ _ _ (hk.mono hle7) hm7) fun v155 ro155 L155 hle155 hp155 => ?_)
          obtain ⟨rfl, rfl, rfl⟩ := hp155
          refine d_next (fun w hi => by first | exact hi.j | exact J.of_le (Ro.le.refl _) (fun x hx => List.mem_append_right _ hx) hi | exact J.of_le (Ro.le.refl _) (fun x hx => List.mem_append_right _ (List.mem_append_right _ hx)) hi | exact J.of_le (Ro.le.refl _) (fun x hx => absurd hx (by simp)) hi | exact J.of_le (by assumption) (fun x hx => absurd hx (by simp)) hi) ?_
          refine d_one 30 rfl (by kernel_rfl) (.inr ⟨_, _, _, rfl, rfl, rfl⟩) (e_call rfl fn_22 rfl rfl (SubR_c k _ _ _ _ h _ _ _ _ _ _ (hk.mono hle7) (hh.mono hle7)) fun v158 ro158 L158 hle158 hp158 => ?_)
          obtain ⟨rfl, rfl, rfl⟩ := hp158
          refine d_next (fun w hi => by first | exact hi.j | exact J.of_le (Ro.le.refl _) (fun x hx => List.mem_append_right _ hx) hi | exact J.of_le (Ro.le.refl _) (fun x hx => List.mem_append_right _ (List.mem_append_right _ hx)) hi | exact J.of_le (Ro.le.refl _) (fun x hx => absurd hx (by simp)) hi | exact J.of_le (by assumption) (fun x hx => absurd hx (by simp)) hi) ?_
          refine d_take 31 rfl (by kernel_rfl) (by kernel_rfl) (by kernel_rfl) (fun _ _ _ h => h) rfl (.inr ⟨_, _, _, rfl, rfl, rfl⟩) (x_beql Tryd.underlying4 rfl rfl) (fun w hi => by first | exact hi.j | exact J.of_le (Ro.le.refl _) (fun x hx => List.mem_append_right _ hx) hi | exact J.of_le (Ro.le.refl _) (fun x hx => List.mem_append_right _ (List.mem_append_right _ hx)) hi | exact J.of_le (Ro.le.refl _) (fun x hx => absurd hx (by simp)) hi | exact J.of_le (by assumption) (fun x hx => absurd hx (by simp)) hi) ?_
          refine said 159 (.bool true) rfl (by simp) ?_
          refine d_take 32 rfl (by kernel_rfl) (by kernel_rfl) (by kernel_rfl) (fun _ _ _ h => h) rfl (.inl rfl) (x_pickT rfl rfl) (fun w hi => by first | exact hi.j | exact J.of_le (Ro.le.refl _) (fun x hx => List.mem_append_right _ hx) hi | exact J.of_le (Ro.le.refl _) (fun x hx => List.mem_append_right _ (List.mem_append_right _ hx)) hi | exact J.of_le (Ro.le.refl _) (fun x hx => absurd hx (by simp)) hi | exact J.of_le (by assumption) (fun x hx => absurd hx (by simp)) hi) ?_
          refine d_take 33 rfl (by kernel_rfl) (by kernel_rfl) (by kernel_rfl) (fun _ _ _ h => h) rfl (.inl rfl) (x_assign rfl) (fun w hi => by first | exact hi.j | exact J.of_le (Ro.le.refl _) (fun x hx => List.mem_append_right _ hx) hi | exact J.of_le (Ro.le.refl _) (fun x hx => List.mem_append_right _ (List.mem_append_right _ hx)) hi | exact J.of_le (Ro.le.refl _) (fun x hx => absurd hx (by simp)) hi | exact J.of_le (by assumption) (fun x hx => absurd hx (by simp)) hi) ?_
          refine d_end (by kernel_rfl) ?_
          refine n_then ?_
          refine ret ?_
          exact done rfl (.tmp rfl (.nil)) (hle7) (L) (subF (by (repeat (first | exact List.Sublist.refl _ | apply List.Sublist.cons_cons | apply List.Sublist.cons)); done)) (⟨rfl, rfl⟩)

end Go.Proofs.YtijafcilfefafaaDoor
