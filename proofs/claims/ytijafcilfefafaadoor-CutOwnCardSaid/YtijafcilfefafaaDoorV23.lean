/- The walk of CutOwn. -/
import Derived.Test.YtijafcilfefafaaDoorV22
namespace Go.Proofs.YtijafcilfefafaaDoor
open Go Go.U
set_option maxRecDepth 20000
set_option linter.unusedSimpArgs false
set_option linter.unusedVariables false

theorem flat_len {α : Type} {k : Nat} {enc : α → List Value} {l : List α} (h : ∀ x ∈ l, (enc x).length = k) : (l.flatMap enc).length = l.length * k := by
  induction l with
  | nil => simp
  | cons a l ih => rw [List.flatMap_cons, List.length_append, ih (fun x hx => h x (by simp [hx])), h a (by simp), List.length_cons, Nat.add_mul]; omega
/-- a list's element is written over -/
theorem set_flat {α : Type} {k : Nat} {enc : α → List Value} (henc : ∀ x, (enc x).length = k) (x : α) : ∀ (l : List α) (i : Nat), i < l.length → (l.flatMap enc).take (i * k) ++ enc x ++ (l.flatMap enc).drop (i * k + k) = (l.set i x).flatMap enc
  | [], i, h => by simp at h
  | a :: l, 0, _ => by
    rw [Nat.zero_mul, List.take_zero, List.nil_append, List.flatMap_cons, List.set_cons_zero, List.flatMap_cons, Nat.zero_add, List.drop_append_of_le_length (by rw [henc]; omega), List.drop_eq_nil_of_le (by rw [henc]; omega), List.nil_append]
  | a :: l, i + 1, h => by
    have ha := henc a
    have e1 : (i + 1) * k = k + i * k := by rw [Nat.add_mul]; omega
    rw [List.flatMap_cons, List.set_cons_succ, List.flatMap_cons, ← set_flat henc x l i (by simpa using h), e1, ← ha, List.take_length_add_append, Nat.add_assoc, List.drop_length_add_append, ha]
    simp
/-- a list was written over -/
def Spoilt (os es : Nat) (oA : Option Addr) (oc : Nat) (eA : Option Addr) (ec : Nat) (L : List (List Blk)) : Value → Ro → List (List Blk) → Prop := fun _ _ L' => ∃ (os' : List Ob) (es' : List Ev) (R1 R2 : List Blk), os'.length = os ∧ es'.length = es ∧ OwnS 31 2 oA os oc (os'.flatMap encOb) R1 ∧ OwnS 34 8 eA es ec (es'.flatMap encEv) R2 ∧ L' = R1 :: R2 :: L

theorem spoil_c (os : List Ob) (oA : Option Addr) (oc : Nat) (R1 : List Blk) (hO0 : OwnS 31 2 oA os.length oc (os.flatMap encOb) R1) (es : List Ev) (eA : Option Addr) (ec : Nat) (R2 : List Blk) (hO1 : OwnS 34 8 eA es.length ec (es.flatMap encEv) R2) (hn1 : os.length ≤ 100) (hn2 : es.length ≤ 600) (ro : Ro) (L : List (List Blk)) :
    CT Tryd.prog 30 [.agg [.slice oA os.length oc, .slice eA es.length ec].toArray].toArray ro (R1 :: R2 :: L) (Spoilt os.length es.length oA oc eA ec L) := by
  refine enter Tryd.func30 rfl Tryd.ntmps30 rfl ?_
  refine seq ?_
  refine region ?_
  refine op (e_box rfl rfl rfl fun b1 => ?_)
  refine nil ?_
  refine n_then ?_
  refine seq ?_
  refine seq ?_
  refine region ?_
  refine op (y (x_assign rfl) rfl ?_)
  refine nil ?_
  refine n_then ?_
  refine block ?_
  refine loop (fun m F ro' L' => ∃ (i : Nat) (o2 : List Ob) (R1 : List Blk), (m = os.length - i) ∧ (F = [(1, .pointer (some ⟨b1, 0, none⟩)), (2, .int .i64 (i : Nat))]) ∧ (ro = ro') ∧ (L' = [(b1, Obj.cells [Value.slice oA os.length oc, Value.slice eA es.length ec].toArray 25 (0, 0))] :: R1 :: R2 :: L) ∧ (i ≤ os.length) ∧ (o2.length = os.length) ∧ (OwnS 31 2 oA os.length oc (o2.flatMap encOb) R1)) (os.length - 0) [(1, .pointer (some ⟨b1, 0, none⟩)), (2, .int .i64 (0 : Nat))] ⟨rfl, rfl, trivial⟩ ⟨0, os, R1, rfl, rfl, rfl, rfl, by omega, rfl, hO0⟩ ?_
  rintro m F ro' L' ⟨i, o2, R1, rfl, rfl, rfl, rfl, hi, hl, hO⟩
  refine seq ?_
  refine seq ?_
  refine region ?_
  refine op (y (x_move rfl) rfl ?_)
  refine op (y (x_fieldAddr fo_25_0 rfl) rfl ?_)
  refine op (y (x_load1 ag_22 rfl (by first | assumption | exact Cell.own 0 rfl rfl | exact Cell.own 1 rfl rfl | exact Cell.own 2 rfl rfl | exact Cell.own 3 rfl rfl | exact Cell.own 4 rfl rfl | exact Cell.own 5 rfl rfl | exact Cell.own 6 rfl rfl | exact Cell.own 7 rfl rfl | exact Cell.own 8 rfl rfl | exact Cell.own 9 rfl rfl | exact Cell.ofRo (by assumption))) rfl ?_)
  refine op (y (x_lenSl sz_22 rfl) rfl ?_)
  refine op (y (x_lss rfl rfl) rfl ?_)
  refine nil ?_
  refine n_then ?_
  refine cond rfl (fun h2 => ?_) (fun h2 => ?_)
  · try simp only [decide_eq_true_eq, decide_eq_false_iff_not, beq_iff_eq, bne_iff_ne, ne_eq, beq_eq_false_iff_ne, bne_eq_false_iff_eq, Bool.not_eq_true', Bool.not_eq_false', Bool.not_eq_true, Bool.not_eq_false, Decidable.not_not, Int.not_lt, Int.not_le] at h2
    refine skip ?_
    refine n_then ?_
    refine seq ?_
    refine block ?_
    obtain ⟨bd, off, cur, rfl, rfl, _, _⟩ := hO.at_ (by omega)
    refine region ?_
    refine op (y (x_fieldAddr fo_25_0 rfl) rfl ?_)
    refine op (y (x_load1 ag_22 rfl (by first | assumption | exact Cell.own 0 rfl rfl | exact Cell.own 1 rfl rfl | exact Cell.own 2 rfl rfl | exact Cell.own 3 rfl rfl | exact Cell.own 4 rfl rfl | exact Cell.own 5 rfl rfl | exact Cell.own 6 rfl rfl | exact Cell.own 7 rfl rfl | exact Cell.own 8 rfl rfl | exact Cell.own 9 rfl rfl | exact Cell.ofRo (by assumption))) rfl ?_)
    refine op (y (x_move rfl) rfl ?_)
    refine op (y (x_build bu_31 rfl rfl) rfl ?_)
    refine op (y (x_indexNat sz_22 rfl rfl (by omega)) rfl ?_)
    refine op (e_storeS 1 (q := i * 2) rfl rfl ts_31 rfl rfl rfl rfl hO (by simp; omega) (fun _ => rfl) fun R' hO' => ?_)
    refine nil ?_
    refine n_in ?_
    refine n_then ?_
    refine region ?_
    refine op (y (x_move rfl) rfl ?_)
    refine op (y (x_add rfl rfl _ (wr (by omega) (by omega))) rfl ?_)
    refine op (y (x_assign rfl) rfl ?_)
    refine nil ?_
    exact round (os.length - (i + 1)) [(1, .pointer (some ⟨b1, 0, none⟩)), (2, .int .i64 ((i + 1) : Nat))] (by omega) ⟨rfl, rfl, trivial⟩ ⟨i + 1, o2.set i ⟨-9, 0⟩, R', rfl, rfl, rfl, rfl, by omega, by simpa using hl, hO'.cast rfl (set_flat (enc := encOb) (k := 2) (fun _ => rfl) ⟨-9, 0⟩ o2 i (by omega))⟩
  · try simp only [decide_eq_true_eq, decide_eq_false_iff_not, beq_iff_eq, bne_iff_ne, ne_eq, beq_eq_false_iff_ne, bne_eq_false_iff_eq, Bool.not_eq_true', Bool.not_eq_false', Bool.not_eq_true, Bool.not_eq_false, Decidable.not_not, Int.not_lt, Int.not_le] at h2
    refine exit ?_
    refine e_then ?_
    refine e_then ?_
    refine e_in ?_
    refine n_then ?_
    refine seq ?_
    refine region ?_
    refine op (y (x_assign rfl) rfl ?_)
    refine nil ?_
    refine n_then ?_
    refine block ?_
    refine loop (fun m F ro2' L2' => ∃ (i : Nat) (e2 : List Ev) (R2 : List Blk), (m = es.length - i) ∧ (F = [(1, .pointer (some ⟨b1, 0, none⟩)), (3, .int .i64 (i : Nat))]) ∧ (ro = ro2') ∧ (L2' = [(b1, Obj.cells [Value.slice oA os.length oc, Value.slice eA es.length ec].toArray 25 (0, 0))] :: R1 :: R2 :: L) ∧ (i ≤ es.length) ∧ (e2.length = es.length) ∧ (OwnS 34 8 eA es.length ec (e2.flatMap encEv) R2)) (es.length - 0) [(1, .pointer (some ⟨b1, 0, none⟩)), (3, .int .i64 (0 : Nat))] ⟨rfl, rfl, trivial⟩ ⟨0, es, R2, rfl, rfl, rfl, rfl, by omega, rfl, hO1⟩ ?_
    rintro m F ro2' L2' ⟨i, e2, R2, rfl, rfl, rfl, rfl, hi2, hl2, hO2⟩
    refine seq ?_
    refine seq ?_
    refine region ?_
    refine op (y (x_move rfl) rfl ?_)
    refine op (y (x_fieldAddr fo_25_1 rfl) rfl ?_)
    refine op (y (x_load1 ag_23 rfl (by first | assumption | exact Cell.own 0 rfl rfl | exact Cell.own 1 rfl rfl | exact Cell.own 2 rfl rfl | exact Cell.own 3 rfl rfl | exact Cell.own 4 rfl rfl | exact Cell.own 5 rfl rfl | exact Cell.own 6 rfl rfl | exact Cell.own 7 rfl rfl | exact Cell.own 8 rfl rfl | exact Cell.own 9 rfl rfl | exact Cell.ofRo (by assumption))) rfl ?_)
    refine op (y (x_lenSl sz_23 rfl) rfl ?_)
    refine op (y (x_lss rfl rfl) rfl ?_)
    refine nil ?_
    refine n_then ?_
    refine cond rfl (fun h6 => ?_) (fun h6 => ?_)
    · try simp only [decide_eq_true_eq, decide_eq_false_iff_not, beq_iff_eq, bne_iff_ne, ne_eq, beq_eq_false_iff_ne, bne_eq_false_iff_eq, Bool.not_eq_true', Bool.not_eq_false', Bool.not_eq_true, Bool.not_eq_false, Decidable.not_not, Int.not_lt, Int.not_le] at h6
      refine skip ?_
      refine n_then ?_
      refine seq ?_
      refine block ?_
      obtain ⟨bd, off, cur, rfl, rfl, _, _⟩ := hO2.at_ (by omega)
      refine region ?_
      refine op (y (x_fieldAddr fo_25_1 rfl) rfl ?_)
      refine op (y (x_load1 ag_23 rfl (by first | assumption | exact Cell.own 0 rfl rfl | exact Cell.own 1 rfl rfl | exact Cell.own 2 rfl rfl | exact Cell.own 3 rfl rfl | exact Cell.own 4 rfl rfl | exact Cell.own 5 rfl rfl | exact Cell.own 6 rfl rfl | exact Cell.own 7 rfl rfl | exact Cell.own 8 rfl rfl | exact Cell.own 9 rfl rfl | exact Cell.ofRo (by assumption))) rfl ?_)
      refine op (y (x_move rfl) rfl ?_)
      refine op (y (x_build bu_34 rfl rfl) rfl ?_)
      refine op (y (x_indexNat sz_23 rfl rfl (by omega)) rfl ?_)
      refine op (e_storeS 2 (q := i * 8) rfl rfl ts_34 rfl rfl rfl rfl hO2 (by simp; omega) (fun _ => rfl) fun R' hO' => ?_)
      refine nil ?_
      refine n_in ?_
      refine n_then ?_
      refine region ?_
      refine op (y (x_move rfl) rfl ?_)
      refine op (y (x_add rfl rfl _ (wr (by omega) (by omega))) rfl ?_)
      refine op (y (x_assign rfl) rfl ?_)
      refine nil ?_
      exact round (es.length - (i + 1)) [(1, .pointer (some ⟨b1, 0, none⟩)), (3, .int .i64 ((i + 1) : Nat))] (by omega) ⟨rfl, rfl, trivial⟩ ⟨i + 1, e2.set i ⟨-9, 0, 0, 0, 0, 0, 0, 0⟩, R', rfl, rfl, rfl, rfl, by omega, by simpa using hl2, hO'.cast rfl (set_flat (enc := encEv) (k := 8) (fun _ => rfl) ⟨-9, 0, 0, 0, 0, 0, 0, 0⟩ e2 i (by omega))⟩
    · try simp only [decide_eq_true_eq, decide_eq_false_iff_not, beq_iff_eq, bne_iff_ne, ne_eq, beq_eq_false_iff_ne, bne_eq_false_iff_eq, Bool.not_eq_true', Bool.not_eq_false', Bool.not_eq_true, Bool.not_eq_false, Decidable.not_not, Int.not_lt, Int.not_le] at h6
      refine exit ?_
      refine e_then ?_
      refine e_then ?_
      refine e_in ?_
      exact done' rfl (.nil) (Ro.le.refl _) (R1 :: R2 :: L) (subF (by (repeat (first | exact List.Sublist.refl _ | apply List.Sublist.cons_cons | apply List.Sublist.cons)); done)) (⟨o2, e2, R1, R2, hl, hl2, hO, hO2, rfl⟩)

theorem Own1_c (t : Int) (ro : Ro) (L : List (List Blk)) : CT Tryd.prog 28 [.int .i64 t].toArray ro L (PQ (.bool ((fun _ : Int => true) t)) ro L) := by
  refine enter Tryd.func28 rfl Tryd.ntmps28 rfl ?_
  refine seq ?_
  refine region ?_
  refine op (y (x_assign rfl) rfl ?_)
  refine nil ?_
  refine n_then ?_
  refine seq ?_
  refine region ?_
  refine op (y (x_assign rfl) rfl ?_)
  refine nil ?_
  refine n_then ?_
  refine ret ?_
  exact done rfl (.tmp rfl (.nil)) (Ro.le.refl _) (L) (⟨_, .refl _, .refl _⟩) (⟨rfl, rfl, rfl⟩)

theorem CutOwn_c (h : Hi) (A : Option Addr) (cA : Nat) (B : Option Addr) (cB : Nat) (n tx : Int) (ro : Ro) (L : List (List Blk)) (hh : SH ro A cA B cB h) (hI : HI h) (er : Nat → Addr) (hG : Glob er ro) :
    CT Tryd.prog 5 [.agg [.slice A h.os.length cA, .slice B h.es.length cB].toArray, .int .i64 n, .int .i64 tx].toArray ro L (PV (.bool true) L) := by
  refine enter Tryd.func5 rfl Tryd.ntmps5 rfl ?_
  refine seq ?_
  refine region ?_
  refine op (e_box rfl rfl rfl fun b3 => ?_)
  refine op (y (x_assign rfl) rfl ?_)
  refine nil ?_
  refine n_then ?_
  refine seq ?_
  refine region ?_
  refine op (e_call rfl fn_8 rfl rfl (first_c er _ _ hG) fun v16 ro16 L16 hle16 hp16 => ?_)
  obtain ⟨rfl, rfl⟩ := hp16
  refine op (y (x_assign rfl) rfl ?_)
  refine nil ?_
  refine n_then ?_
  refine seq ?_
  refine seq ?_
  refine region ?_
  refine op (y (x_move rfl) rfl ?_)
  refine op (y (x_not rfl) rfl ?_)
  refine nil ?_
  refine n_then ?_
  refine condF rfl ?_
  refine skip ?_
  refine n_then ?_
  refine seq ?_
  refine seq ?_
  refine region ?_
  refine op (y ((by first | exact x_loadOwn 0 _ ag_25 rfl rfl rfl rfl | exact x_loadOwn 1 _ ag_25 rfl rfl rfl rfl | exact x_loadOwn 2 _ ag_25 rfl rfl rfl rfl | exact x_loadOwn 3 _ ag_25 rfl rfl rfl rfl | exact x_loadOwn 4 _ ag_25 rfl rfl rfl rfl | exact x_loadOwn 5 _ ag_25 rfl rfl rfl rfl | exact x_loadOwn 6 _ ag_25 rfl rfl rfl rfl | exact x_loadOwn 7 _ ag_25 rfl rfl rfl rfl | exact x_loadOwn 8 _ ag_25 rfl rfl rfl rfl | exact x_loadOwn 9 _ ag_25 rfl rfl rfl rfl | exact x_loadOwn 10 _ ag_25 rfl rfl rfl rfl | exact x_loadOwn 11 _ ag_25 rfl rfl rfl rfl)) rfl ?_)
  refine op (e_call rfl fn_9 rfl rfl (small_c h A cA B cB _ _ (hh.mono hle16)) fun v20 ro20 L20 hle20 hp20 => ?_)
  obtain ⟨rfl, rfl, rfl⟩ := hp20
  refine op (y (x_not rfl) rfl ?_)
  refine op (y (x_move rfl) rfl ?_)
  refine bsplit 22 rfl (fun g22 => ?_) (fun g22 => ?_)
  · try simp only [decide_eq_true_eq, decide_eq_false_iff_not, beq_iff_eq, bne_iff_ne, ne_eq, beq_eq_false_iff_ne, bne_eq_false_iff_eq, Bool.not_eq_true', Bool.not_eq_false', Bool.not_eq_true, Bool.not_eq_false, Decidable.not_not, Int.not_lt, Int.not_le] at g22
    refine opN rfl rfl rfl rfl ?_
    refine opN rfl rfl rfl rfl ?_
    refine op (y (x_pickT rfl rfl) rfl ?_)
    refine nil ?_
    refine n_then ?_
    refine condT rfl ?_
    refine seq ?_
    refine region ?_
    refine op (y (x_move rfl) rfl ?_)
    refine op (y (x_assign rfl) rfl ?_)
    refine nil ?_
    refine n_then ?_
    refine ret ?_
    refine r_then ?_
    exact done rfl (.tmp rfl (.nil)) (hle16) (L) (subF (by (repeat (first | exact List.Sublist.refl _ | apply List.Sublist.cons_cons | apply List.Sublist.cons)); done)) (⟨rfl, rfl⟩)
  · try simp only [decide_eq_true_eq, decide_eq_false_iff_not, beq_iff_eq, bne_iff_ne, ne_eq, beq_eq_false_iff_ne, bne_eq_false_iff_eq, Bool.not_eq_true', Bool.not_eq_false', Bool.not_eq_true, Bool.not_eq_false, Decidable.not_not, Int.not_lt, Int.not_le] at g22
    refine opG rfl rfl (y (x_move rfl) rfl ?_)
    refine opG rfl rfl (y (x_not rfl) rfl ?_)
    refine op (y (x_pickF rfl rfl) rfl ?_)
    refine nil ?_
    refine n_then ?_
    refine condF rfl ?_
    refine skip ?_
    refine n_then ?_
    refine seq ?_
    obtain ⟨hn1, hn2⟩ : h.os.length ≤ 100 ∧ h.es.length ≤ 600 := by grind
    have hh1 := hh.mono hle16
    have hp2 : (pre h n).es.length ≤ 600 := Nat.le_trans (List.length_take_le' _ _) hn2
    have hw1 : (woT h tx).os.length ≤ 100 := hn1
    have hp1 : (pre h n).os.length ≤ 100 := hn1
    refine region ?_
    refine op (y ((by first | exact x_loadOwn 0 _ ag_25 rfl rfl rfl rfl | exact x_loadOwn 1 _ ag_25 rfl rfl rfl rfl | exact x_loadOwn 2 _ ag_25 rfl rfl rfl rfl | exact x_loadOwn 3 _ ag_25 rfl rfl rfl rfl | exact x_loadOwn 4 _ ag_25 rfl rfl rfl rfl | exact x_loadOwn 5 _ ag_25 rfl rfl rfl rfl | exact x_loadOwn 6 _ ag_25 rfl rfl rfl rfl | exact x_loadOwn 7 _ ag_25 rfl rfl rfl rfl | exact x_loadOwn 8 _ ag_25 rfl rfl rfl rfl | exact x_loadOwn 9 _ ag_25 rfl rfl rfl rfl | exact x_loadOwn 10 _ ag_25 rfl rfl rfl rfl | exact x_loadOwn 11 _ ag_25 rfl rfl rfl rfl)) rfl ?_)
    refine op (e_call rfl fn_27 rfl rfl (History_c h A cA B cB _ _ hh1 hn1 hn2) fun v28 ro28 L28 hle28 hp28 => ?_)
    obtain ⟨kA, kc, kB, kd, rfl, hSk, rfl⟩ := hp28
    obtain ⟨ro27, hro27⟩ : ∃ ro27, ro28 = ro27 := ⟨_, rfl⟩
    subst hro27
    have hh2 := hh1.mono hle28
    refine op (e_alloc rfl zc_25 rfl fun b8 => ?_)
    first | refine op (e_store 0 rfl rfl ts_25 rfl rfl rfl rfl rfl rfl ?_) | refine op (e_store 1 rfl rfl ts_25 rfl rfl rfl rfl rfl rfl ?_) | refine op (e_store 2 rfl rfl ts_25 rfl rfl rfl rfl rfl rfl ?_) | refine op (e_store 3 rfl rfl ts_25 rfl rfl rfl rfl rfl rfl ?_) | refine op (e_store 4 rfl rfl ts_25 rfl rfl rfl rfl rfl rfl ?_) | refine op (e_store 5 rfl rfl ts_25 rfl rfl rfl rfl rfl rfl ?_) | refine op (e_store 6 rfl rfl ts_25 rfl rfl rfl rfl rfl rfl ?_) | refine op (e_store 7 rfl rfl ts_25 rfl rfl rfl rfl rfl rfl ?_) | refine op (e_store 8 rfl rfl ts_25 rfl rfl rfl rfl rfl rfl ?_) | refine op (e_store 9 rfl rfl ts_25 rfl rfl rfl rfl rfl rfl ?_)
    refine nil ?_
    refine n_then ?_
    refine seq ?_
    refine seq ?_
    refine region ?_
    refine op (y (x_assign rfl) rfl ?_)
    refine nil ?_
    refine n_then ?_
    refine block ?_
    refine loop (fun m F ro' L' => ∃ (q : Nat), (m = 2 - q) ∧ (F = [(1, .int .i64 n), (2, .int .i64 tx), (3, .pointer (some ⟨b3, 0, none⟩)), (8, .pointer (some ⟨b8, 0, none⟩)), (9, .int .i64 (q : Nat))]) ∧ (L' = [(b8, Obj.cells [Value.slice kA h.os.length kc, Value.slice kB h.es.length kd].toArray 25 (0, 0))] :: [(b3, Obj.cells [Value.slice A h.os.length cA, Value.slice B h.es.length cB].toArray 25 (0, 0))] :: L) ∧ (q ≤ 2) ∧ (ro28.le ro')) (2 - 0) [(1, .int .i64 n), (2, .int .i64 tx), (3, .pointer (some ⟨b3, 0, none⟩)), (8, .pointer (some ⟨b8, 0, none⟩)), (9, .int .i64 (0 : Nat))] ⟨rfl, rfl, rfl, rfl, rfl, trivial⟩ ⟨0, rfl, rfl, rfl, by omega, Ro.le.refl _⟩ ?_
    rintro m F ro' L' ⟨q, rfl, rfl, rfl, hq, hroq⟩
    refine seq ?_
    refine seq ?_
    refine region ?_
    refine op (y (x_move rfl) rfl ?_)
    refine op (y (x_lss rfl rfl) rfl ?_)
    refine nil ?_
    refine n_then ?_
    refine cond rfl (fun h8 => ?_) (fun h8 => ?_)
    · try simp only [decide_eq_true_eq, decide_eq_false_iff_not, beq_iff_eq, bne_iff_ne, ne_eq, beq_eq_false_iff_ne, bne_eq_false_iff_eq, Bool.not_eq_true', Bool.not_eq_false', Bool.not_eq_true, Bool.not_eq_false, Decidable.not_not, Int.not_lt, Int.not_le] at h8
      refine skip ?_
      refine n_then ?_
      refine seq ?_
      refine block ?_
      refine seq ?_
      have hh3 := hh2.mono hroq
      refine region ?_
      refine op (y ((by first | exact x_loadOwn 0 _ ag_25 rfl rfl rfl rfl | exact x_loadOwn 1 _ ag_25 rfl rfl rfl rfl | exact x_loadOwn 2 _ ag_25 rfl rfl rfl rfl | exact x_loadOwn 3 _ ag_25 rfl rfl rfl rfl | exact x_loadOwn 4 _ ag_25 rfl rfl rfl rfl | exact x_loadOwn 5 _ ag_25 rfl rfl rfl rfl | exact x_loadOwn 6 _ ag_25 rfl rfl rfl rfl | exact x_loadOwn 7 _ ag_25 rfl rfl rfl rfl | exact x_loadOwn 8 _ ag_25 rfl rfl rfl rfl | exact x_loadOwn 9 _ ag_25 rfl rfl rfl rfl | exact x_loadOwn 10 _ ag_25 rfl rfl rfl rfl | exact x_loadOwn 11 _ ag_25 rfl rfl rfl rfl)) rfl ?_)
      refine op (y (x_move rfl) rfl ?_)
      refine op (e_call rfl fn_13 rfl rfl (Prefix_o h A cA B cB _ _ hh3 n hn1 hn2) fun v35 ro35 L35 hle35 hp35 => ?_)
      obtain ⟨pA, pc, pB, pd, A1, A2, rfl, hOa1, hOa2, rfl⟩ := hp35
      refine op (e_alloc rfl zc_25 rfl fun b10 => ?_)
      first | refine op (e_store 0 rfl rfl ts_25 rfl rfl rfl rfl rfl rfl ?_) | refine op (e_store 1 rfl rfl ts_25 rfl rfl rfl rfl rfl rfl ?_) | refine op (e_store 2 rfl rfl ts_25 rfl rfl rfl rfl rfl rfl ?_) | refine op (e_store 3 rfl rfl ts_25 rfl rfl rfl rfl rfl rfl ?_) | refine op (e_store 4 rfl rfl ts_25 rfl rfl rfl rfl rfl rfl ?_) | refine op (e_store 5 rfl rfl ts_25 rfl rfl rfl rfl rfl rfl ?_) | refine op (e_store 6 rfl rfl ts_25 rfl rfl rfl rfl rfl rfl ?_) | refine op (e_store 7 rfl rfl ts_25 rfl rfl rfl rfl rfl rfl ?_) | refine op (e_store 8 rfl rfl ts_25 rfl rfl rfl rfl rfl rfl ?_) | refine op (e_store 9 rfl rfl ts_25 rfl rfl rfl rfl rfl rfl ?_)
      refine nil ?_
      refine n_then ?_
      refine seq ?_
      refine region ?_
      refine op (y ((by first | exact x_loadOwn 0 _ ag_25 rfl rfl rfl rfl | exact x_loadOwn 1 _ ag_25 rfl rfl rfl rfl | exact x_loadOwn 2 _ ag_25 rfl rfl rfl rfl | exact x_loadOwn 3 _ ag_25 rfl rfl rfl rfl | exact x_loadOwn 4 _ ag_25 rfl rfl rfl rfl | exact x_loadOwn 5 _ ag_25 rfl rfl rfl rfl | exact x_loadOwn 6 _ ag_25 rfl rfl rfl rfl | exact x_loadOwn 7 _ ag_25 rfl rfl rfl rfl | exact x_loadOwn 8 _ ag_25 rfl rfl rfl rfl | exact x_loadOwn 9 _ ag_25 rfl rfl rfl rfl | exact x_loadOwn 10 _ ag_25 rfl rfl rfl rfl | exact x_loadOwn 11 _ ag_25 rfl rfl rfl rfl)) rfl ?_)
      refine op (y (x_move rfl) rfl ?_)
      refine op (e_call rfl fn_15 rfl rfl (Without_o h A cA B cB _ _ (hh3.mono hle35) tx hn1 hn2) fun v38 ro38 L38 hle38 hp38 => ?_)
      obtain ⟨wA, wc, wB, wd, B1, B2, rfl, hOb1, hOb2, rfl⟩ := hp38
      refine op (e_alloc rfl zc_25 rfl fun b11 => ?_)
      first | refine op (e_store 0 rfl rfl ts_25 rfl rfl rfl rfl rfl rfl ?_) | refine op (e_store 1 rfl rfl ts_25 rfl rfl rfl rfl rfl rfl ?_) | refine op (e_store 2 rfl rfl ts_25 rfl rfl rfl rfl rfl rfl ?_) | refine op (e_store 3 rfl rfl ts_25 rfl rfl rfl rfl rfl rfl ?_) | refine op (e_store 4 rfl rfl ts_25 rfl rfl rfl rfl rfl rfl ?_) | refine op (e_store 5 rfl rfl ts_25 rfl rfl rfl rfl rfl rfl ?_) | refine op (e_store 6 rfl rfl ts_25 rfl rfl rfl rfl rfl rfl ?_) | refine op (e_store 7 rfl rfl ts_25 rfl rfl rfl rfl rfl rfl ?_) | refine op (e_store 8 rfl rfl ts_25 rfl rfl rfl rfl rfl rfl ?_) | refine op (e_store 9 rfl rfl ts_25 rfl rfl rfl rfl rfl rfl ?_)
      refine nil ?_
      refine n_then ?_
      refine seq ?_
      refine region ?_
      refine op (y ((by first | exact x_loadOwn 0 _ ag_25 rfl rfl rfl rfl | exact x_loadOwn 1 _ ag_25 rfl rfl rfl rfl | exact x_loadOwn 2 _ ag_25 rfl rfl rfl rfl | exact x_loadOwn 3 _ ag_25 rfl rfl rfl rfl | exact x_loadOwn 4 _ ag_25 rfl rfl rfl rfl | exact x_loadOwn 5 _ ag_25 rfl rfl rfl rfl | exact x_loadOwn 6 _ ag_25 rfl rfl rfl rfl | exact x_loadOwn 7 _ ag_25 rfl rfl rfl rfl | exact x_loadOwn 8 _ ag_25 rfl rfl rfl rfl | exact x_loadOwn 9 _ ag_25 rfl rfl rfl rfl | exact x_loadOwn 10 _ ag_25 rfl rfl rfl rfl | exact x_loadOwn 11 _ ag_25 rfl rfl rfl rfl)) rfl ?_)
      refine op (e_call rfl fn_17 rfl rfl (Only_p h A cA B cB _ _ (hh3.mono (hle35.trans hle38)) hn1 hn2 28 [] fn_28 (fun _ => true) (fun t ro' L' _ _ => Own1_c t ro' L')) fun v40 ro40 L40 hle40 hp40 => ?_)
      obtain ⟨cA1, cc, cB1, cd, C1, C2, rfl, hOc1, hOc2, rfl⟩ := hp40
      refine op (e_alloc rfl zc_25 rfl fun b12 => ?_)
      first | refine op (e_store 0 rfl rfl ts_25 rfl rfl rfl rfl rfl rfl ?_) | refine op (e_store 1 rfl rfl ts_25 rfl rfl rfl rfl rfl rfl ?_) | refine op (e_store 2 rfl rfl ts_25 rfl rfl rfl rfl rfl rfl ?_) | refine op (e_store 3 rfl rfl ts_25 rfl rfl rfl rfl rfl rfl ?_) | refine op (e_store 4 rfl rfl ts_25 rfl rfl rfl rfl rfl rfl ?_) | refine op (e_store 5 rfl rfl ts_25 rfl rfl rfl rfl rfl rfl ?_) | refine op (e_store 6 rfl rfl ts_25 rfl rfl rfl rfl rfl rfl ?_) | refine op (e_store 7 rfl rfl ts_25 rfl rfl rfl rfl rfl rfl ?_) | refine op (e_store 8 rfl rfl ts_25 rfl rfl rfl rfl rfl rfl ?_) | refine op (e_store 9 rfl rfl ts_25 rfl rfl rfl rfl rfl rfl ?_)
      refine nil ?_
      refine n_then ?_
      refine seq ?_
      refine region ?_
      refine op (y ((by first | exact x_loadOwn 0 _ ag_25 rfl rfl rfl rfl | exact x_loadOwn 1 _ ag_25 rfl rfl rfl rfl | exact x_loadOwn 2 _ ag_25 rfl rfl rfl rfl | exact x_loadOwn 3 _ ag_25 rfl rfl rfl rfl | exact x_loadOwn 4 _ ag_25 rfl rfl rfl rfl | exact x_loadOwn 5 _ ag_25 rfl rfl rfl rfl | exact x_loadOwn 6 _ ag_25 rfl rfl rfl rfl | exact x_loadOwn 7 _ ag_25 rfl rfl rfl rfl | exact x_loadOwn 8 _ ag_25 rfl rfl rfl rfl | exact x_loadOwn 9 _ ag_25 rfl rfl rfl rfl | exact x_loadOwn 10 _ ag_25 rfl rfl rfl rfl | exact x_loadOwn 11 _ ag_25 rfl rfl rfl rfl)) rfl ?_)
      refine op (e_call rfl fn_29 rfl rfl (Spare_c h A cA B cB _ _ (hh3.mono (hle35.trans (hle38.trans hle40))) hn1 hn2 hI er (hG.mono (hle16.trans (hle28.trans (hroq.trans (hle35.trans (hle38.trans hle40))))))) fun v43 ro43 L43 hle43 hp43 => ?_)
      obtain ⟨r, sA, sc, sB, sd, S1, S2, ev, rfl, hOs1, hOs2, rfl, hcs⟩ := hp43
      have hr1 : r.os.length ≤ 100 ∧ r.es.length ≤ 600 := by rcases hcs with ⟨_, _, rfl⟩ | ⟨_, _, rfl⟩; exact ⟨Nat.le_trans (List.length_take_le' _ _) hn1, hn2⟩; exact ⟨by simp, by simp⟩
      refine op (y (x_move rfl) rfl ?_)
      refine op (y (x_extract rfl rfl) rfl ?_)
      refine op (y (x_extract rfl rfl) rfl ?_)
      refine op (e_alloc rfl zc_25 rfl fun b13 => ?_)
      first | refine op (e_store 0 rfl rfl ts_25 rfl rfl rfl rfl rfl rfl ?_) | refine op (e_store 1 rfl rfl ts_25 rfl rfl rfl rfl rfl rfl ?_) | refine op (e_store 2 rfl rfl ts_25 rfl rfl rfl rfl rfl rfl ?_) | refine op (e_store 3 rfl rfl ts_25 rfl rfl rfl rfl rfl rfl ?_) | refine op (e_store 4 rfl rfl ts_25 rfl rfl rfl rfl rfl rfl ?_) | refine op (e_store 5 rfl rfl ts_25 rfl rfl rfl rfl rfl rfl ?_) | refine op (e_store 6 rfl rfl ts_25 rfl rfl rfl rfl rfl rfl ?_) | refine op (e_store 7 rfl rfl ts_25 rfl rfl rfl rfl rfl rfl ?_) | refine op (e_store 8 rfl rfl ts_25 rfl rfl rfl rfl rfl rfl ?_) | refine op (e_store 9 rfl rfl ts_25 rfl rfl rfl rfl rfl rfl ?_)
      refine op (y (x_assign rfl) rfl ?_)
      refine nil ?_
      refine n_then ?_
      refine seq ?_
      refine region ?_
      refine op (y ((by first | exact x_loadOwn 0 _ ag_25 rfl rfl rfl rfl | exact x_loadOwn 1 _ ag_25 rfl rfl rfl rfl | exact x_loadOwn 2 _ ag_25 rfl rfl rfl rfl | exact x_loadOwn 3 _ ag_25 rfl rfl rfl rfl | exact x_loadOwn 4 _ ag_25 rfl rfl rfl rfl | exact x_loadOwn 5 _ ag_25 rfl rfl rfl rfl | exact x_loadOwn 6 _ ag_25 rfl rfl rfl rfl | exact x_loadOwn 7 _ ag_25 rfl rfl rfl rfl | exact x_loadOwn 8 _ ag_25 rfl rfl rfl rfl | exact x_loadOwn 9 _ ag_25 rfl rfl rfl rfl | exact x_loadOwn 10 _ ag_25 rfl rfl rfl rfl | exact x_loadOwn 11 _ ag_25 rfl rfl rfl rfl)) rfl ?_)
      refine pull 11 rfl rfl ?_
      refine pull 11 rfl rfl ?_
      refine op (e_call rfl fn_30 rfl rfl (spoil_c (pre h n).os pA pc _ hOa1 (pre h n).es pB pd _ hOa2 (hn1) (hp2) _ _) fun v47 ro47 L47 hle47 hp47 => ?_)
      obtain ⟨oa, ea, R1a, R2a, hoa, hea, hO1a, hO2a, rfl⟩ := hp47
      refine nil ?_
      refine n_then ?_
      refine seq ?_
      refine region ?_
      refine op (y ((by first | exact x_loadOwn 0 _ ag_25 rfl rfl rfl rfl | exact x_loadOwn 1 _ ag_25 rfl rfl rfl rfl | exact x_loadOwn 2 _ ag_25 rfl rfl rfl rfl | exact x_loadOwn 3 _ ag_25 rfl rfl rfl rfl | exact x_loadOwn 4 _ ag_25 rfl rfl rfl rfl | exact x_loadOwn 5 _ ag_25 rfl rfl rfl rfl | exact x_loadOwn 6 _ ag_25 rfl rfl rfl rfl | exact x_loadOwn 7 _ ag_25 rfl rfl rfl rfl | exact x_loadOwn 8 _ ag_25 rfl rfl rfl rfl | exact x_loadOwn 9 _ ag_25 rfl rfl rfl rfl | exact x_loadOwn 10 _ ag_25 rfl rfl rfl rfl | exact x_loadOwn 11 _ ag_25 rfl rfl rfl rfl)) rfl ?_)
      refine pull 10 rfl rfl ?_
      refine pull 10 rfl rfl ?_
      refine op (e_call rfl fn_30 rfl rfl (spoil_c (woT h tx).os wA wc _ hOb1 (woT h tx).es wB wd _ hOb2 (hn1) (Nat.le_trans (List.length_filter_le _ _) hn2) _ _) fun v49 ro49 L49 hle49 hp49 => ?_)
      obtain ⟨ob, eb, R1b, R2b, hob, heb, hO1b, hO2b, rfl⟩ := hp49
      refine nil ?_
      refine n_then ?_
      refine seq ?_
      refine region ?_
      refine op (y ((by first | exact x_loadOwn 0 _ ag_25 rfl rfl rfl rfl | exact x_loadOwn 1 _ ag_25 rfl rfl rfl rfl | exact x_loadOwn 2 _ ag_25 rfl rfl rfl rfl | exact x_loadOwn 3 _ ag_25 rfl rfl rfl rfl | exact x_loadOwn 4 _ ag_25 rfl rfl rfl rfl | exact x_loadOwn 5 _ ag_25 rfl rfl rfl rfl | exact x_loadOwn 6 _ ag_25 rfl rfl rfl rfl | exact x_loadOwn 7 _ ag_25 rfl rfl rfl rfl | exact x_loadOwn 8 _ ag_25 rfl rfl rfl rfl | exact x_loadOwn 9 _ ag_25 rfl rfl rfl rfl | exact x_loadOwn 10 _ ag_25 rfl rfl rfl rfl | exact x_loadOwn 11 _ ag_25 rfl rfl rfl rfl)) rfl ?_)
      refine pull 9 rfl rfl ?_
      refine pull 9 rfl rfl ?_
      refine op (e_call rfl fn_30 rfl rfl (spoil_c (onT h (fun _ => true)).os cA1 cc _ hOc1 (onT h (fun _ => true)).es cB1 cd _ hOc2 (hn1) (Nat.le_trans (List.length_filter_le _ _) hn2) _ _) fun v51 ro51 L51 hle51 hp51 => ?_)
      obtain ⟨oc, ec, R1c, R2c, hoc, hec, hO1c, hO2c, rfl⟩ := hp51
      refine nil ?_
      refine n_then ?_
      refine seq ?_
      refine region ?_
      refine op (y ((by first | exact x_loadOwn 0 _ ag_25 rfl rfl rfl rfl | exact x_loadOwn 1 _ ag_25 rfl rfl rfl rfl | exact x_loadOwn 2 _ ag_25 rfl rfl rfl rfl | exact x_loadOwn 3 _ ag_25 rfl rfl rfl rfl | exact x_loadOwn 4 _ ag_25 rfl rfl rfl rfl | exact x_loadOwn 5 _ ag_25 rfl rfl rfl rfl | exact x_loadOwn 6 _ ag_25 rfl rfl rfl rfl | exact x_loadOwn 7 _ ag_25 rfl rfl rfl rfl | exact x_loadOwn 8 _ ag_25 rfl rfl rfl rfl | exact x_loadOwn 9 _ ag_25 rfl rfl rfl rfl | exact x_loadOwn 10 _ ag_25 rfl rfl rfl rfl | exact x_loadOwn 11 _ ag_25 rfl rfl rfl rfl)) rfl ?_)
      refine pull 8 rfl rfl ?_
      refine pull 8 rfl rfl ?_
      refine op (e_call rfl fn_30 rfl rfl (spoil_c r.os sA sc _ hOs1 r.es sB sd _ hOs2 (hr1.1) (hr1.2) _ _) fun v53 ro53 L53 hle53 hp53 => ?_)
      obtain ⟨os, es, R1s, R2s, hos, hes, hO1s, hO2s, rfl⟩ := hp53
      refine nil ?_
      refine n_then ?_
      refine seq ?_
      refine drop0 ?_
      refine drop0 ?_
      refine drop0 ?_
      refine drop0 ?_
      refine region ?_
      refine op (y (x_fieldAddr fo_25_1 rfl) rfl ?_)
      refine op (y (x_load1 ag_23 rfl (Cell.own 7 rfl rfl)) rfl ?_)
      refine op (y (x_build bu_34 rfl rfl) rfl ?_)
      refine op (e_slice1 rfl Tryd.underlying23 ti_34 rfl rfl (by decide) (by decide) rfl rfl rfl fun b57 => ?_)
      refine op (e_append1 3 rfl st_23 rfl rfl rfl hO2a rfl rfl (by omega) (by omega) (fun _ => rfl) fun A58 cap58 R58 hO58 => ?_)
      refine op (y (x_fieldAddr fo_25_1 rfl) rfl ?_)
      first | refine op (e_store 0 rfl rfl ts_23 rfl rfl rfl rfl rfl rfl ?_) | refine op (e_store 1 rfl rfl ts_23 rfl rfl rfl rfl rfl rfl ?_) | refine op (e_store 2 rfl rfl ts_23 rfl rfl rfl rfl rfl rfl ?_) | refine op (e_store 3 rfl rfl ts_23 rfl rfl rfl rfl rfl rfl ?_) | refine op (e_store 4 rfl rfl ts_23 rfl rfl rfl rfl rfl rfl ?_) | refine op (e_store 5 rfl rfl ts_23 rfl rfl rfl rfl rfl rfl ?_) | refine op (e_store 6 rfl rfl ts_23 rfl rfl rfl rfl rfl rfl ?_) | refine op (e_store 7 rfl rfl ts_23 rfl rfl rfl rfl rfl rfl ?_) | refine op (e_store 8 rfl rfl ts_23 rfl rfl rfl rfl rfl rfl ?_) | refine op (e_store 9 rfl rfl ts_23 rfl rfl rfl rfl rfl rfl ?_)
      refine nil ?_
      refine n_then ?_
      refine seq ?_
      refine region ?_
      refine op (y (x_fieldAddr fo_25_0 rfl) rfl ?_)
      refine op (y (x_load1 ag_22 rfl (by first | assumption | exact Cell.own 0 rfl rfl | exact Cell.own 1 rfl rfl | exact Cell.own 2 rfl rfl | exact Cell.own 3 rfl rfl | exact Cell.own 4 rfl rfl | exact Cell.own 5 rfl rfl | exact Cell.own 6 rfl rfl | exact Cell.own 7 rfl rfl | exact Cell.own 8 rfl rfl | exact Cell.own 9 rfl rfl | exact Cell.ofRo (by assumption))) rfl ?_)
      refine op (y (x_build bu_31 rfl rfl) rfl ?_)
      refine op (e_slice1 rfl Tryd.underlying22 ti_31 rfl rfl (by decide) (by decide) rfl rfl rfl fun b63 => ?_)
      refine op (e_append1 0 rfl st_22 rfl rfl rfl hO1b rfl rfl (by omega) (by omega) (fun _ => rfl) fun A64 cap64 R64 hO64 => ?_)
      refine op (y (x_fieldAddr fo_25_0 rfl) rfl ?_)
      first | refine op (e_store 0 rfl rfl ts_22 rfl rfl rfl rfl rfl rfl ?_) | refine op (e_store 1 rfl rfl ts_22 rfl rfl rfl rfl rfl rfl ?_) | refine op (e_store 2 rfl rfl ts_22 rfl rfl rfl rfl rfl rfl ?_) | refine op (e_store 3 rfl rfl ts_22 rfl rfl rfl rfl rfl rfl ?_) | refine op (e_store 4 rfl rfl ts_22 rfl rfl rfl rfl rfl rfl ?_) | refine op (e_store 5 rfl rfl ts_22 rfl rfl rfl rfl rfl rfl ?_) | refine op (e_store 6 rfl rfl ts_22 rfl rfl rfl rfl rfl rfl ?_) | refine op (e_store 7 rfl rfl ts_22 rfl rfl rfl rfl rfl rfl ?_) | refine op (e_store 8 rfl rfl ts_22 rfl rfl rfl rfl rfl rfl ?_) | refine op (e_store 9 rfl rfl ts_22 rfl rfl rfl rfl rfl rfl ?_)
      refine nil ?_
      refine n_then ?_
      refine seq ?_
      refine region ?_
      refine op (y (x_fieldAddr fo_25_1 rfl) rfl ?_)
      refine op (y (x_load1 ag_23 rfl (by first | assumption | exact Cell.own 0 rfl rfl | exact Cell.own 1 rfl rfl | exact Cell.own 2 rfl rfl | exact Cell.own 3 rfl rfl | exact Cell.own 4 rfl rfl | exact Cell.own 5 rfl rfl | exact Cell.own 6 rfl rfl | exact Cell.own 7 rfl rfl | exact Cell.own 8 rfl rfl | exact Cell.own 9 rfl rfl | exact Cell.ofRo (by assumption))) rfl ?_)
      refine op (y (x_lenSl sz_23 rfl) rfl ?_)
      refine op (y (x_eql rfl rfl) rfl ?_)
      refine said 69 (.bool false) rfl (by simp; omega) ?_
      refine op (y (x_move rfl) rfl ?_)
      refine opG rfl rfl (y (x_fieldAddr fo_25_0 rfl) rfl ?_)
      refine opG rfl rfl (y (x_load1 ag_22 rfl (by first | assumption | exact Cell.own 0 rfl rfl | exact Cell.own 1 rfl rfl | exact Cell.own 2 rfl rfl | exact Cell.own 3 rfl rfl | exact Cell.own 4 rfl rfl | exact Cell.own 5 rfl rfl | exact Cell.own 6 rfl rfl | exact Cell.own 7 rfl rfl | exact Cell.own 8 rfl rfl | exact Cell.own 9 rfl rfl | exact Cell.ofRo (by assumption))) rfl ?_)
      refine opG rfl rfl (y (x_lenSl sz_22 rfl) rfl ?_)
      refine opG rfl rfl (y (x_eql rfl rfl) rfl ?_)
      refine said 74 (.bool false) rfl (by simp; omega) ?_
      refine op (y (x_pickF rfl rfl) rfl ?_)
      refine nil ?_
      refine n_then ?_
      refine condF rfl ?_
      refine skip ?_
      refine n_in ?_
      refine n_then ?_
      refine region ?_
      refine op (y (x_move rfl) rfl ?_)
      refine op (y (x_add rfl rfl _ (wr (by omega) (by omega))) rfl ?_)
      refine op (y (x_assign rfl) rfl ?_)
      refine nil ?_
      refine subL ([(b8, Obj.cells [Value.slice kA h.os.length kc, Value.slice kB h.es.length kd].toArray 25 (0, 0))] :: [(b3, Obj.cells [Value.slice A h.os.length cA, Value.slice B h.es.length cB].toArray 25 (0, 0))] :: L) (subF (by (repeat (first | exact List.Sublist.refl _ | apply List.Sublist.cons_cons | apply List.Sublist.cons)); done)) ?_
      exact round (2 - (q + 1)) [(1, .int .i64 n), (2, .int .i64 tx), (3, .pointer (some ⟨b3, 0, none⟩)), (8, .pointer (some ⟨b8, 0, none⟩)), (9, .int .i64 ((q + 1) : Nat))] (by omega) ⟨rfl, rfl, rfl, rfl, rfl, trivial⟩ ⟨q + 1, rfl, rfl, rfl, by omega, hroq.trans (hle35.trans (hle38.trans (hle40.trans (hle43.trans (hle47.trans (hle49.trans (hle51.trans hle53)))))))⟩
    · try simp only [decide_eq_true_eq, decide_eq_false_iff_not, beq_iff_eq, bne_iff_ne, ne_eq, beq_eq_false_iff_ne, bne_eq_false_iff_eq, Bool.not_eq_true', Bool.not_eq_false', Bool.not_eq_true, Bool.not_eq_false, Decidable.not_not, Int.not_lt, Int.not_le] at h8
      refine exit ?_
      refine e_then ?_
      refine e_then ?_
      refine e_in ?_
      refine n_then ?_
      refine seq ?_
      have hh4 := hh2.mono hroq
      have hSk4 := hSk.mono hroq
      refine drawL (by kernel_rfl) ?_
      refine d_take 0 rfl (by kernel_rfl) (by kernel_rfl) (by kernel_rfl) (fun _ _ _ h => h) rfl (.inl rfl) ((by first | exact x_loadOwn 0 _ ag_25 rfl rfl rfl rfl | exact x_loadOwn 1 _ ag_25 rfl rfl rfl rfl | exact x_loadOwn 2 _ ag_25 rfl rfl rfl rfl | exact x_loadOwn 3 _ ag_25 rfl rfl rfl rfl | exact x_loadOwn 4 _ ag_25 rfl rfl rfl rfl | exact x_loadOwn 5 _ ag_25 rfl rfl rfl rfl | exact x_loadOwn 6 _ ag_25 rfl rfl rfl rfl | exact x_loadOwn 7 _ ag_25 rfl rfl rfl rfl | exact x_loadOwn 8 _ ag_25 rfl rfl rfl rfl | exact x_loadOwn 9 _ ag_25 rfl rfl rfl rfl | exact x_loadOwn 10 _ ag_25 rfl rfl rfl rfl | exact x_loadOwn 11 _ ag_25 rfl rfl rfl rfl)) (fun w hi => by first | exact hi.j | exact J.of_le (hle78) (fun x hx => hx) hi | exact J.of_le (hle78.trans hle81) (fun x hx => hx) hi) ?_
      refine d_take 1 rfl (by kernel_rfl) (by kernel_rfl) (by kernel_rfl) (fun _ _ _ h => h) rfl (.inl rfl) (x_move rfl) (fun w hi => by first | exact hi.j | exact J.of_le (hle78) (fun x hx => hx) hi | exact J.of_le (hle78.trans hle81) (fun x hx => hx) hi) ?_
      refine d_take 3 rfl (by kernel_rfl) (by kernel_rfl) (by kernel_rfl) (fun _ _ _ h => h) rfl (.inl rfl) ((by first | exact x_loadOwn 0 _ ag_25 rfl rfl rfl rfl | exact x_loadOwn 1 _ ag_25 rfl rfl rfl rfl | exact x_loadOwn 2 _ ag_25 rfl rfl rfl rfl | exact x_loadOwn 3 _ ag_25 rfl rfl rfl rfl | exact x_loadOwn 4 _ ag_25 rfl rfl rfl rfl | exact x_loadOwn 5 _ ag_25 rfl rfl rfl rfl | exact x_loadOwn 6 _ ag_25 rfl rfl rfl rfl | exact x_loadOwn 7 _ ag_25 rfl rfl rfl rfl | exact x_loadOwn 8 _ ag_25 rfl rfl rfl rfl | exact x_loadOwn 9 _ ag_25 rfl rfl rfl rfl | exact x_loadOwn 10 _ ag_25 rfl rfl rfl rfl | exact x_loadOwn 11 _ ag_25 rfl rfl rfl rfl)) (fun w hi => by first | exact hi.j | exact J.of_le (hle78) (fun x hx => hx) hi | exact J.of_le (hle78.trans hle81) (fun x hx => hx) hi) ?_
      refine d_take 4 rfl (by kernel_rfl) (by kernel_rfl) (by kernel_rfl) (fun _ _ _ h => h) rfl (.inl rfl) (x_move rfl) (fun w hi => by first | exact hi.j | exact J.of_le (hle78) (fun x hx => hx) hi | exact J.of_le (hle78.trans hle81) (fun x hx => hx) hi) ?_
      refine d_one 2 rfl (by kernel_rfl) (.inl rfl) (e_call rfl fn_13 rfl rfl (PHo.frozen (Prefix_o h A cA B cB _ _ hh4 n hn1 hn2)) fun v78 ro78 L78 hle78 hp78 => ?_)
      obtain ⟨pA, pc, pB, pd, rfl, hSp, rfl⟩ := hp78
      refine d_next (fun w hi => by first | exact hi.j | exact J.of_le (hle78) (fun x hx => hx) hi | exact J.of_le (hle78.trans hle81) (fun x hx => hx) hi) ?_
      refine d_one 5 rfl (by kernel_rfl) (.inl rfl) (e_call rfl fn_14 rfl rfl (PrefixR_c h _ _ _ _ _ _ (hSk4.mono hle78) n hn1 hn2) fun v81 ro81 L81 hle81 hp81 => ?_)
      obtain ⟨qA, qc, qB, qd, rfl, hSq, rfl⟩ := hp81
      refine d_next (fun w hi => by first | exact hi.j | exact J.of_le (hle78) (fun x hx => hx) hi | exact J.of_le (hle78.trans hle81) (fun x hx => hx) hi) ?_
      refine d_one 6 rfl (by kernel_rfl) (.inl rfl) (e_call rfl fn_12 rfl rfl (SameHistory_c (pre h n) _ _ _ _ (pre h n) _ _ _ _ _ _ (hSp.mono hle81) hSq) fun v82 ro82 L82 hle82 hp82 => ?_)
      obtain ⟨rfl, rfl, rfl⟩ := hp82
      refine said 82 (.bool true) rfl (by simp) ?_
      refine d_next (fun w hi => by first | exact hi.j | exact J.of_le (hle78) (fun x hx => hx) hi | exact J.of_le (hle78.trans hle81) (fun x hx => hx) hi) ?_
      refine d_take 7 rfl (by kernel_rfl) (by kernel_rfl) (by kernel_rfl) (fun _ _ _ h => h) rfl (.inl rfl) (x_assign rfl) (fun w hi => by first | exact hi.j | exact J.of_le (hle78) (fun x hx => hx) hi | exact J.of_le (hle78.trans hle81) (fun x hx => hx) hi) ?_
      refine d_end (by kernel_rfl) ?_
      refine n_then ?_
      refine seq ?_
      refine region ?_
      refine op (y (x_move rfl) rfl ?_)
      refine op (y (x_move rfl) rfl ?_)
      refine opG rfl rfl (y ((by first | exact x_loadOwn 0 _ ag_25 rfl rfl rfl rfl | exact x_loadOwn 1 _ ag_25 rfl rfl rfl rfl | exact x_loadOwn 2 _ ag_25 rfl rfl rfl rfl | exact x_loadOwn 3 _ ag_25 rfl rfl rfl rfl | exact x_loadOwn 4 _ ag_25 rfl rfl rfl rfl | exact x_loadOwn 5 _ ag_25 rfl rfl rfl rfl | exact x_loadOwn 6 _ ag_25 rfl rfl rfl rfl | exact x_loadOwn 7 _ ag_25 rfl rfl rfl rfl | exact x_loadOwn 8 _ ag_25 rfl rfl rfl rfl | exact x_loadOwn 9 _ ag_25 rfl rfl rfl rfl | exact x_loadOwn 10 _ ag_25 rfl rfl rfl rfl | exact x_loadOwn 11 _ ag_25 rfl rfl rfl rfl)) rfl ?_)
      refine opG rfl rfl (y ((by first | exact x_loadOwn 0 _ ag_25 rfl rfl rfl rfl | exact x_loadOwn 1 _ ag_25 rfl rfl rfl rfl | exact x_loadOwn 2 _ ag_25 rfl rfl rfl rfl | exact x_loadOwn 3 _ ag_25 rfl rfl rfl rfl | exact x_loadOwn 4 _ ag_25 rfl rfl rfl rfl | exact x_loadOwn 5 _ ag_25 rfl rfl rfl rfl | exact x_loadOwn 6 _ ag_25 rfl rfl rfl rfl | exact x_loadOwn 7 _ ag_25 rfl rfl rfl rfl | exact x_loadOwn 8 _ ag_25 rfl rfl rfl rfl | exact x_loadOwn 9 _ ag_25 rfl rfl rfl rfl | exact x_loadOwn 10 _ ag_25 rfl rfl rfl rfl | exact x_loadOwn 11 _ ag_25 rfl rfl rfl rfl)) rfl ?_)
      refine opG rfl rfl (e_call rfl fn_12 rfl rfl (SameHistory_c h _ _ _ _ h _ _ _ _ _ _ (hh4.mono (hle78.trans hle81)) (hSk4.mono (hle78.trans hle81))) fun v87 ro87 L87 hle87 hp87 => ?_)
      obtain ⟨rfl, rfl, rfl⟩ := hp87
      refine said 87 (.bool true) rfl (by simp) ?_
      refine op (y (x_pickT rfl rfl) rfl ?_)
      refine op (y (x_assign rfl) rfl ?_)
      refine nil ?_
      refine n_then ?_
      refine ret ?_
      exact done rfl (.tmp rfl (.nil)) (hle16.trans (hle28.trans (hroq.trans (hle78.trans hle81)))) (L) (subF (by (repeat (first | exact List.Sublist.refl _ | apply List.Sublist.cons_cons | apply List.Sublist.cons)); done)) (⟨rfl, rfl⟩)

end Go.Proofs.YtijafcilfefafaaDoor
