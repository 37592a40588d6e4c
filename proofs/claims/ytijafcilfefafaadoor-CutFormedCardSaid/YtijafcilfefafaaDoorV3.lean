/- The walks of histories of which events are left out. -/
import Derived.Test.YtijafcilfefafaaDoorV2
namespace Go.Proofs.YtijafcilfefafaaDoor
open Go Go.U
set_option maxRecDepth 20000
set_option linter.unusedSimpArgs false
set_option linter.unusedVariables false

/-- those that are kept, of places and events -/
def kp (p : Nat → Ev → Bool) (es : List Ev) : List Ev := (es.zipIdx.filter (fun x => p x.2 x.1)).map (·.1)
theorem kp_snoc {p : Nat → Ev → Bool} {es : List Ev} {k : Nat} {e : Ev} (h : es[k]? = some e) : kp p (es.take (k + 1)) = kp p (es.take k) ++ (if p k e then [e] else []) := by
  have hk : k < es.length := (List.getElem?_eq_some_iff.1 h).1
  unfold kp
  rw [take_snoc' h, List.zipIdx_append, List.filter_append, List.map_append]
  congr 1
  have : (es.take k).length = k := by simp; omega
  rw [this]
  simp only [List.zipIdx_cons, List.zipIdx_nil, Nat.zero_add]
  by_cases hp : p k e = true <;> simp [hp]
theorem kp_len (p : Nat → Ev → Bool) (es : List Ev) : (kp p es).length ≤ es.length := by
  unfold kp
  rw [List.length_map]
  exact Nat.le_trans (List.length_filter_le _ _) (by simp)
theorem kp_filter (q : Ev → Bool) (es : List Ev) : kp (fun _ e => q e) es = es.filter q := by
  have key : ∀ (l : List Ev) (n : Nat), ((l.zipIdx n).filter (fun x => q x.1)).map (·.1) = l.filter q := by
    intro l
    induction l with
    | nil => simp
    | cons a l ih =>
      intro n
      simp only [List.zipIdx_cons, List.filter_cons]
      by_cases hq : q a = true <;> simp [hq, ih]
  exact key es 0
/-- what is asked of the function that tells what is kept -/
def Keeps (k : FuncId) (caps : List Value) (p : Nat → Ev → Bool) (es : List Ev) (ro : Ro) (St : Nat → List (List Blk) → Prop) : Prop :=
  ∀ (i : Nat) (e : Ev) (Lx L0 : List (List Blk)) (ro' : Ro), ro.le ro' → es[i]? = some e → St i Lx → CT Tryd.prog k ([Value.int .i64 (i : Nat), Value.agg (encEv e).toArray] ++ caps).toArray ro' (Lx ++ L0) (fun v ro'' L'' => v = .bool (p i e) ∧ ∃ Lx', St (i + 1) Lx' ∧ L'' = Lx' ++ L0)
def PHk (h : Hi) (St : List (List Blk) → Prop) : Value → Ro → List (List Blk) → Prop := fun v _ L' => ∃ A cA B cB R1 R2 Lx, v = .agg [.slice A h.os.length cA, .slice B h.es.length cB].toArray ∧ OwnS 31 2 A h.os.length cA (h.os.flatMap encOb) R1 ∧ OwnS 34 8 B h.es.length cB (h.es.flatMap encEv) R2 ∧ St Lx ∧ L' = R1 :: R2 :: Lx
theorem PHk.owned {P : Program} {f : FuncId} {args : Array Value} {ro : Ro} {L : List (List Blk)} {hh : Hi} (h : CT P f args ro L (PHk hh (fun Lx => Lx = L))) : CT P f args ro L (PHo hh L) := h.mono fun v ro' L' _ hp => by
  obtain ⟨A, cA, B, cB, R1, R2, Lx, rfl, h1, h2, rfl, rfl⟩ := hp
  exact ⟨A, cA, B, cB, R1, R2, rfl, h1, h2, rfl⟩

theorem kept_c (h : Hi) (A : Option Addr) (cA : Nat) (B : Option Addr) (cB : Nat) (ro : Ro) (L : List (List Blk)) (hh : SH ro A cA B cB h) (hn1 : h.os.length ≤ 100) (hn2 : h.es.length ≤ 600) (fk : FuncId) (caps : List Value) (hfn : Fun Tryd.prog fk) (p : Nat → Ev → Bool) (St : Nat → List (List Blk) → Prop) (hk : Keeps fk caps p h.es ro St) (h0 : St 0 L) :
    CT Tryd.prog 38 [.agg [.slice A h.os.length cA, .slice B h.es.length cB].toArray, .func (.func fk) #[] caps.toArray].toArray ro L (PHk ⟨h.os, kp p h.es⟩ (St h.es.length)) := by
  refine enter Tryd.func38 rfl Tryd.ntmps38 rfl ?_
  refine seq ?_
  refine region ?_
  refine op (e_box rfl rfl rfl fun b2 => ?_)
  refine op (e_alloc rfl zc_25 rfl fun b4 => ?_)
  refine nil ?_
  refine n_then ?_
  refine seq ?_
  refine region ?_
  refine op (y (x_fieldAddr fo_25_0 rfl) rfl ?_)
  refine op (y (x_load1 ag_22 rfl (by first | assumption | exact Cell.own 0 rfl rfl | exact Cell.own 1 rfl rfl | exact Cell.own 2 rfl rfl | exact Cell.own 3 rfl rfl | exact Cell.own 4 rfl rfl | exact Cell.own 5 rfl rfl | exact Cell.own 6 rfl rfl | exact Cell.own 7 rfl rfl | exact Cell.own 8 rfl rfl | exact Cell.own 9 rfl rfl | exact Cell.ofRo (by assumption))) rfl ?_)
  refine op (y (x_build bu_25 rfl rfl) rfl ?_)
  refine op (e_call rfl fn_37 rfl rfl (Clone_o ⟨h.os, []⟩ A cA none 0 _ _ ⟨hh.o, by simp, by simp [maxLen], by simp, fun h => absurd rfl h⟩ hn1 (by simp)) fun v11 ro11 L11 hle11 hp11 => ?_)
  obtain ⟨A5, c5, A6, c6, R1, R2, rfl, hO1, hO2, rfl⟩ := hp11
  refine op (e_alloc rfl zc_25 rfl fun b5 => ?_)
  first | refine op (e_store 0 rfl rfl ts_25 rfl rfl rfl rfl rfl rfl ?_) | refine op (e_store 1 rfl rfl ts_25 rfl rfl rfl rfl rfl rfl ?_) | refine op (e_store 2 rfl rfl ts_25 rfl rfl rfl rfl rfl rfl ?_) | refine op (e_store 3 rfl rfl ts_25 rfl rfl rfl rfl rfl rfl ?_) | refine op (e_store 4 rfl rfl ts_25 rfl rfl rfl rfl rfl rfl ?_) | refine op (e_store 5 rfl rfl ts_25 rfl rfl rfl rfl rfl rfl ?_) | refine op (e_store 6 rfl rfl ts_25 rfl rfl rfl rfl rfl rfl ?_) | refine op (e_store 7 rfl rfl ts_25 rfl rfl rfl rfl rfl rfl ?_) | refine op (e_store 8 rfl rfl ts_25 rfl rfl rfl rfl rfl rfl ?_) | refine op (e_store 9 rfl rfl ts_25 rfl rfl rfl rfl rfl rfl ?_)
  refine nil ?_
  refine n_then ?_
  refine seq ?_
  refine seq ?_
  refine region ?_
  refine op (y (x_fieldAddr fo_25_1 rfl) rfl ?_)
  refine op (y (x_load1 ag_23 rfl (by first | assumption | exact Cell.own 0 rfl rfl | exact Cell.own 1 rfl rfl | exact Cell.own 2 rfl rfl | exact Cell.own 3 rfl rfl | exact Cell.own 4 rfl rfl | exact Cell.own 5 rfl rfl | exact Cell.own 6 rfl rfl | exact Cell.own 7 rfl rfl | exact Cell.own 8 rfl rfl | exact Cell.own 9 rfl rfl | exact Cell.ofRo (by assumption))) rfl ?_)
  refine op (y (x_lenSl sz_23 rfl) rfl ?_)
  refine op (y (x_move rfl) rfl ?_)
  refine nil ?_
  refine n_then ?_
  refine block ?_
  refine loop (fun m F ro' L' => ∃ (i : Nat) (m6 : Nat) (A6 : Option Addr) (c6 : Nat) (R2 : List Blk) (Lx : List (List Blk)), (m = h.es.length - i) ∧ (F = [(1, .func (.func fk) #[] caps.toArray), (5, .pointer (some ⟨b5, 0, none⟩)), (4, .pointer (some ⟨b4, 0, none⟩)), (13, .slice B h.es.length cB), (14, .int .i64 (h.es.length : Nat)), (15, .int .i64 (i : Nat))]) ∧ (L' = [(b5, Obj.cells [.slice A5 h.os.length c5, .slice A6 m6 c6].toArray 25 (0, 0))] :: R1 :: R2 :: [(b4, Obj.cells [.slice none 0 0, .slice none 0 0].toArray 25 (0, 0))] :: [(b2, Obj.cells [.slice A h.os.length cA, .slice B h.es.length cB].toArray 25 (0, 0))] :: Lx) ∧ (i ≤ h.es.length) ∧ (ro.le ro') ∧ (OwnS 34 8 A6 m6 c6 ((kp p (h.es.take i)).flatMap encEv) R2) ∧ (St i Lx) ∧ (m6 = (kp p (h.es.take i)).length)) (h.es.length - 0) [(1, .func (.func fk) #[] caps.toArray), (5, .pointer (some ⟨b5, 0, none⟩)), (4, .pointer (some ⟨b4, 0, none⟩)), (13, .slice B h.es.length cB), (14, .int .i64 (h.es.length : Nat)), (15, .int .i64 (0 : Nat))] ⟨rfl, rfl, rfl, rfl, rfl, rfl, trivial⟩ ⟨0, 0, A6, c6, R2, L, rfl, rfl, rfl, by omega, hle11, by simpa [kp] using hO2, h0, by simp [kp]⟩ ?_
  rintro m F ro' L' ⟨i, m6, A6, c6, R2, Lx, rfl, rfl, rfl, hi, hro, hO2, hst, hm6⟩
  refine seq ?_
  refine region ?_
  refine op (y (x_lss rfl rfl) rfl ?_)
  refine nil ?_
  refine n_then ?_
  refine seq ?_
  refine cond rfl (fun h3 => ?_) (fun h3 => ?_)
  · try simp only [decide_eq_true_eq, decide_eq_false_iff_not, beq_iff_eq, bne_iff_ne, ne_eq, beq_eq_false_iff_ne, bne_eq_false_iff_eq, Bool.not_eq_true', Bool.not_eq_false', Bool.not_eq_true, Bool.not_eq_false, Decidable.not_not, Int.not_lt, Int.not_le] at h3
    refine skip ?_
    refine n_then ?_
    refine seq ?_
    refine block ?_
    refine seq ?_
    have hcap : h.es.length ≤ 9223372036854775807 := by omega
    have hB := hh.e
    obtain ⟨bbx, offx, rfl, hcx⟩ := hB.at_ (i := i) (by omega)
    have hx := List.getElem?_eq_getElem (show i < h.es.length from by omega)
    have hkl : m6 ≤ 600 := by rw [hm6]; exact Nat.le_trans (kp_len _ _) (by simp; omega)
    refine region ?_
    refine op (y (x_move rfl) rfl ?_)
    refine op (y (x_indexNat sz_23 rfl rfl (by omega)) rfl ?_)
    refine op (y (x_loadN ag_34 rfl rfl (CellsAt.ofRo (fun j v hv => hro.cell (hcx i _ hx j v hv)))) rfl ?_)
    refine op (e_alloc rfl zc_34 rfl fun b7 => ?_)
    refine op (y (x_assign rfl) rfl ?_)
    first | refine op (e_store 0 rfl rfl ts_34 rfl rfl rfl rfl rfl rfl ?_) | refine op (e_store 1 rfl rfl ts_34 rfl rfl rfl rfl rfl rfl ?_) | refine op (e_store 2 rfl rfl ts_34 rfl rfl rfl rfl rfl rfl ?_) | refine op (e_store 3 rfl rfl ts_34 rfl rfl rfl rfl rfl rfl ?_) | refine op (e_store 4 rfl rfl ts_34 rfl rfl rfl rfl rfl rfl ?_) | refine op (e_store 5 rfl rfl ts_34 rfl rfl rfl rfl rfl rfl ?_) | refine op (e_store 6 rfl rfl ts_34 rfl rfl rfl rfl rfl rfl ?_) | refine op (e_store 7 rfl rfl ts_34 rfl rfl rfl rfl rfl rfl ?_) | refine op (e_store 8 rfl rfl ts_34 rfl rfl rfl rfl rfl rfl ?_) | refine op (e_store 9 rfl rfl ts_34 rfl rfl rfl rfl rfl rfl ?_)
    refine nil ?_
    refine n_then ?_
    refine seq ?_
    refine region ?_
    refine op (y (x_move rfl) rfl ?_)
    refine op (y (x_move rfl) rfl ?_)
    refine op (y ((by first | exact x_loadOwn 0 _ ag_34 rfl rfl rfl rfl | exact x_loadOwn 1 _ ag_34 rfl rfl rfl rfl | exact x_loadOwn 2 _ ag_34 rfl rfl rfl rfl | exact x_loadOwn 3 _ ag_34 rfl rfl rfl rfl | exact x_loadOwn 4 _ ag_34 rfl rfl rfl rfl | exact x_loadOwn 5 _ ag_34 rfl rfl rfl rfl | exact x_loadOwn 6 _ ag_34 rfl rfl rfl rfl | exact x_loadOwn 7 _ ag_34 rfl rfl rfl rfl | exact x_loadOwn 8 _ ag_34 rfl rfl rfl rfl | exact x_loadOwn 9 _ ag_34 rfl rfl rfl rfl | exact x_loadOwn 10 _ ag_34 rfl rfl rfl rfl | exact x_loadOwn 11 _ ag_34 rfl rfl rfl rfl)) rfl ?_)
    refine permL (Lx ++ [[(b7, Obj.cells (encEv (h.es[i])).toArray 34 (0, 0))], [(b5, Obj.cells [Value.slice A5 h.os.length c5, Value.slice A6 m6 c6].toArray 25 (0, 0))], R1, R2, [(b4, Obj.cells [Value.slice none 0 0, Value.slice none 0 0].toArray 25 (0, 0))], [(b2, Obj.cells [Value.slice A h.os.length cA, Value.slice (some ⟨bbx, offx, none⟩) h.es.length cB].toArray 25 (0, 0))]]) (List.perm_append_comm (l₁ := Lx) (l₂ := [[(b7, Obj.cells (encEv (h.es[i])).toArray 34 (0, 0))], [(b5, Obj.cells [Value.slice A5 h.os.length c5, Value.slice A6 m6 c6].toArray 25 (0, 0))], R1, R2, [(b4, Obj.cells [Value.slice none 0 0, Value.slice none 0 0].toArray 25 (0, 0))], [(b2, Obj.cells [Value.slice A h.os.length cA, Value.slice (some ⟨bbx, offx, none⟩) h.es.length cB].toArray 25 (0, 0))]])) ?_
    refine op (e_call rfl (hfn) rfl rfl (hk i (h.es[i]) Lx [[(b7, Obj.cells (encEv (h.es[i])).toArray 34 (0, 0))], [(b5, Obj.cells [Value.slice A5 h.os.length c5, Value.slice A6 m6 c6].toArray 25 (0, 0))], R1, R2, [(b4, Obj.cells [Value.slice none 0 0, Value.slice none 0 0].toArray 25 (0, 0))], [(b2, Obj.cells [Value.slice A h.os.length cA, Value.slice (some ⟨bbx, offx, none⟩) h.es.length cB].toArray 25 (0, 0))]] _ hro hx hst) fun v23 ro23 L23 hle23 hp23 => ?_)
    obtain ⟨rfl, Lx', hst', rfl⟩ := hp23
    refine permL ([[(b7, Obj.cells (encEv (h.es[i])).toArray 34 (0, 0))], [(b5, Obj.cells [Value.slice A5 h.os.length c5, Value.slice A6 m6 c6].toArray 25 (0, 0))], R1, R2, [(b4, Obj.cells [Value.slice none 0 0, Value.slice none 0 0].toArray 25 (0, 0))], [(b2, Obj.cells [Value.slice A h.os.length cA, Value.slice (some ⟨bbx, offx, none⟩) h.es.length cB].toArray 25 (0, 0))]] ++ Lx') (List.perm_append_comm (l₁ := [[(b7, Obj.cells (encEv (h.es[i])).toArray 34 (0, 0))], [(b5, Obj.cells [Value.slice A5 h.os.length c5, Value.slice A6 m6 c6].toArray 25 (0, 0))], R1, R2, [(b4, Obj.cells [Value.slice none 0 0, Value.slice none 0 0].toArray 25 (0, 0))], [(b2, Obj.cells [Value.slice A h.os.length cA, Value.slice (some ⟨bbx, offx, none⟩) h.es.length cB].toArray 25 (0, 0))]]) (l₂ := Lx')) ?_
    refine nil ?_
    refine n_then ?_
    refine cond rfl (fun h5 => ?_) (fun h5 => ?_)
    · try simp only [decide_eq_true_eq, decide_eq_false_iff_not, beq_iff_eq, bne_iff_ne, ne_eq, beq_eq_false_iff_ne, bne_eq_false_iff_eq, Bool.not_eq_true', Bool.not_eq_false', Bool.not_eq_true, Bool.not_eq_false, Decidable.not_not, Int.not_lt, Int.not_le] at h5
      refine region ?_
      refine op (y (x_fieldAddr fo_25_1 rfl) rfl ?_)
      refine op (y (x_load1 ag_23 rfl (by first | assumption | exact Cell.own 0 rfl rfl | exact Cell.own 1 rfl rfl | exact Cell.own 2 rfl rfl | exact Cell.own 3 rfl rfl | exact Cell.own 4 rfl rfl | exact Cell.own 5 rfl rfl | exact Cell.own 6 rfl rfl | exact Cell.own 7 rfl rfl | exact Cell.own 8 rfl rfl | exact Cell.own 9 rfl rfl | exact Cell.ofRo (by assumption))) rfl ?_)
      refine op (y ((by first | exact x_loadOwn 0 _ ag_34 rfl rfl rfl rfl | exact x_loadOwn 1 _ ag_34 rfl rfl rfl rfl | exact x_loadOwn 2 _ ag_34 rfl rfl rfl rfl | exact x_loadOwn 3 _ ag_34 rfl rfl rfl rfl | exact x_loadOwn 4 _ ag_34 rfl rfl rfl rfl | exact x_loadOwn 5 _ ag_34 rfl rfl rfl rfl | exact x_loadOwn 6 _ ag_34 rfl rfl rfl rfl | exact x_loadOwn 7 _ ag_34 rfl rfl rfl rfl | exact x_loadOwn 8 _ ag_34 rfl rfl rfl rfl | exact x_loadOwn 9 _ ag_34 rfl rfl rfl rfl | exact x_loadOwn 10 _ ag_34 rfl rfl rfl rfl | exact x_loadOwn 11 _ ag_34 rfl rfl rfl rfl)) rfl ?_)
      refine op (e_slice1 rfl Tryd.underlying23 ti_34 rfl rfl (by decide) (by decide) rfl rfl rfl fun b27 => ?_)
      refine op (e_append1 3 rfl st_23 rfl rfl rfl hO2 rfl rfl (by omega) (by omega) (fun _ => rfl) fun A28 cap28 R28 hO28 => ?_)
      refine op (y (x_fieldAddr fo_25_1 rfl) rfl ?_)
      first | refine op (e_store 0 rfl rfl ts_23 rfl rfl rfl rfl rfl rfl ?_) | refine op (e_store 1 rfl rfl ts_23 rfl rfl rfl rfl rfl rfl ?_) | refine op (e_store 2 rfl rfl ts_23 rfl rfl rfl rfl rfl rfl ?_) | refine op (e_store 3 rfl rfl ts_23 rfl rfl rfl rfl rfl rfl ?_) | refine op (e_store 4 rfl rfl ts_23 rfl rfl rfl rfl rfl rfl ?_) | refine op (e_store 5 rfl rfl ts_23 rfl rfl rfl rfl rfl rfl ?_) | refine op (e_store 6 rfl rfl ts_23 rfl rfl rfl rfl rfl rfl ?_) | refine op (e_store 7 rfl rfl ts_23 rfl rfl rfl rfl rfl rfl ?_) | refine op (e_store 8 rfl rfl ts_23 rfl rfl rfl rfl rfl rfl ?_) | refine op (e_store 9 rfl rfl ts_23 rfl rfl rfl rfl rfl rfl ?_)
      refine nil ?_
      refine n_in ?_
      refine n_then ?_
      refine region ?_
      refine op (y (x_add rfl rfl _ (wr (by omega) (by omega))) rfl ?_)
      refine op (y (x_move rfl) rfl ?_)
      refine nil ?_
      refine drop0 ?_
      first | exact round (h.es.length - (i + 1)) [(1, .func (.func fk) #[] caps.toArray), (5, .pointer (some ⟨b5, 0, none⟩)), (4, .pointer (some ⟨b4, 0, none⟩)), (13, .slice _ h.es.length cB), (14, .int .i64 (h.es.length : Nat)), (15, .int .i64 ((i + 1) : Nat))] (by omega) ⟨rfl, rfl, rfl, rfl, rfl, rfl, trivial⟩ ⟨i + 1, _, _, _, _, Lx', rfl, rfl, rfl, by omega, hro.trans hle23, by rw [kp_snoc hx, h5, if_pos rfl]; exact hO28.snoc (enc := encEv), hst', by rw [kp_snoc hx, h5, if_pos rfl, hm6]; simp⟩ | exact round (h.es.length - (i + 1)) [(1, .func (.func fk) #[] caps.toArray), (5, .pointer (some ⟨b5, 0, none⟩)), (4, .pointer (some ⟨b4, 0, none⟩)), (13, .slice _ h.es.length cB), (14, .int .i64 (h.es.length : Nat)), (15, .int .i64 ((i + 1) : Nat))] (by omega) ⟨rfl, rfl, rfl, rfl, rfl, rfl, trivial⟩ ⟨i + 1, _, _, _, _, Lx', rfl, rfl, rfl, by omega, hro.trans hle23, by rw [kp_snoc hx, h5]; simpa using hO2, hst', by rw [kp_snoc hx, h5, hm6]; simp⟩
    · try simp only [decide_eq_true_eq, decide_eq_false_iff_not, beq_iff_eq, bne_iff_ne, ne_eq, beq_eq_false_iff_ne, bne_eq_false_iff_eq, Bool.not_eq_true', Bool.not_eq_false', Bool.not_eq_true, Bool.not_eq_false, Decidable.not_not, Int.not_lt, Int.not_le] at h5
      refine skip ?_
      refine n_in ?_
      refine n_then ?_
      refine region ?_
      refine op (y (x_add rfl rfl _ (wr (by omega) (by omega))) rfl ?_)
      refine op (y (x_move rfl) rfl ?_)
      refine nil ?_
      refine drop0 ?_
      first | exact round (h.es.length - (i + 1)) [(1, .func (.func fk) #[] caps.toArray), (5, .pointer (some ⟨b5, 0, none⟩)), (4, .pointer (some ⟨b4, 0, none⟩)), (13, .slice _ h.es.length cB), (14, .int .i64 (h.es.length : Nat)), (15, .int .i64 ((i + 1) : Nat))] (by omega) ⟨rfl, rfl, rfl, rfl, rfl, rfl, trivial⟩ ⟨i + 1, _, _, _, _, Lx', rfl, rfl, rfl, by omega, hro.trans hle23, by rw [kp_snoc hx, h5, if_pos rfl]; exact hO28.snoc (enc := encEv), hst', by rw [kp_snoc hx, h5, if_pos rfl, hm6]; simp⟩ | exact round (h.es.length - (i + 1)) [(1, .func (.func fk) #[] caps.toArray), (5, .pointer (some ⟨b5, 0, none⟩)), (4, .pointer (some ⟨b4, 0, none⟩)), (13, .slice _ h.es.length cB), (14, .int .i64 (h.es.length : Nat)), (15, .int .i64 ((i + 1) : Nat))] (by omega) ⟨rfl, rfl, rfl, rfl, rfl, rfl, trivial⟩ ⟨i + 1, _, _, _, _, Lx', rfl, rfl, rfl, by omega, hro.trans hle23, by rw [kp_snoc hx, h5]; simpa using hO2, hst', by rw [kp_snoc hx, h5, hm6]; simp⟩
  · try simp only [decide_eq_true_eq, decide_eq_false_iff_not, beq_iff_eq, bne_iff_ne, ne_eq, beq_eq_false_iff_ne, bne_eq_false_iff_eq, Bool.not_eq_true', Bool.not_eq_false', Bool.not_eq_true, Bool.not_eq_false, Decidable.not_not, Int.not_lt, Int.not_le] at h3
    refine exit ?_
    refine e_then ?_
    refine e_then ?_
    refine e_in ?_
    refine n_then ?_
    refine seq ?_
    refine region ?_
    refine op (y ((by first | exact x_loadOwn 0 _ ag_25 rfl rfl rfl rfl | exact x_loadOwn 1 _ ag_25 rfl rfl rfl rfl | exact x_loadOwn 2 _ ag_25 rfl rfl rfl rfl | exact x_loadOwn 3 _ ag_25 rfl rfl rfl rfl | exact x_loadOwn 4 _ ag_25 rfl rfl rfl rfl | exact x_loadOwn 5 _ ag_25 rfl rfl rfl rfl | exact x_loadOwn 6 _ ag_25 rfl rfl rfl rfl | exact x_loadOwn 7 _ ag_25 rfl rfl rfl rfl | exact x_loadOwn 8 _ ag_25 rfl rfl rfl rfl | exact x_loadOwn 9 _ ag_25 rfl rfl rfl rfl | exact x_loadOwn 10 _ ag_25 rfl rfl rfl rfl | exact x_loadOwn 11 _ ag_25 rfl rfl rfl rfl)) rfl ?_)
    first | refine op (e_store 0 rfl rfl ts_25 rfl rfl rfl rfl rfl rfl ?_) | refine op (e_store 1 rfl rfl ts_25 rfl rfl rfl rfl rfl rfl ?_) | refine op (e_store 2 rfl rfl ts_25 rfl rfl rfl rfl rfl rfl ?_) | refine op (e_store 3 rfl rfl ts_25 rfl rfl rfl rfl rfl rfl ?_) | refine op (e_store 4 rfl rfl ts_25 rfl rfl rfl rfl rfl rfl ?_) | refine op (e_store 5 rfl rfl ts_25 rfl rfl rfl rfl rfl rfl ?_) | refine op (e_store 6 rfl rfl ts_25 rfl rfl rfl rfl rfl rfl ?_) | refine op (e_store 7 rfl rfl ts_25 rfl rfl rfl rfl rfl rfl ?_) | refine op (e_store 8 rfl rfl ts_25 rfl rfl rfl rfl rfl rfl ?_) | refine op (e_store 9 rfl rfl ts_25 rfl rfl rfl rfl rfl rfl ?_)
    refine nil ?_
    refine n_then ?_
    refine ret ?_
    obtain rfl : i = h.es.length := by omega
    rw [List.take_length] at hO2 hm6
    subst hm6
    exact done rfl (Res.cellN ag_25 rfl rfl (CellsAt.own 3 0 2 _ rfl rfl) (.nil)) (hro) (R1 :: R2 :: Lx) (subF (by (repeat (first | exact List.Sublist.refl _ | apply List.Sublist.cons_cons | apply List.Sublist.cons)); done)) (⟨A5, c5, A6, c6, R1, R2, Lx, by simp [tupled], hO1, hO2, hst, rfl⟩)

end Go.Proofs.YtijafcilfefafaaDoor
