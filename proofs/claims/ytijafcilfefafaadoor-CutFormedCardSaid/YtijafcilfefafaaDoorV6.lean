/- The walks of the references of prefixes and of histories of which events are left out. -/
import Derived.Test.YtijafcilfefafaaDoorV5
namespace Go.Proofs.YtijafcilfefafaaDoor
open Go Go.U
set_option maxRecDepth 20000
set_option linter.unusedSimpArgs false
set_option linter.unusedVariables false

def keepT (h : Hi) (txs : List Int) (b : Bool) : Hi := ⟨h.os, h.es.filter (fun e => decide (e.tx ∈ txs) == b)⟩
theorem keepT_one (h : Hi) (tx : Int) : keepT h [tx] false = woT h tx := by
  unfold keepT woT
  congr 1
  refine List.filter_congr fun e _ => ?_
  by_cases hx : e.tx = tx <;> simp [hx]
theorem keepT_true (h : Hi) (txs : List Int) : keepT h txs true = onT h (fun t => decide (t ∈ txs)) := by
  unfold keepT onT
  congr 1
  refine List.filter_congr fun e _ => ?_
  simp
theorem filter_snoc {p : Ev → Bool} {es : List Ev} {k : Nat} {e : Ev} (h : es[k]? = some e) : (es.take (k + 1)).filter p = (es.take k).filter p ++ (if p e then [e] else []) := by
  rw [take_snoc' h, List.filter_append]
  congr 1
  by_cases hp : p e = true <;> simp [hp]

theorem PrefixR_c (h : Hi) (A : Option Addr) (cA : Nat) (B : Option Addr) (cB : Nat) (ro : Ro) (L : List (List Blk)) (hh : SH ro A cA B cB h) (n : Int) (hn1 : h.os.length ≤ 100) (hn2 : h.es.length ≤ 600) :
    CT Tryd.prog 14 [.agg [.slice A h.os.length cA, .slice B h.es.length cB].toArray, .int .i64 n].toArray ro L (PH (pre h n) L) := by
  refine enter Tryd.func14 rfl Tryd.ntmps14 rfl ?_
  refine seq ?_
  refine region ?_
  refine op (e_box rfl rfl rfl fun b2 => ?_)
  refine op (e_alloc rfl zc_25 rfl fun b4 => ?_)
  refine nil ?_
  refine n_then ?_
  refine seq ?_
  refine region ?_
  refine op (y (x_move rfl) rfl ?_)
  refine op (y (x_fieldAddr fo_25_1 rfl) rfl ?_)
  refine op (y (x_load1 ag_23 rfl (by first | assumption | exact Cell.own 0 rfl rfl | exact Cell.own 1 rfl rfl | exact Cell.own 2 rfl rfl | exact Cell.own 3 rfl rfl | exact Cell.own 4 rfl rfl | exact Cell.own 5 rfl rfl | exact Cell.own 6 rfl rfl | exact Cell.own 7 rfl rfl | exact Cell.own 8 rfl rfl | exact Cell.own 9 rfl rfl | exact Cell.ofRo (by assumption))) rfl ?_)
  refine op (y (x_lenSl sz_23 rfl) rfl ?_)
  refine op (y (x_min rfl rfl _ rfl) rfl ?_)
  refine op (y (x_max rfl rfl _ rfl) rfl ?_)
  refine said 10 (.int .i64 ((cutN n h.es.length : Nat) : Int)) rfl (by rw [cutN_if]) ?_
  refine op (y (x_assign rfl) rfl ?_)
  refine nil ?_
  refine n_then ?_
  refine seq ?_
  refine draw (List.flatten [[(b2, Obj.cells [Value.slice A h.os.length cA, Value.slice B h.es.length cB].toArray 25 (0, 0))]]) (by kernel_rfl) ?_
  refine d_take 0 rfl (by kernel_rfl) (by kernel_rfl) (by kernel_rfl) (fun _ _ _ h => h) rfl (.inl rfl) (x_fieldAddr fo_25_0 rfl) (fun w hi => J.of_le (by first | exact Ro.le.refl _ | exact hle13 | exact hle13.trans hle18) (fun x hx => by simp only [List.flatten_cons, List.flatten_nil, List.append_nil, List.mem_singleton] at hx; subst hx; simp) hi) ?_
  refine d_take 1 rfl (by kernel_rfl) (by kernel_rfl) (by kernel_rfl) (fun _ _ _ h => h) rfl (.inl rfl) (x_load1 ag_22 rfl (by first | assumption | exact Cell.own 0 rfl rfl | exact Cell.own 1 rfl rfl | exact Cell.own 2 rfl rfl | exact Cell.own 3 rfl rfl | exact Cell.own 4 rfl rfl | exact Cell.own 5 rfl rfl | exact Cell.own 6 rfl rfl | exact Cell.own 7 rfl rfl | exact Cell.own 8 rfl rfl | exact Cell.own 9 rfl rfl | exact Cell.ofRo (by assumption))) (fun w hi => J.of_le (by first | exact Ro.le.refl _ | exact hle13 | exact hle13.trans hle18) (fun x hx => by simp only [List.flatten_cons, List.flatten_nil, List.append_nil, List.mem_singleton] at hx; subst hx; simp) hi) ?_
  refine d_take 3 rfl (by kernel_rfl) (by kernel_rfl) (by kernel_rfl) (fun _ _ _ h => h) rfl (.inl rfl) (x_fieldAddr fo_25_1 rfl) (fun w hi => J.of_le (by first | exact Ro.le.refl _ | exact hle13 | exact hle13.trans hle18) (fun x hx => by simp only [List.flatten_cons, List.flatten_nil, List.append_nil, List.mem_singleton] at hx; subst hx; simp) hi) ?_
  refine d_take 4 rfl (by kernel_rfl) (by kernel_rfl) (by kernel_rfl) (fun _ _ _ h => h) rfl (.inl rfl) (x_load1 ag_23 rfl (by first | assumption | exact Cell.own 0 rfl rfl | exact Cell.own 1 rfl rfl | exact Cell.own 2 rfl rfl | exact Cell.own 3 rfl rfl | exact Cell.own 4 rfl rfl | exact Cell.own 5 rfl rfl | exact Cell.own 6 rfl rfl | exact Cell.own 7 rfl rfl | exact Cell.own 8 rfl rfl | exact Cell.own 9 rfl rfl | exact Cell.ofRo (by assumption))) (fun w hi => J.of_le (by first | exact Ro.le.refl _ | exact hle13 | exact hle13.trans hle18) (fun x hx => by simp only [List.flatten_cons, List.flatten_nil, List.append_nil, List.mem_singleton] at hx; subst hx; simp) hi) ?_
  refine d_take 5 rfl (by kernel_rfl) (by kernel_rfl) (by kernel_rfl) (fun _ _ _ h => h) rfl (.inl rfl) (x_move rfl) (fun w hi => J.of_le (by first | exact Ro.le.refl _ | exact hle13 | exact hle13.trans hle18) (fun x hx => by simp only [List.flatten_cons, List.flatten_nil, List.append_nil, List.mem_singleton] at hx; subst hx; simp) hi) ?_
  refine d_take 6 rfl (by kernel_rfl) (by kernel_rfl) (by kernel_rfl) (fun _ _ _ h => h) rfl (.inl rfl) (x_sliceHiN sz_23 rfl rfl (Nat.le_trans (cutN_le _ _) hh.e.1)) (fun w hi => J.of_le (by first | exact Ro.le.refl _ | exact hle13 | exact hle13.trans hle18) (fun x hx => by simp only [List.flatten_cons, List.flatten_nil, List.append_nil, List.mem_singleton] at hx; subst hx; simp) hi) ?_
  refine said 17 (.slice B (pre h n).es.length cB) rfl (by rw [pre_len]) ?_
  refine d_one 2 rfl (by kernel_rfl) (.inl rfl) (e_call rfl fn_10 rfl rfl (PO.frozen enc_ob (Objects_o h.os A cA _ _ hh.o (by omega))) fun v13 ro13 L13 hle13 hp13 => ?_)
  obtain ⟨A5, c5, rfl, hS5, rfl⟩ := hp13
  refine d_next (fun w hi => J.of_le (by first | exact Ro.le.refl _ | exact hle13 | exact hle13.trans hle18) (fun x hx => by simp only [List.flatten_cons, List.flatten_nil, List.append_nil, List.mem_singleton] at hx; subst hx; simp) hi) ?_
  refine d_one 7 rfl (by kernel_rfl) (.inl rfl) (e_call rfl fn_11 rfl rfl (PO.frozen enc_ev (Events_o (pre h n).es B cB _ _ ((hh.pre n).e.mono hle13) (by have := cutN_le n h.es.length; rw [pre_len] at this; omega))) fun v18 ro18 L18 hle18 hp18 => ?_)
  obtain ⟨A6, c6, rfl, hS6, rfl⟩ := hp18
  refine d_next (fun w hi => J.of_le (by first | exact Ro.le.refl _ | exact hle13 | exact hle13.trans hle18) (fun x hx => by simp only [List.flatten_cons, List.flatten_nil, List.append_nil, List.mem_singleton] at hx; subst hx; simp) hi) ?_
  refine d_take 8 rfl (by kernel_rfl) (by kernel_rfl) (by kernel_rfl) (fun _ _ _ h => h) rfl (.inl rfl) (x_build bu_25 rfl rfl) (fun w hi => J.of_le (by first | exact Ro.le.refl _ | exact hle13 | exact hle13.trans hle18) (fun x hx => by simp only [List.flatten_cons, List.flatten_nil, List.append_nil, List.mem_singleton] at hx; subst hx; simp) hi) ?_
  first | refine d_one 9 rfl (by kernel_rfl) (.inl rfl) (e_store 0 rfl rfl ts_25 rfl rfl rfl rfl rfl rfl ?_) | refine d_one 9 rfl (by kernel_rfl) (.inl rfl) (e_store 1 rfl rfl ts_25 rfl rfl rfl rfl rfl rfl ?_) | refine d_one 9 rfl (by kernel_rfl) (.inl rfl) (e_store 2 rfl rfl ts_25 rfl rfl rfl rfl rfl rfl ?_) | refine d_one 9 rfl (by kernel_rfl) (.inl rfl) (e_store 3 rfl rfl ts_25 rfl rfl rfl rfl rfl rfl ?_) | refine d_one 9 rfl (by kernel_rfl) (.inl rfl) (e_store 4 rfl rfl ts_25 rfl rfl rfl rfl rfl rfl ?_) | refine d_one 9 rfl (by kernel_rfl) (.inl rfl) (e_store 5 rfl rfl ts_25 rfl rfl rfl rfl rfl rfl ?_) | refine d_one 9 rfl (by kernel_rfl) (.inl rfl) (e_store 6 rfl rfl ts_25 rfl rfl rfl rfl rfl rfl ?_) | refine d_one 9 rfl (by kernel_rfl) (.inl rfl) (e_store 7 rfl rfl ts_25 rfl rfl rfl rfl rfl rfl ?_) | refine d_one 9 rfl (by kernel_rfl) (.inl rfl) (e_store 8 rfl rfl ts_25 rfl rfl rfl rfl rfl rfl ?_) | refine d_one 9 rfl (by kernel_rfl) (.inl rfl) (e_store 9 rfl rfl ts_25 rfl rfl rfl rfl rfl rfl ?_)
  refine d_next (fun w hi => J.of_le (by first | exact Ro.le.refl _ | exact hle13 | exact hle13.trans hle18) (fun x hx => by simp only [List.flatten_cons, List.flatten_nil, List.append_nil, List.mem_singleton] at hx; subst hx; simp) hi) ?_
  refine d_end (by kernel_rfl) ?_
  refine n_then ?_
  refine ret ?_
  exact done rfl (Res.cellN ag_25 rfl rfl (CellsAt.own 0 0 2 _ rfl rfl) (.nil)) (hle13.trans hle18) (L) (subF (by (repeat (first | exact List.Sublist.refl _ | apply List.Sublist.cons_cons | apply List.Sublist.cons)); done)) (⟨A5, c5, A6, c6, rfl, ⟨hS5.mono hle18, hS6⟩, rfl⟩)

theorem Keep_c (h : Hi) (A : Option Addr) (cA : Nat) (B : Option Addr) (cB : Nat) (ro : Ro) (L : List (List Blk)) (hh : SH ro A cA B cB h) (txs : List Int) (T : Option Addr) (cT : Nat) (ht : Sl ro 1 encInt T cT txs) (kb : Bool) (hn1 : h.os.length ≤ 100) (hn2 : h.es.length ≤ 600) :
    CT Tryd.prog 19 [.agg [.slice A h.os.length cA, .slice B h.es.length cB].toArray, .slice T txs.length cT, .bool kb].toArray ro L (PH (keepT h txs kb) L) := by
  refine enter Tryd.func19 rfl Tryd.ntmps19 rfl ?_
  refine seq ?_
  refine region ?_
  refine op (e_box rfl rfl rfl fun b3 => ?_)
  refine op (e_alloc rfl zc_25 rfl fun b6 => ?_)
  refine nil ?_
  refine n_then ?_
  refine seq ?_
  refine region ?_
  refine op (y (x_fieldAddr fo_25_0 rfl) rfl ?_)
  refine op (y (x_load1 ag_22 rfl (by first | assumption | exact Cell.own 0 rfl rfl | exact Cell.own 1 rfl rfl | exact Cell.own 2 rfl rfl | exact Cell.own 3 rfl rfl | exact Cell.own 4 rfl rfl | exact Cell.own 5 rfl rfl | exact Cell.own 6 rfl rfl | exact Cell.own 7 rfl rfl | exact Cell.own 8 rfl rfl | exact Cell.own 9 rfl rfl | exact Cell.ofRo (by assumption))) rfl ?_)
  refine op (e_call rfl fn_10 rfl rfl (PO.frozen enc_ob (Objects_o h.os A cA _ _ hh.o (by omega))) fun v11 ro11 L11 hle11 hp11 => ?_)
  obtain ⟨A5, c5, rfl, hS5, rfl⟩ := hp11
  refine op (y (x_build bu_25 rfl rfl) rfl ?_)
  refine op (e_alloc rfl zc_25 rfl fun b7 => ?_)
  first | refine op (e_store 0 rfl rfl ts_25 rfl rfl rfl rfl rfl rfl ?_) | refine op (e_store 1 rfl rfl ts_25 rfl rfl rfl rfl rfl rfl ?_) | refine op (e_store 2 rfl rfl ts_25 rfl rfl rfl rfl rfl rfl ?_) | refine op (e_store 3 rfl rfl ts_25 rfl rfl rfl rfl rfl rfl ?_) | refine op (e_store 4 rfl rfl ts_25 rfl rfl rfl rfl rfl rfl ?_) | refine op (e_store 5 rfl rfl ts_25 rfl rfl rfl rfl rfl rfl ?_) | refine op (e_store 6 rfl rfl ts_25 rfl rfl rfl rfl rfl rfl ?_) | refine op (e_store 7 rfl rfl ts_25 rfl rfl rfl rfl rfl rfl ?_) | refine op (e_store 8 rfl rfl ts_25 rfl rfl rfl rfl rfl rfl ?_) | refine op (e_store 9 rfl rfl ts_25 rfl rfl rfl rfl rfl rfl ?_)
  refine nil ?_
  refine n_then ?_
  refine seq ?_
  refine seq ?_
  refine region ?_
  refine op (y (x_assign rfl) rfl ?_)
  refine nil ?_
  refine n_then ?_
  refine block ?_
  refine emp ?_
  refine loop (fun m F ro' L' => ∃ (i : Nat) (m6 : Nat) (A6 : Option Addr) (c6 : Nat) (R2 : List Blk), (m = h.es.length - i) ∧ (F = [(1, .slice T txs.length cT), (2, .bool kb), (3, .pointer (some ⟨b3, 0, none⟩)), (6, .pointer (some ⟨b6, 0, none⟩)), (7, .pointer (some ⟨b7, 0, none⟩)), (8, .int .i64 (i : Nat))]) ∧ (ro11 = ro') ∧ (L' = R2 :: [(b7, Obj.cells [Value.slice A5 h.os.length c5, Value.slice A6 m6 c6].toArray 25 (0, 0))] :: [(b6, Obj.cells [Value.slice none 0 0, Value.slice none 0 0].toArray 25 (0, 0))] :: [(b3, Obj.cells [Value.slice A h.os.length cA, Value.slice B h.es.length cB].toArray 25 (0, 0))] :: L) ∧ (i ≤ h.es.length) ∧ (OwnS 34 8 A6 m6 c6 (((h.es.take i).filter (fun e => decide (e.tx ∈ txs) == kb)).flatMap encEv) R2) ∧ (m6 = ((h.es.take i).filter (fun e => decide (e.tx ∈ txs) == kb)).length)) (h.es.length - 0) [(1, .slice T txs.length cT), (2, .bool kb), (3, .pointer (some ⟨b3, 0, none⟩)), (6, .pointer (some ⟨b6, 0, none⟩)), (7, .pointer (some ⟨b7, 0, none⟩)), (8, .int .i64 (0 : Nat))] ⟨rfl, rfl, rfl, rfl, rfl, rfl, trivial⟩ ⟨0, 0, none, 0, [], rfl, rfl, rfl, rfl, by omega, by simpa using OwnS.none_ 34 8, rfl⟩ ?_
  rintro m F ro' L' ⟨i, m6, A6, c6, R2, rfl, rfl, rfl, rfl, hi, hO, hm6⟩
  have hcap : h.es.length ≤ 600 := hn2
  refine seq ?_
  refine seq ?_
  refine region ?_
  refine op (y (x_move rfl) rfl ?_)
  refine op (y (x_fieldAddr fo_25_1 rfl) rfl ?_)
  refine op (y (x_load1 ag_23 rfl (by first | assumption | exact Cell.own 0 rfl rfl | exact Cell.own 1 rfl rfl | exact Cell.own 2 rfl rfl | exact Cell.own 3 rfl rfl | exact Cell.own 4 rfl rfl | exact Cell.own 5 rfl rfl | exact Cell.own 6 rfl rfl | exact Cell.own 7 rfl rfl | exact Cell.own 8 rfl rfl | exact Cell.own 9 rfl rfl | exact Cell.ofRo (by assumption))) rfl ?_)
  refine op (y (x_lenSl sz_23 rfl) rfl ?_)
  refine op (y (x_lss rfl rfl) rfl ?_)
  refine nil ?_
  refine n_then ?_
  refine cond rfl (fun h3 => ?_) (fun h3 => ?_)
  · try simp only [decide_eq_true_eq, decide_eq_false_iff_not, beq_iff_eq, bne_iff_ne, ne_eq, beq_eq_false_iff_ne, bne_eq_false_iff_eq, Bool.not_eq_true', Bool.not_eq_false', Bool.not_eq_true, Bool.not_eq_false, Decidable.not_not, Int.not_lt, Int.not_le] at h3
    refine skip ?_
    refine n_then ?_
    refine seq ?_
    refine block ?_
    refine seq ?_
    have hB := hh.e.mono hle11
    obtain ⟨bbx, offx, rfl, hcx⟩ := hB.at_ (i := i) (by omega)
    have hx := List.getElem?_eq_getElem (show i < h.es.length from by omega)
    have cx1 := hcx i _ hx 1 _ rfl
    have hm6l : m6 ≤ 600 := by rw [hm6]; exact Nat.le_trans (List.length_filter_le _ _) (by simp; omega)
    refine region ?_
    refine op (y (x_move rfl) rfl ?_)
    refine op (y (x_fieldAddr fo_25_1 rfl) rfl ?_)
    refine op (y (x_load1 ag_23 rfl (by first | assumption | exact Cell.own 0 rfl rfl | exact Cell.own 1 rfl rfl | exact Cell.own 2 rfl rfl | exact Cell.own 3 rfl rfl | exact Cell.own 4 rfl rfl | exact Cell.own 5 rfl rfl | exact Cell.own 6 rfl rfl | exact Cell.own 7 rfl rfl | exact Cell.own 8 rfl rfl | exact Cell.own 9 rfl rfl | exact Cell.ofRo (by assumption))) rfl ?_)
    refine op (y (x_move rfl) rfl ?_)
    refine op (y (x_indexNat sz_23 rfl rfl (by omega)) rfl ?_)
    refine op (y (x_fieldAddr fo_34_1 rfl) rfl ?_)
    refine op (y (x_load1 ag_3 rfl (by first | assumption | exact Cell.own 0 rfl rfl | exact Cell.own 1 rfl rfl | exact Cell.own 2 rfl rfl | exact Cell.own 3 rfl rfl | exact Cell.own 4 rfl rfl | exact Cell.own 5 rfl rfl | exact Cell.own 6 rfl rfl | exact Cell.own 7 rfl rfl | exact Cell.own 8 rfl rfl | exact Cell.own 9 rfl rfl | exact Cell.ofRo (by assumption))) rfl ?_)
    refine op (e_call rfl fn_41 rfl rfl (among_c txs T cT ((h.es[i]).tx) _ _ (ht.mono hle11)) fun v27 ro27 L27 hle27 hp27 => ?_)
    obtain ⟨rfl, rfl, rfl⟩ := hp27
    refine op (y (x_move rfl) rfl ?_)
    refine op (y (x_beql Tryd.underlying4 rfl rfl) rfl ?_)
    refine nil ?_
    refine n_then ?_
    refine cond rfl (fun h5 => ?_) (fun h5 => ?_)
    · try simp only [decide_eq_true_eq, decide_eq_false_iff_not, beq_iff_eq, bne_iff_ne, ne_eq, beq_eq_false_iff_ne, bne_eq_false_iff_eq, Bool.not_eq_true', Bool.not_eq_false', Bool.not_eq_true, Bool.not_eq_false, Decidable.not_not, Int.not_lt, Int.not_le] at h5
      refine draw (List.flatten [[(b3, Obj.cells [Value.slice A h.os.length cA, Value.slice (some ⟨bbx, offx, none⟩) h.es.length cB].toArray 25 (0, 0))]]) (by kernel_rfl) ?_
      refine d_take 0 rfl (by kernel_rfl) (by kernel_rfl) (by kernel_rfl) (fun _ _ _ h => h) rfl (.inl rfl) (x_fieldAddr fo_25_1 rfl) (fun w hi => J.of_le (by first | exact Ro.le.refl _ ) (fun x hx => by simp only [List.flatten_cons, List.flatten_nil, List.append_nil, List.mem_singleton] at hx; subst hx; simp) hi) ?_
      refine d_take 2 rfl (by kernel_rfl) (by kernel_rfl) (by kernel_rfl) (fun _ _ _ h => h) rfl (.inl rfl) (x_fieldAddr fo_25_1 rfl) (fun w hi => J.of_le (by first | exact Ro.le.refl _ ) (fun x hx => by simp only [List.flatten_cons, List.flatten_nil, List.append_nil, List.mem_singleton] at hx; subst hx; simp) hi) ?_
      refine d_take 3 rfl (by kernel_rfl) (by kernel_rfl) (by kernel_rfl) (fun _ _ _ h => h) rfl (.inl rfl) (x_load1 ag_23 rfl (by first | assumption | exact Cell.own 0 rfl rfl | exact Cell.own 1 rfl rfl | exact Cell.own 2 rfl rfl | exact Cell.own 3 rfl rfl | exact Cell.own 4 rfl rfl | exact Cell.own 5 rfl rfl | exact Cell.own 6 rfl rfl | exact Cell.own 7 rfl rfl | exact Cell.own 8 rfl rfl | exact Cell.own 9 rfl rfl | exact Cell.ofRo (by assumption))) (fun w hi => J.of_le (by first | exact Ro.le.refl _ ) (fun x hx => by simp only [List.flatten_cons, List.flatten_nil, List.append_nil, List.mem_singleton] at hx; subst hx; simp) hi) ?_
      refine d_take 4 rfl (by kernel_rfl) (by kernel_rfl) (by kernel_rfl) (fun _ _ _ h => h) rfl (.inl rfl) (x_move rfl) (fun w hi => J.of_le (by first | exact Ro.le.refl _ ) (fun x hx => by simp only [List.flatten_cons, List.flatten_nil, List.append_nil, List.mem_singleton] at hx; subst hx; simp) hi) ?_
      refine d_take 5 rfl (by kernel_rfl) (by kernel_rfl) (by kernel_rfl) (fun _ _ _ h => h) rfl (.inl rfl) (x_indexNat sz_23 rfl rfl (by omega)) (fun w hi => J.of_le (by first | exact Ro.le.refl _ ) (fun x hx => by simp only [List.flatten_cons, List.flatten_nil, List.append_nil, List.mem_singleton] at hx; subst hx; simp) hi) ?_
      refine d_take 6 rfl (by kernel_rfl) (by kernel_rfl) (by kernel_rfl) (fun _ _ _ h => h) rfl (.inl rfl) (x_loadN ag_34 rfl rfl (CellsAt.ofRo (hcx i _ hx))) (fun w hi => J.of_le (by first | exact Ro.le.refl _ ) (fun x hx => by simp only [List.flatten_cons, List.flatten_nil, List.append_nil, List.mem_singleton] at hx; subst hx; simp) hi) ?_
      refine d_two 1 7 (by kernel_rfl) ?_ ?_
      · skip
        refine d_the rfl (.inl rfl) (y (x_load1 ag_23 rfl (by first | assumption | exact Cell.own 0 rfl rfl | exact Cell.own 1 rfl rfl | exact Cell.own 2 rfl rfl | exact Cell.own 3 rfl rfl | exact Cell.own 4 rfl rfl | exact Cell.own 5 rfl rfl | exact Cell.own 6 rfl rfl | exact Cell.own 7 rfl rfl | exact Cell.own 8 rfl rfl | exact Cell.own 9 rfl rfl | exact Cell.ofRo (by assumption))) rfl ?_)
        refine d_next (fun w hi => J.of_le (by first | exact Ro.le.refl _ ) (fun x hx => by simp only [List.flatten_cons, List.flatten_nil, List.append_nil, List.mem_singleton] at hx; subst hx; simp) hi) ?_
        refine d_one 7 rfl (by kernel_rfl) (.inl rfl) (e_slice1 rfl Tryd.underlying23 ti_34 rfl rfl (by decide) (by decide) rfl rfl rfl fun b37 => ?_)
        refine d_next (fun w hi => J.of_le (by first | exact Ro.le.refl _ ) (fun x hx => by simp only [List.flatten_cons, List.flatten_nil, List.append_nil, List.mem_singleton] at hx; subst hx; simp) hi) ?_
        refine d_one 8 rfl (by kernel_rfl) (.inl rfl) (e_append1 0 rfl st_23 rfl rfl rfl hO rfl rfl (by omega) (by omega) (fun _ => rfl) fun A38 cap38 R38 hO38 => ?_)
        refine d_next (fun w hi => J.of_le (by first | exact Ro.le.refl _ ) (fun x hx => by simp only [List.flatten_cons, List.flatten_nil, List.append_nil, List.mem_singleton] at hx; subst hx; simp) hi) ?_
        refine d_take 9 rfl (by kernel_rfl) (by kernel_rfl) (by kernel_rfl) (fun _ _ _ h => h) rfl (.inl rfl) (x_fieldAddr fo_25_1 rfl) (fun w hi => J.of_le (by first | exact Ro.le.refl _ ) (fun x hx => by simp only [List.flatten_cons, List.flatten_nil, List.append_nil, List.mem_singleton] at hx; subst hx; simp) hi) ?_
        first | refine d_one 10 rfl (by kernel_rfl) (.inl rfl) (e_store 0 rfl rfl ts_23 rfl rfl rfl rfl rfl rfl ?_) | refine d_one 10 rfl (by kernel_rfl) (.inl rfl) (e_store 1 rfl rfl ts_23 rfl rfl rfl rfl rfl rfl ?_) | refine d_one 10 rfl (by kernel_rfl) (.inl rfl) (e_store 2 rfl rfl ts_23 rfl rfl rfl rfl rfl rfl ?_) | refine d_one 10 rfl (by kernel_rfl) (.inl rfl) (e_store 3 rfl rfl ts_23 rfl rfl rfl rfl rfl rfl ?_) | refine d_one 10 rfl (by kernel_rfl) (.inl rfl) (e_store 4 rfl rfl ts_23 rfl rfl rfl rfl rfl rfl ?_) | refine d_one 10 rfl (by kernel_rfl) (.inl rfl) (e_store 5 rfl rfl ts_23 rfl rfl rfl rfl rfl rfl ?_) | refine d_one 10 rfl (by kernel_rfl) (.inl rfl) (e_store 6 rfl rfl ts_23 rfl rfl rfl rfl rfl rfl ?_) | refine d_one 10 rfl (by kernel_rfl) (.inl rfl) (e_store 7 rfl rfl ts_23 rfl rfl rfl rfl rfl rfl ?_) | refine d_one 10 rfl (by kernel_rfl) (.inl rfl) (e_store 8 rfl rfl ts_23 rfl rfl rfl rfl rfl rfl ?_) | refine d_one 10 rfl (by kernel_rfl) (.inl rfl) (e_store 9 rfl rfl ts_23 rfl rfl rfl rfl rfl rfl ?_)
        refine d_next (fun w hi => J.of_le (by first | exact Ro.le.refl _ ) (fun x hx => by simp only [List.flatten_cons, List.flatten_nil, List.append_nil, List.mem_singleton] at hx; subst hx; simp) hi) ?_
        refine d_end (by kernel_rfl) ?_
        refine n_in ?_
        refine n_then ?_
        refine region ?_
        refine op (y (x_move rfl) rfl ?_)
        refine op (y (x_add rfl rfl _ (wr (by omega) (by omega))) rfl ?_)
        refine op (y (x_assign rfl) rfl ?_)
        refine nil ?_
        first | exact round (h.es.length - (i + 1)) [(1, .slice _ txs.length cT), (2, .bool kb), (3, .pointer (some ⟨b3, 0, none⟩)), (6, .pointer (some ⟨b6, 0, none⟩)), (7, .pointer (some ⟨b7, 0, none⟩)), (8, .int .i64 ((i + 1) : Nat))] (by omega) ⟨rfl, rfl, rfl, rfl, rfl, rfl, trivial⟩ ⟨i + 1, _, _, _, _, rfl, rfl, rfl, rfl, by omega, by rw [filter_snoc hx, if_pos (by simpa using h5)]; exact hO38.snoc (enc := encEv), by rw [filter_snoc hx, if_pos (by simpa using h5), hm6]; simp⟩ | exact round (h.es.length - (i + 1)) [(1, .slice _ txs.length cT), (2, .bool kb), (3, .pointer (some ⟨b3, 0, none⟩)), (6, .pointer (some ⟨b6, 0, none⟩)), (7, .pointer (some ⟨b7, 0, none⟩)), (8, .int .i64 ((i + 1) : Nat))] (by omega) ⟨rfl, rfl, rfl, rfl, rfl, rfl, trivial⟩ ⟨i + 1, _, _, _, _, rfl, rfl, rfl, rfl, by omega, by rw [filter_snoc hx, if_neg (by simpa using h5)]; simpa using hO, by rw [filter_snoc hx, if_neg (by simpa using h5), hm6]; simp⟩
      · skip
        refine d_the rfl (.inl rfl) (e_slice1 rfl Tryd.underlying23 ti_34 rfl rfl (by decide) (by decide) rfl rfl rfl fun b37 => ?_)
        refine d_next (fun w hi => J.of_le (by first | exact Ro.le.refl _ ) (fun x hx => by simp only [List.flatten_cons, List.flatten_nil, List.append_nil, List.mem_singleton] at hx; subst hx; simp) hi) ?_
        refine d_one 1 rfl (by kernel_rfl) (.inl rfl) (y (x_load1 ag_23 rfl (by first | assumption | exact Cell.own 0 rfl rfl | exact Cell.own 1 rfl rfl | exact Cell.own 2 rfl rfl | exact Cell.own 3 rfl rfl | exact Cell.own 4 rfl rfl | exact Cell.own 5 rfl rfl | exact Cell.own 6 rfl rfl | exact Cell.own 7 rfl rfl | exact Cell.own 8 rfl rfl | exact Cell.own 9 rfl rfl | exact Cell.ofRo (by assumption))) rfl ?_)
        refine d_next (fun w hi => J.of_le (by first | exact Ro.le.refl _ ) (fun x hx => by simp only [List.flatten_cons, List.flatten_nil, List.append_nil, List.mem_singleton] at hx; subst hx; simp) hi) ?_
        refine d_one 8 rfl (by kernel_rfl) (.inl rfl) (e_append1 0 rfl st_23 rfl rfl rfl hO rfl rfl (by omega) (by omega) (fun _ => rfl) fun A38 cap38 R38 hO38 => ?_)
        refine d_next (fun w hi => J.of_le (by first | exact Ro.le.refl _ ) (fun x hx => by simp only [List.flatten_cons, List.flatten_nil, List.append_nil, List.mem_singleton] at hx; subst hx; simp) hi) ?_
        refine d_take 9 rfl (by kernel_rfl) (by kernel_rfl) (by kernel_rfl) (fun _ _ _ h => h) rfl (.inl rfl) (x_fieldAddr fo_25_1 rfl) (fun w hi => J.of_le (by first | exact Ro.le.refl _ ) (fun x hx => by simp only [List.flatten_cons, List.flatten_nil, List.append_nil, List.mem_singleton] at hx; subst hx; simp) hi) ?_
        first | refine d_one 10 rfl (by kernel_rfl) (.inl rfl) (e_store 0 rfl rfl ts_23 rfl rfl rfl rfl rfl rfl ?_) | refine d_one 10 rfl (by kernel_rfl) (.inl rfl) (e_store 1 rfl rfl ts_23 rfl rfl rfl rfl rfl rfl ?_) | refine d_one 10 rfl (by kernel_rfl) (.inl rfl) (e_store 2 rfl rfl ts_23 rfl rfl rfl rfl rfl rfl ?_) | refine d_one 10 rfl (by kernel_rfl) (.inl rfl) (e_store 3 rfl rfl ts_23 rfl rfl rfl rfl rfl rfl ?_) | refine d_one 10 rfl (by kernel_rfl) (.inl rfl) (e_store 4 rfl rfl ts_23 rfl rfl rfl rfl rfl rfl ?_) | refine d_one 10 rfl (by kernel_rfl) (.inl rfl) (e_store 5 rfl rfl ts_23 rfl rfl rfl rfl rfl rfl ?_) | refine d_one 10 rfl (by kernel_rfl) (.inl rfl) (e_store 6 rfl rfl ts_23 rfl rfl rfl rfl rfl rfl ?_) | refine d_one 10 rfl (by kernel_rfl) (.inl rfl) (e_store 7 rfl rfl ts_23 rfl rfl rfl rfl rfl rfl ?_) | refine d_one 10 rfl (by kernel_rfl) (.inl rfl) (e_store 8 rfl rfl ts_23 rfl rfl rfl rfl rfl rfl ?_) | refine d_one 10 rfl (by kernel_rfl) (.inl rfl) (e_store 9 rfl rfl ts_23 rfl rfl rfl rfl rfl rfl ?_)
        refine d_next (fun w hi => J.of_le (by first | exact Ro.le.refl _ ) (fun x hx => by simp only [List.flatten_cons, List.flatten_nil, List.append_nil, List.mem_singleton] at hx; subst hx; simp) hi) ?_
        refine d_end (by kernel_rfl) ?_
        refine n_in ?_
        refine n_then ?_
        refine region ?_
        refine op (y (x_move rfl) rfl ?_)
        refine op (y (x_add rfl rfl _ (wr (by omega) (by omega))) rfl ?_)
        refine op (y (x_assign rfl) rfl ?_)
        refine nil ?_
        first | exact round (h.es.length - (i + 1)) [(1, .slice _ txs.length cT), (2, .bool kb), (3, .pointer (some ⟨b3, 0, none⟩)), (6, .pointer (some ⟨b6, 0, none⟩)), (7, .pointer (some ⟨b7, 0, none⟩)), (8, .int .i64 ((i + 1) : Nat))] (by omega) ⟨rfl, rfl, rfl, rfl, rfl, rfl, trivial⟩ ⟨i + 1, _, _, _, _, rfl, rfl, rfl, rfl, by omega, by rw [filter_snoc hx, if_pos (by simpa using h5)]; exact hO38.snoc (enc := encEv), by rw [filter_snoc hx, if_pos (by simpa using h5), hm6]; simp⟩ | exact round (h.es.length - (i + 1)) [(1, .slice _ txs.length cT), (2, .bool kb), (3, .pointer (some ⟨b3, 0, none⟩)), (6, .pointer (some ⟨b6, 0, none⟩)), (7, .pointer (some ⟨b7, 0, none⟩)), (8, .int .i64 ((i + 1) : Nat))] (by omega) ⟨rfl, rfl, rfl, rfl, rfl, rfl, trivial⟩ ⟨i + 1, _, _, _, _, rfl, rfl, rfl, rfl, by omega, by rw [filter_snoc hx, if_neg (by simpa using h5)]; simpa using hO, by rw [filter_snoc hx, if_neg (by simpa using h5), hm6]; simp⟩
    · try simp only [decide_eq_true_eq, decide_eq_false_iff_not, beq_iff_eq, bne_iff_ne, ne_eq, beq_eq_false_iff_ne, bne_eq_false_iff_eq, Bool.not_eq_true', Bool.not_eq_false', Bool.not_eq_true, Bool.not_eq_false, Decidable.not_not, Int.not_lt, Int.not_le] at h5
      refine skip ?_
      refine n_in ?_
      refine n_then ?_
      refine region ?_
      refine op (y (x_move rfl) rfl ?_)
      refine op (y (x_add rfl rfl _ (wr (by omega) (by omega))) rfl ?_)
      refine op (y (x_assign rfl) rfl ?_)
      refine nil ?_
      first | exact round (h.es.length - (i + 1)) [(1, .slice _ txs.length cT), (2, .bool kb), (3, .pointer (some ⟨b3, 0, none⟩)), (6, .pointer (some ⟨b6, 0, none⟩)), (7, .pointer (some ⟨b7, 0, none⟩)), (8, .int .i64 ((i + 1) : Nat))] (by omega) ⟨rfl, rfl, rfl, rfl, rfl, rfl, trivial⟩ ⟨i + 1, _, _, _, _, rfl, rfl, rfl, rfl, by omega, by rw [filter_snoc hx, if_pos (by simpa using h5)]; exact hO38.snoc (enc := encEv), by rw [filter_snoc hx, if_pos (by simpa using h5), hm6]; simp⟩ | exact round (h.es.length - (i + 1)) [(1, .slice _ txs.length cT), (2, .bool kb), (3, .pointer (some ⟨b3, 0, none⟩)), (6, .pointer (some ⟨b6, 0, none⟩)), (7, .pointer (some ⟨b7, 0, none⟩)), (8, .int .i64 ((i + 1) : Nat))] (by omega) ⟨rfl, rfl, rfl, rfl, rfl, rfl, trivial⟩ ⟨i + 1, _, _, _, _, rfl, rfl, rfl, rfl, by omega, by rw [filter_snoc hx, if_neg (by simpa using h5)]; simpa using hO, by rw [filter_snoc hx, if_neg (by simpa using h5), hm6]; simp⟩
  · try simp only [decide_eq_true_eq, decide_eq_false_iff_not, beq_iff_eq, bne_iff_ne, ne_eq, beq_eq_false_iff_ne, bne_eq_false_iff_eq, Bool.not_eq_true', Bool.not_eq_false', Bool.not_eq_true, Bool.not_eq_false, Decidable.not_not, Int.not_lt, Int.not_le] at h3
    refine exit ?_
    refine e_then ?_
    refine e_then ?_
    refine e_in ?_
    refine n_then ?_
    refine seq ?_
    obtain rfl : i = h.es.length := by omega
    rw [List.take_length] at hO hm6
    subst hm6
    refine ufreeze fun ro9 hle9 hR9 => ?_
    have hS9 := hO.sl enc_ev hR9
    refine region ?_
    refine op (y ((by first | exact x_loadOwn 0 _ ag_25 rfl rfl rfl rfl | exact x_loadOwn 1 _ ag_25 rfl rfl rfl rfl | exact x_loadOwn 2 _ ag_25 rfl rfl rfl rfl | exact x_loadOwn 3 _ ag_25 rfl rfl rfl rfl | exact x_loadOwn 4 _ ag_25 rfl rfl rfl rfl | exact x_loadOwn 5 _ ag_25 rfl rfl rfl rfl | exact x_loadOwn 6 _ ag_25 rfl rfl rfl rfl | exact x_loadOwn 7 _ ag_25 rfl rfl rfl rfl | exact x_loadOwn 8 _ ag_25 rfl rfl rfl rfl | exact x_loadOwn 9 _ ag_25 rfl rfl rfl rfl | exact x_loadOwn 10 _ ag_25 rfl rfl rfl rfl | exact x_loadOwn 11 _ ag_25 rfl rfl rfl rfl)) rfl ?_)
    first | refine op (e_store 0 rfl rfl ts_25 rfl rfl rfl rfl rfl rfl ?_) | refine op (e_store 1 rfl rfl ts_25 rfl rfl rfl rfl rfl rfl ?_) | refine op (e_store 2 rfl rfl ts_25 rfl rfl rfl rfl rfl rfl ?_) | refine op (e_store 3 rfl rfl ts_25 rfl rfl rfl rfl rfl rfl ?_) | refine op (e_store 4 rfl rfl ts_25 rfl rfl rfl rfl rfl rfl ?_) | refine op (e_store 5 rfl rfl ts_25 rfl rfl rfl rfl rfl rfl ?_) | refine op (e_store 6 rfl rfl ts_25 rfl rfl rfl rfl rfl rfl ?_) | refine op (e_store 7 rfl rfl ts_25 rfl rfl rfl rfl rfl rfl ?_) | refine op (e_store 8 rfl rfl ts_25 rfl rfl rfl rfl rfl rfl ?_) | refine op (e_store 9 rfl rfl ts_25 rfl rfl rfl rfl rfl rfl ?_)
    refine nil ?_
    refine n_then ?_
    refine ret ?_
    exact done rfl (Res.cellN ag_25 rfl rfl (CellsAt.own 1 0 2 _ rfl rfl) (.nil)) (hle11.trans hle9) (L) (subF (by (repeat (first | exact List.Sublist.refl _ | apply List.Sublist.cons_cons | apply List.Sublist.cons)); done)) (⟨A5, c5, A6, c6, rfl, ⟨hS5.mono hle9, hS9⟩, rfl⟩)

theorem WithoutR_c (h : Hi) (A : Option Addr) (cA : Nat) (B : Option Addr) (cB : Nat) (ro : Ro) (L : List (List Blk)) (hh : SH ro A cA B cB h) (tx : Int) (hn1 : h.os.length ≤ 100) (hn2 : h.es.length ≤ 600) :
    CT Tryd.prog 16 [.agg [.slice A h.os.length cA, .slice B h.es.length cB].toArray, .int .i64 tx].toArray ro L (PH (woT h tx) L) := by
  refine enter Tryd.func16 rfl Tryd.ntmps16 rfl ?_
  refine seq ?_
  refine region ?_
  refine op (e_box rfl rfl rfl fun b2 => ?_)
  refine op (e_alloc rfl zc_25 rfl fun b4 => ?_)
  refine nil ?_
  refine n_then ?_
  refine seq ?_
  refine region ?_
  refine op (y ((by first | exact x_loadOwn 0 _ ag_25 rfl rfl rfl rfl | exact x_loadOwn 1 _ ag_25 rfl rfl rfl rfl | exact x_loadOwn 2 _ ag_25 rfl rfl rfl rfl | exact x_loadOwn 3 _ ag_25 rfl rfl rfl rfl | exact x_loadOwn 4 _ ag_25 rfl rfl rfl rfl | exact x_loadOwn 5 _ ag_25 rfl rfl rfl rfl | exact x_loadOwn 6 _ ag_25 rfl rfl rfl rfl | exact x_loadOwn 7 _ ag_25 rfl rfl rfl rfl | exact x_loadOwn 8 _ ag_25 rfl rfl rfl rfl | exact x_loadOwn 9 _ ag_25 rfl rfl rfl rfl | exact x_loadOwn 10 _ ag_25 rfl rfl rfl rfl | exact x_loadOwn 11 _ ag_25 rfl rfl rfl rfl)) rfl ?_)
  refine op (y (x_move rfl) rfl ?_)
  refine op (e_slice1 rfl Tryd.underlying26 ti_3 rfl rfl (by decide) (by decide) rfl rfl rfl fun b7 => ?_)
  refine ufreeze fun ro7 hle7 hR7 => ?_
  have hS7 : Sl ro7 1 encInt (some ⟨b7, 0, none⟩) 1 [tx] := OwnS.sl (e := 3) (k := 1) (l := [tx]) (enc := encInt) (OwnS.one (e := 3) (b := b7) (v := .int .i64 tx)) (fun _ _ => rfl) hR7
  refine op (e_call rfl fn_19 rfl rfl (Keep_c h A cA B cB _ _ (hh.mono hle7) [tx] (some ⟨b7, 0, none⟩) 1 hS7 false hn1 hn2) fun v8 ro8 L8 hle8 hp8 => ?_)
  rw [keepT_one] at hp8
  obtain ⟨A5, c5, A6, c6, rfl, hS8, rfl⟩ := hp8
  first | refine op (e_store 0 rfl rfl ts_25 rfl rfl rfl rfl rfl rfl ?_) | refine op (e_store 1 rfl rfl ts_25 rfl rfl rfl rfl rfl rfl ?_) | refine op (e_store 2 rfl rfl ts_25 rfl rfl rfl rfl rfl rfl ?_) | refine op (e_store 3 rfl rfl ts_25 rfl rfl rfl rfl rfl rfl ?_) | refine op (e_store 4 rfl rfl ts_25 rfl rfl rfl rfl rfl rfl ?_) | refine op (e_store 5 rfl rfl ts_25 rfl rfl rfl rfl rfl rfl ?_) | refine op (e_store 6 rfl rfl ts_25 rfl rfl rfl rfl rfl rfl ?_) | refine op (e_store 7 rfl rfl ts_25 rfl rfl rfl rfl rfl rfl ?_) | refine op (e_store 8 rfl rfl ts_25 rfl rfl rfl rfl rfl rfl ?_) | refine op (e_store 9 rfl rfl ts_25 rfl rfl rfl rfl rfl rfl ?_)
  refine nil ?_
  refine n_then ?_
  refine ret ?_
  exact done rfl (Res.cellN ag_25 rfl rfl (CellsAt.own 0 0 2 _ rfl rfl) (.nil)) (hle7.trans hle8) (L) (subF (by (repeat (first | exact List.Sublist.refl _ | apply List.Sublist.cons_cons | apply List.Sublist.cons)); done)) (⟨A5, c5, A6, c6, rfl, hS8, rfl⟩)

theorem History_c (h : Hi) (A : Option Addr) (cA : Nat) (B : Option Addr) (cB : Nat) (ro : Ro) (L : List (List Blk)) (hh : SH ro A cA B cB h) (hn1 : h.os.length ≤ 100) (hn2 : h.es.length ≤ 600) :
    CT Tryd.prog 27 [.agg [.slice A h.os.length cA, .slice B h.es.length cB].toArray].toArray ro L (PH h L) := by
  refine enter Tryd.func27 rfl Tryd.ntmps27 rfl ?_
  refine seq ?_
  refine region ?_
  refine op (e_box rfl rfl rfl fun b1 => ?_)
  refine op (e_alloc rfl zc_25 rfl fun b2 => ?_)
  refine nil ?_
  refine n_then ?_
  refine seq ?_
  refine draw (List.flatten [[(b1, Obj.cells [Value.slice A h.os.length cA, Value.slice B h.es.length cB].toArray 25 (0, 0))]]) (by kernel_rfl) ?_
  refine d_take 0 rfl (by kernel_rfl) (by kernel_rfl) (by kernel_rfl) (fun _ _ _ h => h) rfl (.inl rfl) (x_fieldAddr fo_25_0 rfl) (fun w hi => J.of_le (by first | exact Ro.le.refl _ | exact hle5 | exact hle5.trans hle8) (fun x hx => by simp only [List.flatten_cons, List.flatten_nil, List.append_nil, List.mem_singleton] at hx; subst hx; simp) hi) ?_
  refine d_take 1 rfl (by kernel_rfl) (by kernel_rfl) (by kernel_rfl) (fun _ _ _ h => h) rfl (.inl rfl) (x_load1 ag_22 rfl (by first | assumption | exact Cell.own 0 rfl rfl | exact Cell.own 1 rfl rfl | exact Cell.own 2 rfl rfl | exact Cell.own 3 rfl rfl | exact Cell.own 4 rfl rfl | exact Cell.own 5 rfl rfl | exact Cell.own 6 rfl rfl | exact Cell.own 7 rfl rfl | exact Cell.own 8 rfl rfl | exact Cell.own 9 rfl rfl | exact Cell.ofRo (by assumption))) (fun w hi => J.of_le (by first | exact Ro.le.refl _ | exact hle5 | exact hle5.trans hle8) (fun x hx => by simp only [List.flatten_cons, List.flatten_nil, List.append_nil, List.mem_singleton] at hx; subst hx; simp) hi) ?_
  refine d_take 3 rfl (by kernel_rfl) (by kernel_rfl) (by kernel_rfl) (fun _ _ _ h => h) rfl (.inl rfl) (x_fieldAddr fo_25_1 rfl) (fun w hi => J.of_le (by first | exact Ro.le.refl _ | exact hle5 | exact hle5.trans hle8) (fun x hx => by simp only [List.flatten_cons, List.flatten_nil, List.append_nil, List.mem_singleton] at hx; subst hx; simp) hi) ?_
  refine d_take 4 rfl (by kernel_rfl) (by kernel_rfl) (by kernel_rfl) (fun _ _ _ h => h) rfl (.inl rfl) (x_load1 ag_23 rfl (by first | assumption | exact Cell.own 0 rfl rfl | exact Cell.own 1 rfl rfl | exact Cell.own 2 rfl rfl | exact Cell.own 3 rfl rfl | exact Cell.own 4 rfl rfl | exact Cell.own 5 rfl rfl | exact Cell.own 6 rfl rfl | exact Cell.own 7 rfl rfl | exact Cell.own 8 rfl rfl | exact Cell.own 9 rfl rfl | exact Cell.ofRo (by assumption))) (fun w hi => J.of_le (by first | exact Ro.le.refl _ | exact hle5 | exact hle5.trans hle8) (fun x hx => by simp only [List.flatten_cons, List.flatten_nil, List.append_nil, List.mem_singleton] at hx; subst hx; simp) hi) ?_
  refine d_one 2 rfl (by kernel_rfl) (.inl rfl) (e_call rfl fn_10 rfl rfl (PO.frozen enc_ob (Objects_o h.os A cA _ _ hh.o (by omega))) fun v5 ro5 L5 hle5 hp5 => ?_)
  obtain ⟨A5, c5, rfl, hS5, rfl⟩ := hp5
  refine d_next (fun w hi => J.of_le (by first | exact Ro.le.refl _ | exact hle5 | exact hle5.trans hle8) (fun x hx => by simp only [List.flatten_cons, List.flatten_nil, List.append_nil, List.mem_singleton] at hx; subst hx; simp) hi) ?_
  refine d_one 5 rfl (by kernel_rfl) (.inl rfl) (e_call rfl fn_11 rfl rfl (PO.frozen enc_ev (Events_o h.es B cB _ _ (hh.e.mono hle5) (by omega))) fun v8 ro8 L8 hle8 hp8 => ?_)
  obtain ⟨A6, c6, rfl, hS6, rfl⟩ := hp8
  refine d_next (fun w hi => J.of_le (by first | exact Ro.le.refl _ | exact hle5 | exact hle5.trans hle8) (fun x hx => by simp only [List.flatten_cons, List.flatten_nil, List.append_nil, List.mem_singleton] at hx; subst hx; simp) hi) ?_
  refine d_take 6 rfl (by kernel_rfl) (by kernel_rfl) (by kernel_rfl) (fun _ _ _ h => h) rfl (.inl rfl) (x_build bu_25 rfl rfl) (fun w hi => J.of_le (by first | exact Ro.le.refl _ | exact hle5 | exact hle5.trans hle8) (fun x hx => by simp only [List.flatten_cons, List.flatten_nil, List.append_nil, List.mem_singleton] at hx; subst hx; simp) hi) ?_
  first | refine d_one 7 rfl (by kernel_rfl) (.inl rfl) (e_store 0 rfl rfl ts_25 rfl rfl rfl rfl rfl rfl ?_) | refine d_one 7 rfl (by kernel_rfl) (.inl rfl) (e_store 1 rfl rfl ts_25 rfl rfl rfl rfl rfl rfl ?_) | refine d_one 7 rfl (by kernel_rfl) (.inl rfl) (e_store 2 rfl rfl ts_25 rfl rfl rfl rfl rfl rfl ?_) | refine d_one 7 rfl (by kernel_rfl) (.inl rfl) (e_store 3 rfl rfl ts_25 rfl rfl rfl rfl rfl rfl ?_) | refine d_one 7 rfl (by kernel_rfl) (.inl rfl) (e_store 4 rfl rfl ts_25 rfl rfl rfl rfl rfl rfl ?_) | refine d_one 7 rfl (by kernel_rfl) (.inl rfl) (e_store 5 rfl rfl ts_25 rfl rfl rfl rfl rfl rfl ?_) | refine d_one 7 rfl (by kernel_rfl) (.inl rfl) (e_store 6 rfl rfl ts_25 rfl rfl rfl rfl rfl rfl ?_) | refine d_one 7 rfl (by kernel_rfl) (.inl rfl) (e_store 7 rfl rfl ts_25 rfl rfl rfl rfl rfl rfl ?_) | refine d_one 7 rfl (by kernel_rfl) (.inl rfl) (e_store 8 rfl rfl ts_25 rfl rfl rfl rfl rfl rfl ?_) | refine d_one 7 rfl (by kernel_rfl) (.inl rfl) (e_store 9 rfl rfl ts_25 rfl rfl rfl rfl rfl rfl ?_)
  refine d_next (fun w hi => J.of_le (by first | exact Ro.le.refl _ | exact hle5 | exact hle5.trans hle8) (fun x hx => by simp only [List.flatten_cons, List.flatten_nil, List.append_nil, List.mem_singleton] at hx; subst hx; simp) hi) ?_
  refine d_end (by kernel_rfl) ?_
  refine n_then ?_
  refine ret ?_
  exact done rfl (Res.cellN ag_25 rfl rfl (CellsAt.own 0 0 2 _ rfl rfl) (.nil)) (hle5.trans hle8) (L) (subF (by (repeat (first | exact List.Sublist.refl _ | apply List.Sublist.cons_cons | apply List.Sublist.cons)); done)) (⟨A5, c5, A6, c6, rfl, ⟨hS5.mono hle8, hS6⟩, rfl⟩)

end Go.Proofs.YtijafcilfefafaaDoor
