/- The walks of the functions that tell the fields of calls and of answers. -/
import Derived.Test.YtijafcilfefafaaDoorV7
namespace Go.Proofs.YtijafcilfefafaaDoor
open Go Go.U
set_option maxRecDepth 20000
set_option linter.unusedSimpArgs false
set_option linter.unusedVariables false

theorem flds2 {e : Ev} (hk : e.kind = 2) : flds e = [1, 3, 4] ++ (if keyed e.op = true then [5] else []) ++ (if valued e.op = true then [6] else []) := by simp [flds, hk]
theorem flds3 {e : Ev} (hk : e.kind = 3) : flds e = [1, 7] ++ (if e.ret = 3 then [6] else []) := by simp [flds, hk]
theorem nextV_form (l : List Nat) (i : Nat) : ∃ (c0 : Value) (x y z : Int) (b : Bool), nextV l i = .tuple [.agg [c0, .int .i64 x, .int .i64 y, .int .i64 z].toArray, .bool b].toArray ∧ okAll [c0, .int .i64 x, .int .i64 y, .int .i64 z] = true := by
  unfold nextV
  cases l[i]? with
  | none => exact ⟨_, _, _, _, _, rfl, rfl⟩
  | some j => exact ⟨_, _, _, _, _, rfl, rfl⟩

theorem fields2_c (e : Ev) (i : Nat) (hi : i ≤ 1000) (bl : Nat) (ro : Ro) (L : List (List Blk)) (hbl : ro.cell bl 0 = some (.func (.func 72) #[] #[])) (hk : e.kind = 2) :
    CT Tryd.prog 76 [.agg (encEv e).toArray, .int .i64 (i : Nat), .pointer (some ⟨bl, 0, none⟩)].toArray ro L (PV (nextV (flds e) i) L) := by
  refine enter Tryd.func76 rfl Tryd.ntmps76 rfl ?_
  refine seq ?_
  refine region ?_
  refine op (e_box rfl rfl rfl fun b3 => ?_)
  refine op (e_alloc rfl zc_106 rfl fun b5 => ?_)
  refine op (y (x_assign rfl) rfl ?_)
  refine nil ?_
  refine n_then ?_
  refine seq ?_
  refine region ?_
  refine op (e_call rfl fn_74 rfl rfl (txF_c _ _) fun v8 ro8 L8 hle8 hp8 => ?_)
  obtain ⟨rfl, rfl, rfl⟩ := hp8
  refine op (e_call rfl fn_77 rfl rfl (objF_c _ _) fun v9 ro9 L9 hle9 hp9 => ?_)
  obtain ⟨rfl, rfl, rfl⟩ := hp9
  refine op (e_call rfl fn_78 rfl rfl (opF_c _ _) fun v10 ro10 L10 hle10 hp10 => ?_)
  obtain ⟨rfl, rfl, rfl⟩ := hp10
  refine op (e_sliceN (zs := [.nilFunc, .int .i64 0, .int .i64 0, .int .i64 0, .nilFunc, .int .i64 0, .int .i64 0, .int .i64 0, .nilFunc, .int .i64 0, .int .i64 0, .int .i64 0]) rfl Tryd.underlying116 ti_106 tz_106 rfl (by decide) (by decide) (by kernel_rfl) rfl rfl fun b11 => ?_)
  refine op (y (x_assign rfl) rfl ?_)
  refine nil ?_
  refine n_then ?_
  refine seq ?_
  refine seq ?_
  have hO11 : OwnS 106 4 (some ⟨b11, 0, none⟩) 3 3 (fldV 1 ++ fldV 3 ++ fldV 4) [(b11, Obj.cells (fldV 1 ++ fldV 3 ++ fldV 4).toArray 106 (0, 0))] := OwnS.lit rfl (by simp [maxLen])
  refine region ?_
  refine op (y (x_fieldAddr fo_34_4 rfl) rfl ?_)
  refine op (y (x_load1 ag_3 rfl (by first | assumption | exact Cell.own 0 rfl rfl | exact Cell.own 1 rfl rfl | exact Cell.own 2 rfl rfl | exact Cell.own 3 rfl rfl | exact Cell.own 4 rfl rfl | exact Cell.own 5 rfl rfl | exact Cell.own 6 rfl rfl | exact Cell.own 7 rfl rfl | exact Cell.own 8 rfl rfl | exact Cell.own 9 rfl rfl | exact Cell.ofRo (by assumption))) rfl ?_)
  refine op (e_call rfl fn_79 rfl rfl (Keyed_c e.op _ _) fun v14 ro14 L14 hle14 hp14 => ?_)
  obtain ⟨rfl, rfl, rfl⟩ := hp14
  refine nil ?_
  refine n_then ?_
  refine cond rfl (fun h2 => ?_) (fun h2 => ?_)
  · try simp only [decide_eq_true_eq, decide_eq_false_iff_not, beq_iff_eq, bne_iff_ne, ne_eq, beq_eq_false_iff_ne, bne_eq_false_iff_eq, Bool.not_eq_true', Bool.not_eq_false', Bool.not_eq_true, Bool.not_eq_false, Decidable.not_not, Int.not_lt, Int.not_le] at h2
    refine region ?_
    refine op (y (x_move rfl) rfl ?_)
    refine op (e_call rfl fn_80 rfl rfl (keyF_c _ _) fun v16 ro16 L16 hle16 hp16 => ?_)
    obtain ⟨rfl, rfl, rfl⟩ := hp16
    refine op (e_slice1 rfl Tryd.underlying116 ti_106 rfl rfl (by decide) (by decide) rfl rfl rfl fun b17 => ?_)
    refine op (e_append1 0 rfl st_116 rfl rfl rfl hO11 rfl rfl (by omega) (by omega) (fun _ => rfl) fun A18 cap18 R18 hO18 => ?_)
    refine op (y (x_assign rfl) rfl ?_)
    refine nil ?_
    refine n_then ?_
    refine seq ?_
    refine seq ?_
    refine region ?_
    refine op (y (x_fieldAddr fo_34_4 rfl) rfl ?_)
    refine op (y (x_load1 ag_3 rfl (by first | assumption | exact Cell.own 0 rfl rfl | exact Cell.own 1 rfl rfl | exact Cell.own 2 rfl rfl | exact Cell.own 3 rfl rfl | exact Cell.own 4 rfl rfl | exact Cell.own 5 rfl rfl | exact Cell.own 6 rfl rfl | exact Cell.own 7 rfl rfl | exact Cell.own 8 rfl rfl | exact Cell.own 9 rfl rfl | exact Cell.ofRo (by assumption))) rfl ?_)
    refine op (e_call rfl fn_81 rfl rfl (Valued_c e.op _ _) fun v21 ro21 L21 hle21 hp21 => ?_)
    obtain ⟨rfl, rfl, rfl⟩ := hp21
    refine nil ?_
    refine n_then ?_
    refine cond rfl (fun h4 => ?_) (fun h4 => ?_)
    · try simp only [decide_eq_true_eq, decide_eq_false_iff_not, beq_iff_eq, bne_iff_ne, ne_eq, beq_eq_false_iff_ne, bne_eq_false_iff_eq, Bool.not_eq_true', Bool.not_eq_false', Bool.not_eq_true, Bool.not_eq_false, Decidable.not_not, Int.not_lt, Int.not_le] at h4
      refine region ?_
      refine op (y (x_move rfl) rfl ?_)
      refine op (e_call rfl fn_82 rfl rfl (valF_c _ _) fun v23 ro23 L23 hle23 hp23 => ?_)
      obtain ⟨rfl, rfl, rfl⟩ := hp23
      refine op (e_slice1 rfl Tryd.underlying116 ti_106 rfl rfl (by decide) (by decide) rfl rfl rfl fun b24 => ?_)
      refine op (e_append1 0 rfl st_116 rfl rfl rfl hO18 rfl rfl (by omega) (by omega) (fun _ => rfl) fun A25 cap25 R25 hO25 => ?_)
      refine op (y (x_assign rfl) rfl ?_)
      refine nil ?_
      refine n_then ?_
      refine seq ?_
      have hc := hO25.cast (m' := (flds e).length) (ys := (flds e).flatMap fldV) (by rw [flds2 hk, h2, h4]; rfl) (by rw [flds2 hk, h2, h4]; rfl)
      refine said 7 (.slice _ (flds e).length _) rfl (by rw [flds2 hk, h2, h4]; rfl) ?_
      refine ufreeze fun ro6 hle6 hR6 => ?_
      have hS6 := hc.sl enc_fld hR6
      refine draw (List.flatten [[(b3, Obj.cells (encEv e).toArray 34 (0, 0))]]) (by kernel_rfl) ?_
      refine d_take 0 rfl (by kernel_rfl) (by kernel_rfl) (by kernel_rfl) (fun _ _ _ h => h) rfl (.inl rfl) (x_load1 ag_117 rfl (Cell.ofRo (hle6.cell hbl))) (fun w hi => J.of_le (by first | exact Ro.le.refl _ | exact hle28 | exact (hle28).trans hle31) (fun x hx => by simp only [List.flatten_cons, List.flatten_nil, List.append_nil, List.mem_singleton] at hx; subst hx; simp) hi) ?_
      refine d_take 1 rfl (by kernel_rfl) (by kernel_rfl) (by kernel_rfl) (fun _ _ _ h => h) rfl (.inl rfl) (x_move rfl) (fun w hi => J.of_le (by first | exact Ro.le.refl _ | exact hle28 | exact (hle28).trans hle31) (fun x hx => by simp only [List.flatten_cons, List.flatten_nil, List.append_nil, List.mem_singleton] at hx; subst hx; simp) hi) ?_
      refine d_take 3 rfl (by kernel_rfl) (by kernel_rfl) (by kernel_rfl) (fun _ _ _ h => h) rfl (.inl rfl) ((by first | exact x_loadOwn 0 _ ag_34 rfl rfl rfl rfl | exact x_loadOwn 1 _ ag_34 rfl rfl rfl rfl | exact x_loadOwn 2 _ ag_34 rfl rfl rfl rfl | exact x_loadOwn 3 _ ag_34 rfl rfl rfl rfl | exact x_loadOwn 4 _ ag_34 rfl rfl rfl rfl | exact x_loadOwn 5 _ ag_34 rfl rfl rfl rfl | exact x_loadOwn 6 _ ag_34 rfl rfl rfl rfl | exact x_loadOwn 7 _ ag_34 rfl rfl rfl rfl | exact x_loadOwn 8 _ ag_34 rfl rfl rfl rfl | exact x_loadOwn 9 _ ag_34 rfl rfl rfl rfl | exact x_loadOwn 10 _ ag_34 rfl rfl rfl rfl | exact x_loadOwn 11 _ ag_34 rfl rfl rfl rfl)) (fun w hi => J.of_le (by first | exact Ro.le.refl _ | exact hle28 | exact (hle28).trans hle31) (fun x hx => by simp only [List.flatten_cons, List.flatten_nil, List.append_nil, List.mem_singleton] at hx; subst hx; simp) hi) ?_
      refine d_take 4 rfl (by kernel_rfl) (by kernel_rfl) (by kernel_rfl) (fun _ _ _ h => h) rfl (.inl rfl) (x_move rfl) (fun w hi => J.of_le (by first | exact Ro.le.refl _ | exact hle28 | exact (hle28).trans hle31) (fun x hx => by simp only [List.flatten_cons, List.flatten_nil, List.append_nil, List.mem_singleton] at hx; subst hx; simp) hi) ?_
      refine d_one 2 rfl (by kernel_rfl) (.inl rfl) (e_call rfl (fn_72) rfl rfl (list_c (flds e) _ _ _ _ hS6) fun v28 ro28 L28 hle28 hp28 => ?_)
      obtain ⟨bc, rfl, hS7, hbc, rfl⟩ := hp28
      refine d_next (fun w hi => J.of_le (by first | exact Ro.le.refl _ | exact hle28 | exact (hle28).trans hle31) (fun x hx => by simp only [List.flatten_cons, List.flatten_nil, List.append_nil, List.mem_singleton] at hx; subst hx; simp) hi) ?_
      refine d_one 5 rfl (by kernel_rfl) (.inl rfl) (e_call rfl (fn_73) rfl rfl (next_c e i hi (flds e) _ _ bc _ _ hS7 hbc) fun v31 ro31 L31 hle31 hp31 => ?_)
      obtain ⟨hv9, rfl, rfl⟩ := hp31
      obtain ⟨c0, fx, fy, fz, fb, hnf, hok⟩ := nextV_form (flds e) i
      rw [hnf] at hv9
      subst hv9
      refine d_next (fun w hi => J.of_le (by first | exact Ro.le.refl _ | exact hle28 | exact (hle28).trans hle31) (fun x hx => by simp only [List.flatten_cons, List.flatten_nil, List.append_nil, List.mem_singleton] at hx; subst hx; simp) hi) ?_
      refine d_take 6 rfl (by kernel_rfl) (by kernel_rfl) (by kernel_rfl) (fun _ _ _ h => h) rfl (.inl rfl) (x_extract rfl rfl) (fun w hi => J.of_le (by first | exact Ro.le.refl _ | exact hle28 | exact (hle28).trans hle31) (fun x hx => by simp only [List.flatten_cons, List.flatten_nil, List.append_nil, List.mem_singleton] at hx; subst hx; simp) hi) ?_
      refine d_take 7 rfl (by kernel_rfl) (by kernel_rfl) (by kernel_rfl) (fun _ _ _ h => h) rfl (.inl rfl) (x_extract rfl rfl) (fun w hi => J.of_le (by first | exact Ro.le.refl _ | exact hle28 | exact (hle28).trans hle31) (fun x hx => by simp only [List.flatten_cons, List.flatten_nil, List.append_nil, List.mem_singleton] at hx; subst hx; simp) hi) ?_
      refine d_one 8 rfl (by kernel_rfl) (.inl rfl) (e_store 0 rfl rfl ts_106 rfl rfl hok rfl rfl rfl ?_)
      refine d_next (fun w hi => J.of_le (by first | exact Ro.le.refl _ | exact hle28 | exact (hle28).trans hle31) (fun x hx => by simp only [List.flatten_cons, List.flatten_nil, List.append_nil, List.mem_singleton] at hx; subst hx; simp) hi) ?_
      refine d_take 9 rfl (by kernel_rfl) (by kernel_rfl) (by kernel_rfl) (fun _ _ _ h => h) rfl (.inl rfl) (x_assign rfl) (fun w hi => J.of_le (by first | exact Ro.le.refl _ | exact hle28 | exact (hle28).trans hle31) (fun x hx => by simp only [List.flatten_cons, List.flatten_nil, List.append_nil, List.mem_singleton] at hx; subst hx; simp) hi) ?_
      refine d_end (by kernel_rfl) ?_
      refine n_then ?_
      refine ret ?_
      exact done rfl (Res.cellN ag_106 rfl rfl (CellsAt.own 0 0 4 _ rfl rfl) (.tmp rfl (.nil))) (hle6.trans (hle28.trans hle31)) (L) (subF (by (repeat (first | exact List.Sublist.refl _ | apply List.Sublist.cons_cons | apply List.Sublist.cons)); done)) (⟨hnf.symm, rfl⟩)
    · try simp only [decide_eq_true_eq, decide_eq_false_iff_not, beq_iff_eq, bne_iff_ne, ne_eq, beq_eq_false_iff_ne, bne_eq_false_iff_eq, Bool.not_eq_true', Bool.not_eq_false', Bool.not_eq_true, Bool.not_eq_false, Decidable.not_not, Int.not_lt, Int.not_le] at h4
      have hO25 := hO18
      refine skip ?_
      refine n_then ?_
      refine seq ?_
      have hc := hO25.cast (m' := (flds e).length) (ys := (flds e).flatMap fldV) (by rw [flds2 hk, h2, h4]; rfl) (by rw [flds2 hk, h2, h4]; rfl)
      refine said 7 (.slice _ (flds e).length _) rfl (by rw [flds2 hk, h2, h4]; rfl) ?_
      refine ufreeze fun ro6 hle6 hR6 => ?_
      have hS6 := hc.sl enc_fld hR6
      refine draw (List.flatten [[(b3, Obj.cells (encEv e).toArray 34 (0, 0))]]) (by kernel_rfl) ?_
      refine d_take 0 rfl (by kernel_rfl) (by kernel_rfl) (by kernel_rfl) (fun _ _ _ h => h) rfl (.inl rfl) (x_load1 ag_117 rfl (Cell.ofRo (hle6.cell hbl))) (fun w hi => J.of_le (by first | exact Ro.le.refl _ | exact hle28 | exact (hle28).trans hle31) (fun x hx => by simp only [List.flatten_cons, List.flatten_nil, List.append_nil, List.mem_singleton] at hx; subst hx; simp) hi) ?_
      refine d_take 1 rfl (by kernel_rfl) (by kernel_rfl) (by kernel_rfl) (fun _ _ _ h => h) rfl (.inl rfl) (x_move rfl) (fun w hi => J.of_le (by first | exact Ro.le.refl _ | exact hle28 | exact (hle28).trans hle31) (fun x hx => by simp only [List.flatten_cons, List.flatten_nil, List.append_nil, List.mem_singleton] at hx; subst hx; simp) hi) ?_
      refine d_take 3 rfl (by kernel_rfl) (by kernel_rfl) (by kernel_rfl) (fun _ _ _ h => h) rfl (.inl rfl) ((by first | exact x_loadOwn 0 _ ag_34 rfl rfl rfl rfl | exact x_loadOwn 1 _ ag_34 rfl rfl rfl rfl | exact x_loadOwn 2 _ ag_34 rfl rfl rfl rfl | exact x_loadOwn 3 _ ag_34 rfl rfl rfl rfl | exact x_loadOwn 4 _ ag_34 rfl rfl rfl rfl | exact x_loadOwn 5 _ ag_34 rfl rfl rfl rfl | exact x_loadOwn 6 _ ag_34 rfl rfl rfl rfl | exact x_loadOwn 7 _ ag_34 rfl rfl rfl rfl | exact x_loadOwn 8 _ ag_34 rfl rfl rfl rfl | exact x_loadOwn 9 _ ag_34 rfl rfl rfl rfl | exact x_loadOwn 10 _ ag_34 rfl rfl rfl rfl | exact x_loadOwn 11 _ ag_34 rfl rfl rfl rfl)) (fun w hi => J.of_le (by first | exact Ro.le.refl _ | exact hle28 | exact (hle28).trans hle31) (fun x hx => by simp only [List.flatten_cons, List.flatten_nil, List.append_nil, List.mem_singleton] at hx; subst hx; simp) hi) ?_
      refine d_take 4 rfl (by kernel_rfl) (by kernel_rfl) (by kernel_rfl) (fun _ _ _ h => h) rfl (.inl rfl) (x_move rfl) (fun w hi => J.of_le (by first | exact Ro.le.refl _ | exact hle28 | exact (hle28).trans hle31) (fun x hx => by simp only [List.flatten_cons, List.flatten_nil, List.append_nil, List.mem_singleton] at hx; subst hx; simp) hi) ?_
      refine d_one 2 rfl (by kernel_rfl) (.inl rfl) (e_call rfl (fn_72) rfl rfl (list_c (flds e) _ _ _ _ hS6) fun v28 ro28 L28 hle28 hp28 => ?_)
      obtain ⟨bc, rfl, hS7, hbc, rfl⟩ := hp28
      refine d_next (fun w hi => J.of_le (by first | exact Ro.le.refl _ | exact hle28 | exact (hle28).trans hle31) (fun x hx => by simp only [List.flatten_cons, List.flatten_nil, List.append_nil, List.mem_singleton] at hx; subst hx; simp) hi) ?_
      refine d_one 5 rfl (by kernel_rfl) (.inl rfl) (e_call rfl (fn_73) rfl rfl (next_c e i hi (flds e) _ _ bc _ _ hS7 hbc) fun v31 ro31 L31 hle31 hp31 => ?_)
      obtain ⟨hv9, rfl, rfl⟩ := hp31
      obtain ⟨c0, fx, fy, fz, fb, hnf, hok⟩ := nextV_form (flds e) i
      rw [hnf] at hv9
      subst hv9
      refine d_next (fun w hi => J.of_le (by first | exact Ro.le.refl _ | exact hle28 | exact (hle28).trans hle31) (fun x hx => by simp only [List.flatten_cons, List.flatten_nil, List.append_nil, List.mem_singleton] at hx; subst hx; simp) hi) ?_
      refine d_take 6 rfl (by kernel_rfl) (by kernel_rfl) (by kernel_rfl) (fun _ _ _ h => h) rfl (.inl rfl) (x_extract rfl rfl) (fun w hi => J.of_le (by first | exact Ro.le.refl _ | exact hle28 | exact (hle28).trans hle31) (fun x hx => by simp only [List.flatten_cons, List.flatten_nil, List.append_nil, List.mem_singleton] at hx; subst hx; simp) hi) ?_
      refine d_take 7 rfl (by kernel_rfl) (by kernel_rfl) (by kernel_rfl) (fun _ _ _ h => h) rfl (.inl rfl) (x_extract rfl rfl) (fun w hi => J.of_le (by first | exact Ro.le.refl _ | exact hle28 | exact (hle28).trans hle31) (fun x hx => by simp only [List.flatten_cons, List.flatten_nil, List.append_nil, List.mem_singleton] at hx; subst hx; simp) hi) ?_
      refine d_one 8 rfl (by kernel_rfl) (.inl rfl) (e_store 0 rfl rfl ts_106 rfl rfl hok rfl rfl rfl ?_)
      refine d_next (fun w hi => J.of_le (by first | exact Ro.le.refl _ | exact hle28 | exact (hle28).trans hle31) (fun x hx => by simp only [List.flatten_cons, List.flatten_nil, List.append_nil, List.mem_singleton] at hx; subst hx; simp) hi) ?_
      refine d_take 9 rfl (by kernel_rfl) (by kernel_rfl) (by kernel_rfl) (fun _ _ _ h => h) rfl (.inl rfl) (x_assign rfl) (fun w hi => J.of_le (by first | exact Ro.le.refl _ | exact hle28 | exact (hle28).trans hle31) (fun x hx => by simp only [List.flatten_cons, List.flatten_nil, List.append_nil, List.mem_singleton] at hx; subst hx; simp) hi) ?_
      refine d_end (by kernel_rfl) ?_
      refine n_then ?_
      refine ret ?_
      exact done rfl (Res.cellN ag_106 rfl rfl (CellsAt.own 0 0 4 _ rfl rfl) (.tmp rfl (.nil))) (hle6.trans (hle28.trans hle31)) (L) (subF (by (repeat (first | exact List.Sublist.refl _ | apply List.Sublist.cons_cons | apply List.Sublist.cons)); done)) (⟨hnf.symm, rfl⟩)
  · try simp only [decide_eq_true_eq, decide_eq_false_iff_not, beq_iff_eq, bne_iff_ne, ne_eq, beq_eq_false_iff_ne, bne_eq_false_iff_eq, Bool.not_eq_true', Bool.not_eq_false', Bool.not_eq_true, Bool.not_eq_false, Decidable.not_not, Int.not_lt, Int.not_le] at h2
    have hO18 := hO11
    refine skip ?_
    refine n_then ?_
    refine seq ?_
    refine seq ?_
    refine region ?_
    refine op (y (x_fieldAddr fo_34_4 rfl) rfl ?_)
    refine op (y (x_load1 ag_3 rfl (by first | assumption | exact Cell.own 0 rfl rfl | exact Cell.own 1 rfl rfl | exact Cell.own 2 rfl rfl | exact Cell.own 3 rfl rfl | exact Cell.own 4 rfl rfl | exact Cell.own 5 rfl rfl | exact Cell.own 6 rfl rfl | exact Cell.own 7 rfl rfl | exact Cell.own 8 rfl rfl | exact Cell.own 9 rfl rfl | exact Cell.ofRo (by assumption))) rfl ?_)
    refine op (e_call rfl fn_81 rfl rfl (Valued_c e.op _ _) fun v21 ro21 L21 hle21 hp21 => ?_)
    obtain ⟨rfl, rfl, rfl⟩ := hp21
    refine nil ?_
    refine n_then ?_
    refine cond rfl (fun h4 => ?_) (fun h4 => ?_)
    · try simp only [decide_eq_true_eq, decide_eq_false_iff_not, beq_iff_eq, bne_iff_ne, ne_eq, beq_eq_false_iff_ne, bne_eq_false_iff_eq, Bool.not_eq_true', Bool.not_eq_false', Bool.not_eq_true, Bool.not_eq_false, Decidable.not_not, Int.not_lt, Int.not_le] at h4
      refine region ?_
      refine op (y (x_move rfl) rfl ?_)
      refine op (e_call rfl fn_82 rfl rfl (valF_c _ _) fun v23 ro23 L23 hle23 hp23 => ?_)
      obtain ⟨rfl, rfl, rfl⟩ := hp23
      refine op (e_slice1 rfl Tryd.underlying116 ti_106 rfl rfl (by decide) (by decide) rfl rfl rfl fun b24 => ?_)
      refine op (e_append1 0 rfl st_116 rfl rfl rfl hO18 rfl rfl (by omega) (by omega) (fun _ => rfl) fun A25 cap25 R25 hO25 => ?_)
      refine op (y (x_assign rfl) rfl ?_)
      refine nil ?_
      refine n_then ?_
      refine seq ?_
      have hc := hO25.cast (m' := (flds e).length) (ys := (flds e).flatMap fldV) (by rw [flds2 hk, h2, h4]; rfl) (by rw [flds2 hk, h2, h4]; rfl)
      refine said 7 (.slice _ (flds e).length _) rfl (by rw [flds2 hk, h2, h4]; rfl) ?_
      refine ufreeze fun ro6 hle6 hR6 => ?_
      have hS6 := hc.sl enc_fld hR6
      refine draw (List.flatten [[(b3, Obj.cells (encEv e).toArray 34 (0, 0))]]) (by kernel_rfl) ?_
      refine d_take 0 rfl (by kernel_rfl) (by kernel_rfl) (by kernel_rfl) (fun _ _ _ h => h) rfl (.inl rfl) (x_load1 ag_117 rfl (Cell.ofRo (hle6.cell hbl))) (fun w hi => J.of_le (by first | exact Ro.le.refl _ | exact hle28 | exact (hle28).trans hle31) (fun x hx => by simp only [List.flatten_cons, List.flatten_nil, List.append_nil, List.mem_singleton] at hx; subst hx; simp) hi) ?_
      refine d_take 1 rfl (by kernel_rfl) (by kernel_rfl) (by kernel_rfl) (fun _ _ _ h => h) rfl (.inl rfl) (x_move rfl) (fun w hi => J.of_le (by first | exact Ro.le.refl _ | exact hle28 | exact (hle28).trans hle31) (fun x hx => by simp only [List.flatten_cons, List.flatten_nil, List.append_nil, List.mem_singleton] at hx; subst hx; simp) hi) ?_
      refine d_take 3 rfl (by kernel_rfl) (by kernel_rfl) (by kernel_rfl) (fun _ _ _ h => h) rfl (.inl rfl) ((by first | exact x_loadOwn 0 _ ag_34 rfl rfl rfl rfl | exact x_loadOwn 1 _ ag_34 rfl rfl rfl rfl | exact x_loadOwn 2 _ ag_34 rfl rfl rfl rfl | exact x_loadOwn 3 _ ag_34 rfl rfl rfl rfl | exact x_loadOwn 4 _ ag_34 rfl rfl rfl rfl | exact x_loadOwn 5 _ ag_34 rfl rfl rfl rfl | exact x_loadOwn 6 _ ag_34 rfl rfl rfl rfl | exact x_loadOwn 7 _ ag_34 rfl rfl rfl rfl | exact x_loadOwn 8 _ ag_34 rfl rfl rfl rfl | exact x_loadOwn 9 _ ag_34 rfl rfl rfl rfl | exact x_loadOwn 10 _ ag_34 rfl rfl rfl rfl | exact x_loadOwn 11 _ ag_34 rfl rfl rfl rfl)) (fun w hi => J.of_le (by first | exact Ro.le.refl _ | exact hle28 | exact (hle28).trans hle31) (fun x hx => by simp only [List.flatten_cons, List.flatten_nil, List.append_nil, List.mem_singleton] at hx; subst hx; simp) hi) ?_
      refine d_take 4 rfl (by kernel_rfl) (by kernel_rfl) (by kernel_rfl) (fun _ _ _ h => h) rfl (.inl rfl) (x_move rfl) (fun w hi => J.of_le (by first | exact Ro.le.refl _ | exact hle28 | exact (hle28).trans hle31) (fun x hx => by simp only [List.flatten_cons, List.flatten_nil, List.append_nil, List.mem_singleton] at hx; subst hx; simp) hi) ?_
      refine d_one 2 rfl (by kernel_rfl) (.inl rfl) (e_call rfl (fn_72) rfl rfl (list_c (flds e) _ _ _ _ hS6) fun v28 ro28 L28 hle28 hp28 => ?_)
      obtain ⟨bc, rfl, hS7, hbc, rfl⟩ := hp28
      refine d_next (fun w hi => J.of_le (by first | exact Ro.le.refl _ | exact hle28 | exact (hle28).trans hle31) (fun x hx => by simp only [List.flatten_cons, List.flatten_nil, List.append_nil, List.mem_singleton] at hx; subst hx; simp) hi) ?_
      refine d_one 5 rfl (by kernel_rfl) (.inl rfl) (e_call rfl (fn_73) rfl rfl (next_c e i hi (flds e) _ _ bc _ _ hS7 hbc) fun v31 ro31 L31 hle31 hp31 => ?_)
      obtain ⟨hv9, rfl, rfl⟩ := hp31
      obtain ⟨c0, fx, fy, fz, fb, hnf, hok⟩ := nextV_form (flds e) i
      rw [hnf] at hv9
      subst hv9
      refine d_next (fun w hi => J.of_le (by first | exact Ro.le.refl _ | exact hle28 | exact (hle28).trans hle31) (fun x hx => by simp only [List.flatten_cons, List.flatten_nil, List.append_nil, List.mem_singleton] at hx; subst hx; simp) hi) ?_
      refine d_take 6 rfl (by kernel_rfl) (by kernel_rfl) (by kernel_rfl) (fun _ _ _ h => h) rfl (.inl rfl) (x_extract rfl rfl) (fun w hi => J.of_le (by first | exact Ro.le.refl _ | exact hle28 | exact (hle28).trans hle31) (fun x hx => by simp only [List.flatten_cons, List.flatten_nil, List.append_nil, List.mem_singleton] at hx; subst hx; simp) hi) ?_
      refine d_take 7 rfl (by kernel_rfl) (by kernel_rfl) (by kernel_rfl) (fun _ _ _ h => h) rfl (.inl rfl) (x_extract rfl rfl) (fun w hi => J.of_le (by first | exact Ro.le.refl _ | exact hle28 | exact (hle28).trans hle31) (fun x hx => by simp only [List.flatten_cons, List.flatten_nil, List.append_nil, List.mem_singleton] at hx; subst hx; simp) hi) ?_
      refine d_one 8 rfl (by kernel_rfl) (.inl rfl) (e_store 0 rfl rfl ts_106 rfl rfl hok rfl rfl rfl ?_)
      refine d_next (fun w hi => J.of_le (by first | exact Ro.le.refl _ | exact hle28 | exact (hle28).trans hle31) (fun x hx => by simp only [List.flatten_cons, List.flatten_nil, List.append_nil, List.mem_singleton] at hx; subst hx; simp) hi) ?_
      refine d_take 9 rfl (by kernel_rfl) (by kernel_rfl) (by kernel_rfl) (fun _ _ _ h => h) rfl (.inl rfl) (x_assign rfl) (fun w hi => J.of_le (by first | exact Ro.le.refl _ | exact hle28 | exact (hle28).trans hle31) (fun x hx => by simp only [List.flatten_cons, List.flatten_nil, List.append_nil, List.mem_singleton] at hx; subst hx; simp) hi) ?_
      refine d_end (by kernel_rfl) ?_
      refine n_then ?_
      refine ret ?_
      exact done rfl (Res.cellN ag_106 rfl rfl (CellsAt.own 0 0 4 _ rfl rfl) (.tmp rfl (.nil))) (hle6.trans (hle28.trans hle31)) (L) (subF (by (repeat (first | exact List.Sublist.refl _ | apply List.Sublist.cons_cons | apply List.Sublist.cons)); done)) (⟨hnf.symm, rfl⟩)
    · try simp only [decide_eq_true_eq, decide_eq_false_iff_not, beq_iff_eq, bne_iff_ne, ne_eq, beq_eq_false_iff_ne, bne_eq_false_iff_eq, Bool.not_eq_true', Bool.not_eq_false', Bool.not_eq_true, Bool.not_eq_false, Decidable.not_not, Int.not_lt, Int.not_le] at h4
      have hO25 := hO18
      refine skip ?_
      refine n_then ?_
      refine seq ?_
      have hc := hO25.cast (m' := (flds e).length) (ys := (flds e).flatMap fldV) (by rw [flds2 hk, h2, h4]; rfl) (by rw [flds2 hk, h2, h4]; rfl)
      refine said 7 (.slice _ (flds e).length _) rfl (by rw [flds2 hk, h2, h4]; rfl) ?_
      refine ufreeze fun ro6 hle6 hR6 => ?_
      have hS6 := hc.sl enc_fld hR6
      refine draw (List.flatten [[(b3, Obj.cells (encEv e).toArray 34 (0, 0))]]) (by kernel_rfl) ?_
      refine d_take 0 rfl (by kernel_rfl) (by kernel_rfl) (by kernel_rfl) (fun _ _ _ h => h) rfl (.inl rfl) (x_load1 ag_117 rfl (Cell.ofRo (hle6.cell hbl))) (fun w hi => J.of_le (by first | exact Ro.le.refl _ | exact hle28 | exact (hle28).trans hle31) (fun x hx => by simp only [List.flatten_cons, List.flatten_nil, List.append_nil, List.mem_singleton] at hx; subst hx; simp) hi) ?_
      refine d_take 1 rfl (by kernel_rfl) (by kernel_rfl) (by kernel_rfl) (fun _ _ _ h => h) rfl (.inl rfl) (x_move rfl) (fun w hi => J.of_le (by first | exact Ro.le.refl _ | exact hle28 | exact (hle28).trans hle31) (fun x hx => by simp only [List.flatten_cons, List.flatten_nil, List.append_nil, List.mem_singleton] at hx; subst hx; simp) hi) ?_
      refine d_take 3 rfl (by kernel_rfl) (by kernel_rfl) (by kernel_rfl) (fun _ _ _ h => h) rfl (.inl rfl) ((by first | exact x_loadOwn 0 _ ag_34 rfl rfl rfl rfl | exact x_loadOwn 1 _ ag_34 rfl rfl rfl rfl | exact x_loadOwn 2 _ ag_34 rfl rfl rfl rfl | exact x_loadOwn 3 _ ag_34 rfl rfl rfl rfl | exact x_loadOwn 4 _ ag_34 rfl rfl rfl rfl | exact x_loadOwn 5 _ ag_34 rfl rfl rfl rfl | exact x_loadOwn 6 _ ag_34 rfl rfl rfl rfl | exact x_loadOwn 7 _ ag_34 rfl rfl rfl rfl | exact x_loadOwn 8 _ ag_34 rfl rfl rfl rfl | exact x_loadOwn 9 _ ag_34 rfl rfl rfl rfl | exact x_loadOwn 10 _ ag_34 rfl rfl rfl rfl | exact x_loadOwn 11 _ ag_34 rfl rfl rfl rfl)) (fun w hi => J.of_le (by first | exact Ro.le.refl _ | exact hle28 | exact (hle28).trans hle31) (fun x hx => by simp only [List.flatten_cons, List.flatten_nil, List.append_nil, List.mem_singleton] at hx; subst hx; simp) hi) ?_
      refine d_take 4 rfl (by kernel_rfl) (by kernel_rfl) (by kernel_rfl) (fun _ _ _ h => h) rfl (.inl rfl) (x_move rfl) (fun w hi => J.of_le (by first | exact Ro.le.refl _ | exact hle28 | exact (hle28).trans hle31) (fun x hx => by simp only [List.flatten_cons, List.flatten_nil, List.append_nil, List.mem_singleton] at hx; subst hx; simp) hi) ?_
      refine d_one 2 rfl (by kernel_rfl) (.inl rfl) (e_call rfl (fn_72) rfl rfl (list_c (flds e) _ _ _ _ hS6) fun v28 ro28 L28 hle28 hp28 => ?_)
      obtain ⟨bc, rfl, hS7, hbc, rfl⟩ := hp28
      refine d_next (fun w hi => J.of_le (by first | exact Ro.le.refl _ | exact hle28 | exact (hle28).trans hle31) (fun x hx => by simp only [List.flatten_cons, List.flatten_nil, List.append_nil, List.mem_singleton] at hx; subst hx; simp) hi) ?_
      refine d_one 5 rfl (by kernel_rfl) (.inl rfl) (e_call rfl (fn_73) rfl rfl (next_c e i hi (flds e) _ _ bc _ _ hS7 hbc) fun v31 ro31 L31 hle31 hp31 => ?_)
      obtain ⟨hv9, rfl, rfl⟩ := hp31
      obtain ⟨c0, fx, fy, fz, fb, hnf, hok⟩ := nextV_form (flds e) i
      rw [hnf] at hv9
      subst hv9
      refine d_next (fun w hi => J.of_le (by first | exact Ro.le.refl _ | exact hle28 | exact (hle28).trans hle31) (fun x hx => by simp only [List.flatten_cons, List.flatten_nil, List.append_nil, List.mem_singleton] at hx; subst hx; simp) hi) ?_
      refine d_take 6 rfl (by kernel_rfl) (by kernel_rfl) (by kernel_rfl) (fun _ _ _ h => h) rfl (.inl rfl) (x_extract rfl rfl) (fun w hi => J.of_le (by first | exact Ro.le.refl _ | exact hle28 | exact (hle28).trans hle31) (fun x hx => by simp only [List.flatten_cons, List.flatten_nil, List.append_nil, List.mem_singleton] at hx; subst hx; simp) hi) ?_
      refine d_take 7 rfl (by kernel_rfl) (by kernel_rfl) (by kernel_rfl) (fun _ _ _ h => h) rfl (.inl rfl) (x_extract rfl rfl) (fun w hi => J.of_le (by first | exact Ro.le.refl _ | exact hle28 | exact (hle28).trans hle31) (fun x hx => by simp only [List.flatten_cons, List.flatten_nil, List.append_nil, List.mem_singleton] at hx; subst hx; simp) hi) ?_
      refine d_one 8 rfl (by kernel_rfl) (.inl rfl) (e_store 0 rfl rfl ts_106 rfl rfl hok rfl rfl rfl ?_)
      refine d_next (fun w hi => J.of_le (by first | exact Ro.le.refl _ | exact hle28 | exact (hle28).trans hle31) (fun x hx => by simp only [List.flatten_cons, List.flatten_nil, List.append_nil, List.mem_singleton] at hx; subst hx; simp) hi) ?_
      refine d_take 9 rfl (by kernel_rfl) (by kernel_rfl) (by kernel_rfl) (fun _ _ _ h => h) rfl (.inl rfl) (x_assign rfl) (fun w hi => J.of_le (by first | exact Ro.le.refl _ | exact hle28 | exact (hle28).trans hle31) (fun x hx => by simp only [List.flatten_cons, List.flatten_nil, List.append_nil, List.mem_singleton] at hx; subst hx; simp) hi) ?_
      refine d_end (by kernel_rfl) ?_
      refine n_then ?_
      refine ret ?_
      exact done rfl (Res.cellN ag_106 rfl rfl (CellsAt.own 0 0 4 _ rfl rfl) (.tmp rfl (.nil))) (hle6.trans (hle28.trans hle31)) (L) (subF (by (repeat (first | exact List.Sublist.refl _ | apply List.Sublist.cons_cons | apply List.Sublist.cons)); done)) (⟨hnf.symm, rfl⟩)

theorem fields3_c (e : Ev) (i : Nat) (hi : i ≤ 1000) (bl : Nat) (ro : Ro) (L : List (List Blk)) (hbl : ro.cell bl 0 = some (.func (.func 72) #[] #[])) (hk : e.kind = 3) :
    CT Tryd.prog 83 [.agg (encEv e).toArray, .int .i64 (i : Nat), .pointer (some ⟨bl, 0, none⟩)].toArray ro L (PV (nextV (flds e) i) L) := by
  refine enter Tryd.func83 rfl Tryd.ntmps83 rfl ?_
  refine seq ?_
  refine region ?_
  refine op (e_box rfl rfl rfl fun b3 => ?_)
  refine op (e_alloc rfl zc_106 rfl fun b5 => ?_)
  refine op (y (x_assign rfl) rfl ?_)
  refine nil ?_
  refine n_then ?_
  refine seq ?_
  refine region ?_
  refine op (e_call rfl fn_74 rfl rfl (txF_c _ _) fun v8 ro8 L8 hle8 hp8 => ?_)
  obtain ⟨rfl, rfl, rfl⟩ := hp8
  refine op (e_call rfl fn_84 rfl rfl (retF_c _ _) fun v9 ro9 L9 hle9 hp9 => ?_)
  obtain ⟨rfl, rfl, rfl⟩ := hp9
  refine op (e_sliceN (zs := [.nilFunc, .int .i64 0, .int .i64 0, .int .i64 0, .nilFunc, .int .i64 0, .int .i64 0, .int .i64 0]) rfl Tryd.underlying116 ti_106 tz_106 rfl (by decide) (by decide) (by kernel_rfl) rfl rfl fun b10 => ?_)
  refine op (y (x_assign rfl) rfl ?_)
  refine nil ?_
  refine n_then ?_
  refine seq ?_
  refine seq ?_
  have hO10 : OwnS 106 4 (some ⟨b10, 0, none⟩) 2 2 (fldV 1 ++ fldV 7) [(b10, Obj.cells (fldV 1 ++ fldV 7).toArray 106 (0, 0))] := OwnS.lit rfl (by simp [maxLen])
  refine region ?_
  refine op (y (x_fieldAddr fo_34_7 rfl) rfl ?_)
  refine op (y (x_load1 ag_3 rfl (by first | assumption | exact Cell.own 0 rfl rfl | exact Cell.own 1 rfl rfl | exact Cell.own 2 rfl rfl | exact Cell.own 3 rfl rfl | exact Cell.own 4 rfl rfl | exact Cell.own 5 rfl rfl | exact Cell.own 6 rfl rfl | exact Cell.own 7 rfl rfl | exact Cell.own 8 rfl rfl | exact Cell.own 9 rfl rfl | exact Cell.ofRo (by assumption))) rfl ?_)
  refine op (y (x_eql rfl rfl) rfl ?_)
  refine nil ?_
  refine n_then ?_
  refine cond rfl (fun h2 => ?_) (fun h2 => ?_)
  · try simp only [decide_eq_true_eq, decide_eq_false_iff_not, beq_iff_eq, bne_iff_ne, ne_eq, beq_eq_false_iff_ne, bne_eq_false_iff_eq, Bool.not_eq_true', Bool.not_eq_false', Bool.not_eq_true, Bool.not_eq_false, Decidable.not_not, Int.not_lt, Int.not_le] at h2
    have hif : (if e.ret = 3 then [6] else ([] : List Nat)) = [6] := if_pos h2
    refine region ?_
    refine op (y (x_move rfl) rfl ?_)
    refine op (e_call rfl fn_82 rfl rfl (valF_c _ _) fun v15 ro15 L15 hle15 hp15 => ?_)
    obtain ⟨rfl, rfl, rfl⟩ := hp15
    refine op (e_slice1 rfl Tryd.underlying116 ti_106 rfl rfl (by decide) (by decide) rfl rfl rfl fun b16 => ?_)
    refine op (e_append1 0 rfl st_116 rfl rfl rfl hO10 rfl rfl (by omega) (by omega) (fun _ => rfl) fun A17 cap17 R17 hO17 => ?_)
    refine op (y (x_assign rfl) rfl ?_)
    refine nil ?_
    refine n_then ?_
    refine seq ?_
    have hc := hO17.cast (m' := (flds e).length) (ys := (flds e).flatMap fldV) (by rw [flds3 hk, hif]; rfl) (by rw [flds3 hk, hif]; rfl)
    refine said 7 (.slice _ (flds e).length _) rfl (by rw [flds3 hk, hif]; rfl) ?_
    refine ufreeze fun ro6 hle6 hR6 => ?_
    have hS6 := hc.sl enc_fld hR6
    refine draw (List.flatten [[(b3, Obj.cells (encEv e).toArray 34 (0, 0))]]) (by kernel_rfl) ?_
    refine d_take 0 rfl (by kernel_rfl) (by kernel_rfl) (by kernel_rfl) (fun _ _ _ h => h) rfl (.inl rfl) (x_load1 ag_117 rfl (Cell.ofRo (hle6.cell hbl))) (fun w hi => J.of_le (by first | exact Ro.le.refl _ | exact hle20 | exact (hle20).trans hle23) (fun x hx => by simp only [List.flatten_cons, List.flatten_nil, List.append_nil, List.mem_singleton] at hx; subst hx; simp) hi) ?_
    refine d_take 1 rfl (by kernel_rfl) (by kernel_rfl) (by kernel_rfl) (fun _ _ _ h => h) rfl (.inl rfl) (x_move rfl) (fun w hi => J.of_le (by first | exact Ro.le.refl _ | exact hle20 | exact (hle20).trans hle23) (fun x hx => by simp only [List.flatten_cons, List.flatten_nil, List.append_nil, List.mem_singleton] at hx; subst hx; simp) hi) ?_
    refine d_take 3 rfl (by kernel_rfl) (by kernel_rfl) (by kernel_rfl) (fun _ _ _ h => h) rfl (.inl rfl) ((by first | exact x_loadOwn 0 _ ag_34 rfl rfl rfl rfl | exact x_loadOwn 1 _ ag_34 rfl rfl rfl rfl | exact x_loadOwn 2 _ ag_34 rfl rfl rfl rfl | exact x_loadOwn 3 _ ag_34 rfl rfl rfl rfl | exact x_loadOwn 4 _ ag_34 rfl rfl rfl rfl | exact x_loadOwn 5 _ ag_34 rfl rfl rfl rfl | exact x_loadOwn 6 _ ag_34 rfl rfl rfl rfl | exact x_loadOwn 7 _ ag_34 rfl rfl rfl rfl | exact x_loadOwn 8 _ ag_34 rfl rfl rfl rfl | exact x_loadOwn 9 _ ag_34 rfl rfl rfl rfl | exact x_loadOwn 10 _ ag_34 rfl rfl rfl rfl | exact x_loadOwn 11 _ ag_34 rfl rfl rfl rfl)) (fun w hi => J.of_le (by first | exact Ro.le.refl _ | exact hle20 | exact (hle20).trans hle23) (fun x hx => by simp only [List.flatten_cons, List.flatten_nil, List.append_nil, List.mem_singleton] at hx; subst hx; simp) hi) ?_
    refine d_take 4 rfl (by kernel_rfl) (by kernel_rfl) (by kernel_rfl) (fun _ _ _ h => h) rfl (.inl rfl) (x_move rfl) (fun w hi => J.of_le (by first | exact Ro.le.refl _ | exact hle20 | exact (hle20).trans hle23) (fun x hx => by simp only [List.flatten_cons, List.flatten_nil, List.append_nil, List.mem_singleton] at hx; subst hx; simp) hi) ?_
    refine d_one 2 rfl (by kernel_rfl) (.inl rfl) (e_call rfl (fn_72) rfl rfl (list_c (flds e) _ _ _ _ hS6) fun v20 ro20 L20 hle20 hp20 => ?_)
    obtain ⟨bc, rfl, hS7, hbc, rfl⟩ := hp20
    refine d_next (fun w hi => J.of_le (by first | exact Ro.le.refl _ | exact hle20 | exact (hle20).trans hle23) (fun x hx => by simp only [List.flatten_cons, List.flatten_nil, List.append_nil, List.mem_singleton] at hx; subst hx; simp) hi) ?_
    refine d_one 5 rfl (by kernel_rfl) (.inl rfl) (e_call rfl (fn_73) rfl rfl (next_c e i hi (flds e) _ _ bc _ _ hS7 hbc) fun v23 ro23 L23 hle23 hp23 => ?_)
    obtain ⟨hv9, rfl, rfl⟩ := hp23
    obtain ⟨c0, fx, fy, fz, fb, hnf, hok⟩ := nextV_form (flds e) i
    rw [hnf] at hv9
    subst hv9
    refine d_next (fun w hi => J.of_le (by first | exact Ro.le.refl _ | exact hle20 | exact (hle20).trans hle23) (fun x hx => by simp only [List.flatten_cons, List.flatten_nil, List.append_nil, List.mem_singleton] at hx; subst hx; simp) hi) ?_
    refine d_take 6 rfl (by kernel_rfl) (by kernel_rfl) (by kernel_rfl) (fun _ _ _ h => h) rfl (.inl rfl) (x_extract rfl rfl) (fun w hi => J.of_le (by first | exact Ro.le.refl _ | exact hle20 | exact (hle20).trans hle23) (fun x hx => by simp only [List.flatten_cons, List.flatten_nil, List.append_nil, List.mem_singleton] at hx; subst hx; simp) hi) ?_
    refine d_take 7 rfl (by kernel_rfl) (by kernel_rfl) (by kernel_rfl) (fun _ _ _ h => h) rfl (.inl rfl) (x_extract rfl rfl) (fun w hi => J.of_le (by first | exact Ro.le.refl _ | exact hle20 | exact (hle20).trans hle23) (fun x hx => by simp only [List.flatten_cons, List.flatten_nil, List.append_nil, List.mem_singleton] at hx; subst hx; simp) hi) ?_
    refine d_one 8 rfl (by kernel_rfl) (.inl rfl) (e_store 0 rfl rfl ts_106 rfl rfl hok rfl rfl rfl ?_)
    refine d_next (fun w hi => J.of_le (by first | exact Ro.le.refl _ | exact hle20 | exact (hle20).trans hle23) (fun x hx => by simp only [List.flatten_cons, List.flatten_nil, List.append_nil, List.mem_singleton] at hx; subst hx; simp) hi) ?_
    refine d_take 9 rfl (by kernel_rfl) (by kernel_rfl) (by kernel_rfl) (fun _ _ _ h => h) rfl (.inl rfl) (x_assign rfl) (fun w hi => J.of_le (by first | exact Ro.le.refl _ | exact hle20 | exact (hle20).trans hle23) (fun x hx => by simp only [List.flatten_cons, List.flatten_nil, List.append_nil, List.mem_singleton] at hx; subst hx; simp) hi) ?_
    refine d_end (by kernel_rfl) ?_
    refine n_then ?_
    refine ret ?_
    exact done rfl (Res.cellN ag_106 rfl rfl (CellsAt.own 0 0 4 _ rfl rfl) (.tmp rfl (.nil))) (hle6.trans (hle20.trans hle23)) (L) (subF (by (repeat (first | exact List.Sublist.refl _ | apply List.Sublist.cons_cons | apply List.Sublist.cons)); done)) (⟨hnf.symm, rfl⟩)
  · try simp only [decide_eq_true_eq, decide_eq_false_iff_not, beq_iff_eq, bne_iff_ne, ne_eq, beq_eq_false_iff_ne, bne_eq_false_iff_eq, Bool.not_eq_true', Bool.not_eq_false', Bool.not_eq_true, Bool.not_eq_false, Decidable.not_not, Int.not_lt, Int.not_le] at h2
    have hif : (if e.ret = 3 then [6] else ([] : List Nat)) = [] := if_neg h2
    have hO17 := hO10
    refine skip ?_
    refine n_then ?_
    refine seq ?_
    have hc := hO17.cast (m' := (flds e).length) (ys := (flds e).flatMap fldV) (by rw [flds3 hk, hif]; rfl) (by rw [flds3 hk, hif]; rfl)
    refine said 7 (.slice _ (flds e).length _) rfl (by rw [flds3 hk, hif]; rfl) ?_
    refine ufreeze fun ro6 hle6 hR6 => ?_
    have hS6 := hc.sl enc_fld hR6
    refine draw (List.flatten [[(b3, Obj.cells (encEv e).toArray 34 (0, 0))]]) (by kernel_rfl) ?_
    refine d_take 0 rfl (by kernel_rfl) (by kernel_rfl) (by kernel_rfl) (fun _ _ _ h => h) rfl (.inl rfl) (x_load1 ag_117 rfl (Cell.ofRo (hle6.cell hbl))) (fun w hi => J.of_le (by first | exact Ro.le.refl _ | exact hle20 | exact (hle20).trans hle23) (fun x hx => by simp only [List.flatten_cons, List.flatten_nil, List.append_nil, List.mem_singleton] at hx; subst hx; simp) hi) ?_
    refine d_take 1 rfl (by kernel_rfl) (by kernel_rfl) (by kernel_rfl) (fun _ _ _ h => h) rfl (.inl rfl) (x_move rfl) (fun w hi => J.of_le (by first | exact Ro.le.refl _ | exact hle20 | exact (hle20).trans hle23) (fun x hx => by simp only [List.flatten_cons, List.flatten_nil, List.append_nil, List.mem_singleton] at hx; subst hx; simp) hi) ?_
    refine d_take 3 rfl (by kernel_rfl) (by kernel_rfl) (by kernel_rfl) (fun _ _ _ h => h) rfl (.inl rfl) ((by first | exact x_loadOwn 0 _ ag_34 rfl rfl rfl rfl | exact x_loadOwn 1 _ ag_34 rfl rfl rfl rfl | exact x_loadOwn 2 _ ag_34 rfl rfl rfl rfl | exact x_loadOwn 3 _ ag_34 rfl rfl rfl rfl | exact x_loadOwn 4 _ ag_34 rfl rfl rfl rfl | exact x_loadOwn 5 _ ag_34 rfl rfl rfl rfl | exact x_loadOwn 6 _ ag_34 rfl rfl rfl rfl | exact x_loadOwn 7 _ ag_34 rfl rfl rfl rfl | exact x_loadOwn 8 _ ag_34 rfl rfl rfl rfl | exact x_loadOwn 9 _ ag_34 rfl rfl rfl rfl | exact x_loadOwn 10 _ ag_34 rfl rfl rfl rfl | exact x_loadOwn 11 _ ag_34 rfl rfl rfl rfl)) (fun w hi => J.of_le (by first | exact Ro.le.refl _ | exact hle20 | exact (hle20).trans hle23) (fun x hx => by simp only [List.flatten_cons, List.flatten_nil, List.append_nil, List.mem_singleton] at hx; subst hx; simp) hi) ?_
    refine d_take 4 rfl (by kernel_rfl) (by kernel_rfl) (by kernel_rfl) (fun _ _ _ h => h) rfl (.inl rfl) (x_move rfl) (fun w hi => J.of_le (by first | exact Ro.le.refl _ | exact hle20 | exact (hle20).trans hle23) (fun x hx => by simp only [List.flatten_cons, List.flatten_nil, List.append_nil, List.mem_singleton] at hx; subst hx; simp) hi) ?_
    refine d_one 2 rfl (by kernel_rfl) (.inl rfl) (e_call rfl (fn_72) rfl rfl (list_c (flds e) _ _ _ _ hS6) fun v20 ro20 L20 hle20 hp20 => ?_)
    obtain ⟨bc, rfl, hS7, hbc, rfl⟩ := hp20
    refine d_next (fun w hi => J.of_le (by first | exact Ro.le.refl _ | exact hle20 | exact (hle20).trans hle23) (fun x hx => by simp only [List.flatten_cons, List.flatten_nil, List.append_nil, List.mem_singleton] at hx; subst hx; simp) hi) ?_
    refine d_one 5 rfl (by kernel_rfl) (.inl rfl) (e_call rfl (fn_73) rfl rfl (next_c e i hi (flds e) _ _ bc _ _ hS7 hbc) fun v23 ro23 L23 hle23 hp23 => ?_)
    obtain ⟨hv9, rfl, rfl⟩ := hp23
    obtain ⟨c0, fx, fy, fz, fb, hnf, hok⟩ := nextV_form (flds e) i
    rw [hnf] at hv9
    subst hv9
    refine d_next (fun w hi => J.of_le (by first | exact Ro.le.refl _ | exact hle20 | exact (hle20).trans hle23) (fun x hx => by simp only [List.flatten_cons, List.flatten_nil, List.append_nil, List.mem_singleton] at hx; subst hx; simp) hi) ?_
    refine d_take 6 rfl (by kernel_rfl) (by kernel_rfl) (by kernel_rfl) (fun _ _ _ h => h) rfl (.inl rfl) (x_extract rfl rfl) (fun w hi => J.of_le (by first | exact Ro.le.refl _ | exact hle20 | exact (hle20).trans hle23) (fun x hx => by simp only [List.flatten_cons, List.flatten_nil, List.append_nil, List.mem_singleton] at hx; subst hx; simp) hi) ?_
    refine d_take 7 rfl (by kernel_rfl) (by kernel_rfl) (by kernel_rfl) (fun _ _ _ h => h) rfl (.inl rfl) (x_extract rfl rfl) (fun w hi => J.of_le (by first | exact Ro.le.refl _ | exact hle20 | exact (hle20).trans hle23) (fun x hx => by simp only [List.flatten_cons, List.flatten_nil, List.append_nil, List.mem_singleton] at hx; subst hx; simp) hi) ?_
    refine d_one 8 rfl (by kernel_rfl) (.inl rfl) (e_store 0 rfl rfl ts_106 rfl rfl hok rfl rfl rfl ?_)
    refine d_next (fun w hi => J.of_le (by first | exact Ro.le.refl _ | exact hle20 | exact (hle20).trans hle23) (fun x hx => by simp only [List.flatten_cons, List.flatten_nil, List.append_nil, List.mem_singleton] at hx; subst hx; simp) hi) ?_
    refine d_take 9 rfl (by kernel_rfl) (by kernel_rfl) (by kernel_rfl) (fun _ _ _ h => h) rfl (.inl rfl) (x_assign rfl) (fun w hi => J.of_le (by first | exact Ro.le.refl _ | exact hle20 | exact (hle20).trans hle23) (fun x hx => by simp only [List.flatten_cons, List.flatten_nil, List.append_nil, List.mem_singleton] at hx; subst hx; simp) hi) ?_
    refine d_end (by kernel_rfl) ?_
    refine n_then ?_
    refine ret ?_
    exact done rfl (Res.cellN ag_106 rfl rfl (CellsAt.own 0 0 4 _ rfl rfl) (.tmp rfl (.nil))) (hle6.trans (hle20.trans hle23)) (L) (subF (by (repeat (first | exact List.Sublist.refl _ | apply List.Sublist.cons_cons | apply List.Sublist.cons)); done)) (⟨hnf.symm, rfl⟩)

end Go.Proofs.YtijafcilfefafaaDoor
