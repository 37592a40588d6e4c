/- The walks of lists that never change. -/
import Derived.Test.YtgkngljojfkkfaaGreatDoorW2
namespace Go.Proofs.YtgkngljojfkkfaaGreatDoor
open Go Go.U
set_option maxRecDepth 20000
set_option linter.unusedSimpArgs false
set_option linter.unusedVariables false

theorem ok_w (l : List ByteArray) : ∀ u ∈ l.flatMap encW, u.oneCell' = true := fun u hu => by
  obtain ⟨o, _, h⟩ := List.mem_flatMap.1 hu
  simp [encW] at h
  subst h; rfl
theorem ok_sn (l : List Sn) : ∀ u ∈ l.flatMap encSn, u.oneCell' = true := fun u hu => by
  obtain ⟨o, _, h⟩ := List.mem_flatMap.1 hu
  simp [encSn] at h
  rcases h with rfl | rfl | rfl | rfl <;> rfl
theorem ok_pr (l : List Pr) : ∀ u ∈ l.flatMap encPr, u.oneCell' = true := fun u hu => by
  obtain ⟨o, _, h⟩ := List.mem_flatMap.1 hu
  simp [encPr] at h
  rcases h with rfl | rfl <;> rfl
theorem flat_len {α : Type} {enc : α → List Value} {k : Nat} {l : List α} (h : ∀ x ∈ l, (enc x).length = k) : (l.flatMap enc).length = l.length * k := by
  induction l with
  | nil => simp
  | cons x m ih => rw [List.flatMap_cons, List.length_append, ih (fun y hy => h y (by simp [hy])), h x (by simp), List.length_cons, Nat.succ_mul, Nat.add_comm]
theorem flat_set {α : Type} {enc : α → List Value} {k : Nat} {x : α} (hx : (enc x).length = k) : ∀ {l : List α} {i : Nat}, (∀ y ∈ l, (enc y).length = k) → i < l.length → (l.flatMap enc).take (i * k) ++ enc x ++ (l.flatMap enc).drop (i * k + (enc x).length) = (l.set i x).flatMap enc
  | [], i, _, hi => by simp at hi
  | y :: l, 0, h, _ => by
    have hy := h y (by simp)
    rw [List.set_cons_zero, List.flatMap_cons, List.flatMap_cons, hx, Nat.zero_mul, List.take_zero, List.nil_append, Nat.zero_add, List.drop_append_of_le_length (by omega), ← hy, List.drop_length, List.nil_append]
  | y :: l, i + 1, h, hi => by
    have hy := h y (by simp)
    have ih := flat_set hx (l := l) (i := i) (fun z hz => h z (by simp [hz])) (by simpa using hi)
    rw [List.set_cons_succ, List.flatMap_cons, List.flatMap_cons, ← ih, Nat.succ_mul]
    have e1 : (enc y ++ l.flatMap enc).take (i * k + k) = enc y ++ (l.flatMap enc).take (i * k) := by
      rw [List.take_append, hy, Nat.add_sub_cancel, List.take_of_length_le (by omega)]
    have e2 : (enc y ++ l.flatMap enc).drop (i * k + k + (enc x).length) = (l.flatMap enc).drop (i * k + (enc x).length) := by
      rw [List.drop_append, hy, List.drop_of_length_le (by omega), List.nil_append]
      congr 1
      omega
    rw [e1, e2]
    simp only [List.append_assoc]
/-- a list comes back, of memory that is new -/
def PLO {α : Type} (e k : Nat) (enc : α → List Value) (l : List α) (L : List (List Blk)) : Value → Ro → List (List Blk) → Prop := fun v ro' L' => ∃ A cap R, v = .agg [.slice A l.length cap].toArray ∧ OwnS e k A l.length cap (l.flatMap enc) R ∧ L' = R :: L
/-- a list comes back -/
def PL {α : Type} (k : Nat) (enc : α → List Value) (l : List α) (L : List (List Blk)) : Value → Ro → List (List Blk) → Prop := fun v ro' L' => ∃ A cap, v = .agg [.slice A l.length cap].toArray ∧ Sl ro' k enc A cap l ∧ L = L'
theorem PLO.frozen {α : Type} {P : Program} {f : FuncId} {args : Array Value} {ro : Ro} {L : List (List Blk)} {e k : Nat} {enc : α → List Value} {l : List α} (henc : ∀ x ∈ l, (enc x).length = k) (h : CT P f args ro L (PLO e k enc l L)) : CT P f args ro L (PL k enc l L) :=
  h.freeze fun v ro1 L1 hle hp => by
    obtain ⟨A, cap, R, rfl, hO, rfl⟩ := hp
    exact ⟨R, L, rfl, fun ro2 _ hR => ⟨A, cap, rfl, hO.sl henc hR, rfl⟩⟩
theorem src_more {ro : Ro} {k : Nat} {B : Option Addr} {m : Nat} {news : List Value} {K K' : List Blk} (h : Src ro K k B m news) (hK : ∀ q ∈ K, q ∈ K' := by intro q hq; simp only [List.flatten_cons, List.mem_append]; grind) : Src ro K' k B m news :=
  ⟨h.1, fun hm => by
    obtain ⟨b, off, rfl, hc⟩ := h.2 hm
    exact ⟨b, off, rfl, fun j v hv w hj => hc j v hv w ⟨hj.old, fun x hx => hj.own x (hK x hx)⟩⟩⟩
theorem int_len {l : List Int} : ∀ x ∈ l, (encInt x).length = 1 := fun _ _ => rfl
theorem cap_ge {α : Type} {ro : Ro} {k : Nat} {enc : α → List Value} {A : Option Addr} {cap : Nat} {l : List α} (h : Sl ro k enc A cap l) : l.length ≤ 9223372036854775807 := by have h1 := h.1; have h2 := h.2.1; unfold maxLen at h2; omega

theorem AllI_o (l : List Int) (A : Option Addr) (cap : Nat) (ro : Ro) (L : List (List Blk)) (hl : Sl ro 1 encInt A cap l) (hn : l.length ≤ 1000000) :
    CT Tryz.prog 27 [.agg [.slice A l.length cap].toArray].toArray ro L (PO 3 1 encInt l L) := by
  refine enter Tryz.func27 rfl Tryz.ntmps27 rfl ?_
  refine seq ?_
  refine region ?_
  refine op (e_box rfl rfl rfl fun b1 => ?_)
  refine op (y (x_assign rfl) rfl ?_)
  refine nil ?_
  refine n_then ?_
  refine seq ?_
  refine drawL (by kernel_rfl) ?_
  refine d_take 0 rfl (by kernel_rfl) (by kernel_rfl) (by kernel_rfl) (fun _ _ _ h => h) rfl (.inl rfl) (x_fieldAddr fo_46_0 rfl) (fun w hi => by first | exact hi.j | exact J.of_le (Ro.le.refl _) (fun x hx => List.mem_append_right _ hx) hi | exact J.of_le (Ro.le.refl _) (fun x hx => List.mem_append_right _ (List.mem_append_right _ hx)) hi | exact J.of_le (Ro.le.refl _) (fun x hx => absurd hx (by simp)) hi | exact J.of_le (by assumption) (fun x hx => absurd hx (by simp)) hi) ?_
  refine d_take 1 rfl (by kernel_rfl) (by kernel_rfl) (by kernel_rfl) (fun _ _ _ h => h) rfl (.inl rfl) (x_load1 ag_26 rfl (by first | assumption | exact Cell.own 0 rfl rfl | exact Cell.own 1 rfl rfl | exact Cell.own 2 rfl rfl | exact Cell.own 3 rfl rfl | exact Cell.own 4 rfl rfl | exact Cell.own 5 rfl rfl | exact Cell.own 6 rfl rfl | exact Cell.own 7 rfl rfl | exact Cell.own 8 rfl rfl | exact Cell.own 9 rfl rfl | exact Cell.ofRo (by assumption))) (fun w hi => by first | exact hi.j | exact J.of_le (Ro.le.refl _) (fun x hx => List.mem_append_right _ hx) hi | exact J.of_le (Ro.le.refl _) (fun x hx => List.mem_append_right _ (List.mem_append_right _ hx)) hi | exact J.of_le (Ro.le.refl _) (fun x hx => absurd hx (by simp)) hi | exact J.of_le (by assumption) (fun x hx => absurd hx (by simp)) hi) ?_
  refine d_take 2 rfl (by kernel_rfl) (by kernel_rfl) (by kernel_rfl) (fun _ _ _ h => h) rfl (.inl rfl) (x_lenSl sz_26 rfl) (fun w hi => by first | exact hi.j | exact J.of_le (Ro.le.refl _) (fun x hx => List.mem_append_right _ hx) hi | exact J.of_le (Ro.le.refl _) (fun x hx => List.mem_append_right _ (List.mem_append_right _ hx)) hi | exact J.of_le (Ro.le.refl _) (fun x hx => absurd hx (by simp)) hi | exact J.of_le (by assumption) (fun x hx => absurd hx (by simp)) hi) ?_
  refine d_take 4 rfl (by kernel_rfl) (by kernel_rfl) (by kernel_rfl) (fun _ _ _ h => h) rfl (.inl rfl) (x_fieldAddr fo_46_0 rfl) (fun w hi => by first | exact hi.j | exact J.of_le (Ro.le.refl _) (fun x hx => List.mem_append_right _ hx) hi | exact J.of_le (Ro.le.refl _) (fun x hx => List.mem_append_right _ (List.mem_append_right _ hx)) hi | exact J.of_le (Ro.le.refl _) (fun x hx => absurd hx (by simp)) hi | exact J.of_le (by assumption) (fun x hx => absurd hx (by simp)) hi) ?_
  refine d_take 5 rfl (by kernel_rfl) (by kernel_rfl) (by kernel_rfl) (fun _ _ _ h => h) rfl (.inl rfl) (x_load1 ag_26 rfl (by first | assumption | exact Cell.own 0 rfl rfl | exact Cell.own 1 rfl rfl | exact Cell.own 2 rfl rfl | exact Cell.own 3 rfl rfl | exact Cell.own 4 rfl rfl | exact Cell.own 5 rfl rfl | exact Cell.own 6 rfl rfl | exact Cell.own 7 rfl rfl | exact Cell.own 8 rfl rfl | exact Cell.own 9 rfl rfl | exact Cell.ofRo (by assumption))) (fun w hi => by first | exact hi.j | exact J.of_le (Ro.le.refl _) (fun x hx => List.mem_append_right _ hx) hi | exact J.of_le (Ro.le.refl _) (fun x hx => List.mem_append_right _ (List.mem_append_right _ hx)) hi | exact J.of_le (Ro.le.refl _) (fun x hx => absurd hx (by simp)) hi | exact J.of_le (by assumption) (fun x hx => absurd hx (by simp)) hi) ?_
  refine d_one 3 rfl (by kernel_rfl) (.inl rfl) (e_make rfl st_26 rfl rfl (by omega) (by omega) (by omega) (by omega) fun b6 R6 xs6 hO6 hR6 => ?_)
  obtain rfl : xs6 = [] := List.eq_nil_of_length_eq_zero (by simpa using hO6.1)
  refine d_next (fun w hi => by first | exact hi.j | exact J.of_le (Ro.le.refl _) (fun x hx => List.mem_append_right _ hx) hi | exact J.of_le (Ro.le.refl _) (fun x hx => List.mem_append_right _ (List.mem_append_right _ hx)) hi | exact J.of_le (Ro.le.refl _) (fun x hx => absurd hx (by simp)) hi | exact J.of_le (by assumption) (fun x hx => absurd hx (by simp)) hi) ?_
  refine d_one 6 rfl (by kernel_rfl) (.inl rfl) (e_append 0 rfl st_26 rfl rfl rfl hO6 (Sl.src hl (by decide)) (int_ok _) (by omega) (by omega) (fun _ => rfl) fun A9 cap9 R9 hO9 => ?_)
  refine said 9 (.slice A9 l.length cap9) rfl (by simp) ?_
  refine d_next (fun w hi => by first | exact hi.j | exact J.of_le (Ro.le.refl _) (fun x hx => List.mem_append_right _ hx) hi | exact J.of_le (Ro.le.refl _) (fun x hx => List.mem_append_right _ (List.mem_append_right _ hx)) hi | exact J.of_le (Ro.le.refl _) (fun x hx => absurd hx (by simp)) hi | exact J.of_le (by assumption) (fun x hx => absurd hx (by simp)) hi) ?_
  refine d_take 7 rfl (by kernel_rfl) (by kernel_rfl) (by kernel_rfl) (fun _ _ _ h => h) rfl (.inl rfl) (x_assign rfl) (fun w hi => by first | exact hi.j | exact J.of_le (Ro.le.refl _) (fun x hx => List.mem_append_right _ hx) hi | exact J.of_le (Ro.le.refl _) (fun x hx => List.mem_append_right _ (List.mem_append_right _ hx)) hi | exact J.of_le (Ro.le.refl _) (fun x hx => absurd hx (by simp)) hi | exact J.of_le (by assumption) (fun x hx => absurd hx (by simp)) hi) ?_
  refine d_end (by kernel_rfl) ?_
  refine n_then ?_
  refine ret ?_
  exact done rfl (.tmp rfl (.nil)) (Ro.le.refl _) (R9 :: L) (subF (by (repeat (first | exact List.Sublist.refl _ | apply List.Sublist.cons_cons | apply List.Sublist.cons)); done)) (⟨A9, cap9, R9, rfl, by simpa using hO9, rfl⟩)

theorem LenI_c (l : List Int) (A : Option Addr) (cap : Nat) (ro : Ro) (L : List (List Blk)) (hl : Sl ro 1 encInt A cap l) :
    CT Tryz.prog 28 [.agg [.slice A l.length cap].toArray].toArray ro L (PQ (.int .i64 (l.length : Nat)) ro L) := by
  refine enter Tryz.func28 rfl Tryz.ntmps28 rfl ?_
  refine seq ?_
  refine region ?_
  refine op (e_box rfl rfl rfl fun b1 => ?_)
  refine op (y (x_assign rfl) rfl ?_)
  refine nil ?_
  refine n_then ?_
  refine seq ?_
  refine region ?_
  refine op (y (x_fieldAddr fo_46_0 rfl) rfl ?_)
  refine op (y (x_load1 ag_26 rfl (by first | assumption | exact Cell.own 0 rfl rfl | exact Cell.own 1 rfl rfl | exact Cell.own 2 rfl rfl | exact Cell.own 3 rfl rfl | exact Cell.own 4 rfl rfl | exact Cell.own 5 rfl rfl | exact Cell.own 6 rfl rfl | exact Cell.own 7 rfl rfl | exact Cell.own 8 rfl rfl | exact Cell.own 9 rfl rfl | exact Cell.ofRo (by assumption))) rfl ?_)
  refine op (y (x_lenSl sz_26 rfl) rfl ?_)
  refine op (y (x_assign rfl) rfl ?_)
  refine nil ?_
  refine n_then ?_
  refine ret ?_
  exact done rfl (.tmp rfl (.nil)) (Ro.le.refl _) (L) (subF (by (repeat (first | exact List.Sublist.refl _ | apply List.Sublist.cons_cons | apply List.Sublist.cons)); done)) (⟨rfl, rfl, rfl⟩)

theorem AndI_o (l : List Int) (A : Option Addr) (cap : Nat) (ro : Ro) (L : List (List Blk)) (hl : Sl ro 1 encInt A cap l) (hn : l.length ≤ 1000000) (x : Int) :
    CT Tryz.prog 24 [.agg [.slice A l.length cap].toArray, .int .i64 x].toArray ro L (PLO 3 1 encInt (l ++ [x]) L) := by
  refine enter Tryz.func24 rfl Tryz.ntmps24 rfl ?_
  refine seq ?_
  refine region ?_
  refine op (e_box rfl rfl rfl fun b2 => ?_)
  refine op (e_alloc rfl zc_46 rfl fun b4 => ?_)
  refine nil ?_
  refine n_then ?_
  refine seq ?_
  refine region ?_
  refine op (y ((by first | exact x_loadOwn 0 _ ag_46 rfl rfl rfl rfl | exact x_loadOwn 1 _ ag_46 rfl rfl rfl rfl | exact x_loadOwn 2 _ ag_46 rfl rfl rfl rfl | exact x_loadOwn 3 _ ag_46 rfl rfl rfl rfl | exact x_loadOwn 4 _ ag_46 rfl rfl rfl rfl | exact x_loadOwn 5 _ ag_46 rfl rfl rfl rfl | exact x_loadOwn 6 _ ag_46 rfl rfl rfl rfl | exact x_loadOwn 7 _ ag_46 rfl rfl rfl rfl | exact x_loadOwn 8 _ ag_46 rfl rfl rfl rfl | exact x_loadOwn 9 _ ag_46 rfl rfl rfl rfl | exact x_loadOwn 10 _ ag_46 rfl rfl rfl rfl | exact x_loadOwn 11 _ ag_46 rfl rfl rfl rfl)) rfl ?_)
  refine op (e_call rfl fn_27 rfl rfl (AllI_o l A cap _ _ hl hn) fun v6 ro6 L6 hle6 hp6 => ?_)
  obtain ⟨A6, c6, R6, rfl, hO6, rfl⟩ := hp6
  refine op (y (x_move rfl) rfl ?_)
  refine op (e_slice1 rfl Tryz.underlying26 ti_3 rfl rfl (by decide) (by decide) rfl rfl rfl fun b8 => ?_)
  refine op (e_append1 0 rfl st_26 rfl rfl rfl hO6 rfl rfl (by omega) (by omega) (fun _ => rfl) fun A9 cap9 R9 hO9 => ?_)
  have hO9x := (hO9.snoc (enc := encInt) (x := x)).cast (m' := (l ++ [x]).length) (by simp) rfl
  refine said 9 (.slice A9 (l ++ [x]).length cap9) rfl (by simp) ?_
  refine op (y (x_build bu_46 rfl rfl) rfl ?_)
  first | refine op (e_store 0 rfl rfl ts_46 rfl rfl rfl rfl rfl rfl ?_) | refine op (e_store 1 rfl rfl ts_46 rfl rfl rfl rfl rfl rfl ?_) | refine op (e_store 2 rfl rfl ts_46 rfl rfl rfl rfl rfl rfl ?_) | refine op (e_store 3 rfl rfl ts_46 rfl rfl rfl rfl rfl rfl ?_) | refine op (e_store 4 rfl rfl ts_46 rfl rfl rfl rfl rfl rfl ?_) | refine op (e_store 5 rfl rfl ts_46 rfl rfl rfl rfl rfl rfl ?_) | refine op (e_store 6 rfl rfl ts_46 rfl rfl rfl rfl rfl rfl ?_) | refine op (e_store 7 rfl rfl ts_46 rfl rfl rfl rfl rfl rfl ?_) | refine op (e_store 8 rfl rfl ts_46 rfl rfl rfl rfl rfl rfl ?_) | refine op (e_store 9 rfl rfl ts_46 rfl rfl rfl rfl rfl rfl ?_)
  refine nil ?_
  refine n_then ?_
  refine ret ?_
  exact done rfl (Res.cellN ag_46 rfl rfl (CellsAt.own 1 0 1 _ rfl rfl) (.nil)) (hle6) (R9 :: L) (subF (by (repeat (first | exact List.Sublist.refl _ | apply List.Sublist.cons_cons | apply List.Sublist.cons)); done)) (⟨A9, cap9, R9, rfl, hO9x, rfl⟩)

theorem OfI_o (l : List Int) (A : Option Addr) (cap : Nat) (ro : Ro) (L : List (List Blk)) (hl : Src ro L.flatten 1 A l.length (l.flatMap encInt)) (hn : l.length ≤ 1000000) :
    CT Tryz.prog 22 [.slice A l.length cap].toArray ro L (PLO 3 1 encInt l L) := by
  refine enter Tryz.func22 rfl Tryz.ntmps22 rfl ?_
  refine seq ?_
  refine region ?_
  refine op (e_alloc rfl zc_46 rfl fun b2 => ?_)
  refine nil ?_
  refine n_then ?_
  refine seq ?_
  refine region ?_
  refine op (y (x_move rfl) rfl ?_)
  refine op (y (x_lenSl sz_26 rfl) rfl ?_)
  refine op (e_make rfl st_26 rfl rfl (by omega) (by omega) (by omega) (by omega) fun b5 R5 xs5 hO5 hR5 => ?_)
  obtain rfl : xs5 = [] := List.eq_nil_of_length_eq_zero (by simpa using hO5.1)
  refine op (y (x_move rfl) rfl ?_)
  refine op (e_append 0 rfl st_26 rfl rfl rfl hO5 (src_more hl) (int_ok _) (by omega) (by omega) (fun _ => rfl) fun A9 cap9 R9 hO9 => ?_)
  refine said 7 (.slice A9 l.length cap9) rfl (by simp) ?_
  refine op (y (x_build bu_46 rfl rfl) rfl ?_)
  first | refine op (e_store 0 rfl rfl ts_46 rfl rfl rfl rfl rfl rfl ?_) | refine op (e_store 1 rfl rfl ts_46 rfl rfl rfl rfl rfl rfl ?_) | refine op (e_store 2 rfl rfl ts_46 rfl rfl rfl rfl rfl rfl ?_) | refine op (e_store 3 rfl rfl ts_46 rfl rfl rfl rfl rfl rfl ?_) | refine op (e_store 4 rfl rfl ts_46 rfl rfl rfl rfl rfl rfl ?_) | refine op (e_store 5 rfl rfl ts_46 rfl rfl rfl rfl rfl rfl ?_) | refine op (e_store 6 rfl rfl ts_46 rfl rfl rfl rfl rfl rfl ?_) | refine op (e_store 7 rfl rfl ts_46 rfl rfl rfl rfl rfl rfl ?_) | refine op (e_store 8 rfl rfl ts_46 rfl rfl rfl rfl rfl rfl ?_) | refine op (e_store 9 rfl rfl ts_46 rfl rfl rfl rfl rfl rfl ?_)
  refine nil ?_
  refine n_then ?_
  refine ret ?_
  exact done rfl (Res.cellN ag_46 rfl rfl (CellsAt.own 1 0 1 _ rfl rfl) (.nil)) (Ro.le.refl _) (R9 :: L) (subF (by (repeat (first | exact List.Sublist.refl _ | apply List.Sublist.cons_cons | apply List.Sublist.cons)); done)) (⟨A9, cap9, R9, rfl, by simpa using hO9, rfl⟩)

theorem AllW_o (l : List ByteArray) (A : Option Addr) (cap : Nat) (ro : Ro) (L : List (List Blk)) (hl : Sl ro 1 encW A cap l) (hn : l.length ≤ 1000000) :
    CT Tryz.prog 31 [.agg [.slice A l.length cap].toArray].toArray ro L (PO 9 1 encW l L) := by
  refine enter Tryz.func31 rfl Tryz.ntmps31 rfl ?_
  refine seq ?_
  refine region ?_
  refine op (e_box rfl rfl rfl fun b1 => ?_)
  refine op (y (x_assign rfl) rfl ?_)
  refine nil ?_
  refine n_then ?_
  refine seq ?_
  refine drawL (by kernel_rfl) ?_
  refine d_take 0 rfl (by kernel_rfl) (by kernel_rfl) (by kernel_rfl) (fun _ _ _ h => h) rfl (.inl rfl) (x_fieldAddr fo_56_0 rfl) (fun w hi => by first | exact hi.j | exact J.of_le (Ro.le.refl _) (fun x hx => List.mem_append_right _ hx) hi | exact J.of_le (Ro.le.refl _) (fun x hx => List.mem_append_right _ (List.mem_append_right _ hx)) hi | exact J.of_le (Ro.le.refl _) (fun x hx => absurd hx (by simp)) hi | exact J.of_le (by assumption) (fun x hx => absurd hx (by simp)) hi) ?_
  refine d_take 1 rfl (by kernel_rfl) (by kernel_rfl) (by kernel_rfl) (fun _ _ _ h => h) rfl (.inl rfl) (x_load1 ag_54 rfl (by first | assumption | exact Cell.own 0 rfl rfl | exact Cell.own 1 rfl rfl | exact Cell.own 2 rfl rfl | exact Cell.own 3 rfl rfl | exact Cell.own 4 rfl rfl | exact Cell.own 5 rfl rfl | exact Cell.own 6 rfl rfl | exact Cell.own 7 rfl rfl | exact Cell.own 8 rfl rfl | exact Cell.own 9 rfl rfl | exact Cell.ofRo (by assumption))) (fun w hi => by first | exact hi.j | exact J.of_le (Ro.le.refl _) (fun x hx => List.mem_append_right _ hx) hi | exact J.of_le (Ro.le.refl _) (fun x hx => List.mem_append_right _ (List.mem_append_right _ hx)) hi | exact J.of_le (Ro.le.refl _) (fun x hx => absurd hx (by simp)) hi | exact J.of_le (by assumption) (fun x hx => absurd hx (by simp)) hi) ?_
  refine d_take 2 rfl (by kernel_rfl) (by kernel_rfl) (by kernel_rfl) (fun _ _ _ h => h) rfl (.inl rfl) (x_lenSl sz_54 rfl) (fun w hi => by first | exact hi.j | exact J.of_le (Ro.le.refl _) (fun x hx => List.mem_append_right _ hx) hi | exact J.of_le (Ro.le.refl _) (fun x hx => List.mem_append_right _ (List.mem_append_right _ hx)) hi | exact J.of_le (Ro.le.refl _) (fun x hx => absurd hx (by simp)) hi | exact J.of_le (by assumption) (fun x hx => absurd hx (by simp)) hi) ?_
  refine d_take 4 rfl (by kernel_rfl) (by kernel_rfl) (by kernel_rfl) (fun _ _ _ h => h) rfl (.inl rfl) (x_fieldAddr fo_56_0 rfl) (fun w hi => by first | exact hi.j | exact J.of_le (Ro.le.refl _) (fun x hx => List.mem_append_right _ hx) hi | exact J.of_le (Ro.le.refl _) (fun x hx => List.mem_append_right _ (List.mem_append_right _ hx)) hi | exact J.of_le (Ro.le.refl _) (fun x hx => absurd hx (by simp)) hi | exact J.of_le (by assumption) (fun x hx => absurd hx (by simp)) hi) ?_
  refine d_take 5 rfl (by kernel_rfl) (by kernel_rfl) (by kernel_rfl) (fun _ _ _ h => h) rfl (.inl rfl) (x_load1 ag_54 rfl (by first | assumption | exact Cell.own 0 rfl rfl | exact Cell.own 1 rfl rfl | exact Cell.own 2 rfl rfl | exact Cell.own 3 rfl rfl | exact Cell.own 4 rfl rfl | exact Cell.own 5 rfl rfl | exact Cell.own 6 rfl rfl | exact Cell.own 7 rfl rfl | exact Cell.own 8 rfl rfl | exact Cell.own 9 rfl rfl | exact Cell.ofRo (by assumption))) (fun w hi => by first | exact hi.j | exact J.of_le (Ro.le.refl _) (fun x hx => List.mem_append_right _ hx) hi | exact J.of_le (Ro.le.refl _) (fun x hx => List.mem_append_right _ (List.mem_append_right _ hx)) hi | exact J.of_le (Ro.le.refl _) (fun x hx => absurd hx (by simp)) hi | exact J.of_le (by assumption) (fun x hx => absurd hx (by simp)) hi) ?_
  refine d_one 3 rfl (by kernel_rfl) (.inl rfl) (e_make rfl st_54 rfl rfl (by omega) (by omega) (by omega) (by omega) fun b6 R6 xs6 hO6 hR6 => ?_)
  obtain rfl : xs6 = [] := List.eq_nil_of_length_eq_zero (by simpa using hO6.1)
  refine d_next (fun w hi => by first | exact hi.j | exact J.of_le (Ro.le.refl _) (fun x hx => List.mem_append_right _ hx) hi | exact J.of_le (Ro.le.refl _) (fun x hx => List.mem_append_right _ (List.mem_append_right _ hx)) hi | exact J.of_le (Ro.le.refl _) (fun x hx => absurd hx (by simp)) hi | exact J.of_le (by assumption) (fun x hx => absurd hx (by simp)) hi) ?_
  refine d_one 6 rfl (by kernel_rfl) (.inl rfl) (e_append 0 rfl st_54 rfl rfl rfl hO6 (Sl.src hl (by decide)) (ok_w _) (by omega) (by omega) (fun _ => rfl) fun A9 cap9 R9 hO9 => ?_)
  refine said 9 (.slice A9 l.length cap9) rfl (by simp) ?_
  refine d_next (fun w hi => by first | exact hi.j | exact J.of_le (Ro.le.refl _) (fun x hx => List.mem_append_right _ hx) hi | exact J.of_le (Ro.le.refl _) (fun x hx => List.mem_append_right _ (List.mem_append_right _ hx)) hi | exact J.of_le (Ro.le.refl _) (fun x hx => absurd hx (by simp)) hi | exact J.of_le (by assumption) (fun x hx => absurd hx (by simp)) hi) ?_
  refine d_take 7 rfl (by kernel_rfl) (by kernel_rfl) (by kernel_rfl) (fun _ _ _ h => h) rfl (.inl rfl) (x_assign rfl) (fun w hi => by first | exact hi.j | exact J.of_le (Ro.le.refl _) (fun x hx => List.mem_append_right _ hx) hi | exact J.of_le (Ro.le.refl _) (fun x hx => List.mem_append_right _ (List.mem_append_right _ hx)) hi | exact J.of_le (Ro.le.refl _) (fun x hx => absurd hx (by simp)) hi | exact J.of_le (by assumption) (fun x hx => absurd hx (by simp)) hi) ?_
  refine d_end (by kernel_rfl) ?_
  refine n_then ?_
  refine ret ?_
  exact done rfl (.tmp rfl (.nil)) (Ro.le.refl _) (R9 :: L) (subF (by (repeat (first | exact List.Sublist.refl _ | apply List.Sublist.cons_cons | apply List.Sublist.cons)); done)) (⟨A9, cap9, R9, rfl, by simpa using hO9, rfl⟩)

theorem LenW_c (l : List ByteArray) (A : Option Addr) (cap : Nat) (ro : Ro) (L : List (List Blk)) (hl : Sl ro 1 encW A cap l) :
    CT Tryz.prog 29 [.agg [.slice A l.length cap].toArray].toArray ro L (PQ (.int .i64 (l.length : Nat)) ro L) := by
  refine enter Tryz.func29 rfl Tryz.ntmps29 rfl ?_
  refine seq ?_
  refine region ?_
  refine op (e_box rfl rfl rfl fun b1 => ?_)
  refine op (y (x_assign rfl) rfl ?_)
  refine nil ?_
  refine n_then ?_
  refine seq ?_
  refine region ?_
  refine op (y (x_fieldAddr fo_56_0 rfl) rfl ?_)
  refine op (y (x_load1 ag_54 rfl (by first | assumption | exact Cell.own 0 rfl rfl | exact Cell.own 1 rfl rfl | exact Cell.own 2 rfl rfl | exact Cell.own 3 rfl rfl | exact Cell.own 4 rfl rfl | exact Cell.own 5 rfl rfl | exact Cell.own 6 rfl rfl | exact Cell.own 7 rfl rfl | exact Cell.own 8 rfl rfl | exact Cell.own 9 rfl rfl | exact Cell.ofRo (by assumption))) rfl ?_)
  refine op (y (x_lenSl sz_54 rfl) rfl ?_)
  refine op (y (x_assign rfl) rfl ?_)
  refine nil ?_
  refine n_then ?_
  refine ret ?_
  exact done rfl (.tmp rfl (.nil)) (Ro.le.refl _) (L) (subF (by (repeat (first | exact List.Sublist.refl _ | apply List.Sublist.cons_cons | apply List.Sublist.cons)); done)) (⟨rfl, rfl, rfl⟩)

theorem AndW_o (l : List ByteArray) (A : Option Addr) (cap : Nat) (ro : Ro) (L : List (List Blk)) (hl : Sl ro 1 encW A cap l) (hn : l.length ≤ 1000000) (x : ByteArray) :
    CT Tryz.prog 30 [.agg [.slice A l.length cap].toArray, .string x].toArray ro L (PLO 9 1 encW (l ++ [x]) L) := by
  refine enter Tryz.func30 rfl Tryz.ntmps30 rfl ?_
  refine seq ?_
  refine region ?_
  refine op (e_box rfl rfl rfl fun b2 => ?_)
  refine op (e_alloc rfl zc_56 rfl fun b4 => ?_)
  refine nil ?_
  refine n_then ?_
  refine seq ?_
  refine region ?_
  refine op (y ((by first | exact x_loadOwn 0 _ ag_56 rfl rfl rfl rfl | exact x_loadOwn 1 _ ag_56 rfl rfl rfl rfl | exact x_loadOwn 2 _ ag_56 rfl rfl rfl rfl | exact x_loadOwn 3 _ ag_56 rfl rfl rfl rfl | exact x_loadOwn 4 _ ag_56 rfl rfl rfl rfl | exact x_loadOwn 5 _ ag_56 rfl rfl rfl rfl | exact x_loadOwn 6 _ ag_56 rfl rfl rfl rfl | exact x_loadOwn 7 _ ag_56 rfl rfl rfl rfl | exact x_loadOwn 8 _ ag_56 rfl rfl rfl rfl | exact x_loadOwn 9 _ ag_56 rfl rfl rfl rfl | exact x_loadOwn 10 _ ag_56 rfl rfl rfl rfl | exact x_loadOwn 11 _ ag_56 rfl rfl rfl rfl)) rfl ?_)
  refine op (e_call rfl fn_31 rfl rfl (AllW_o l A cap _ _ hl hn) fun v6 ro6 L6 hle6 hp6 => ?_)
  obtain ⟨A6, c6, R6, rfl, hO6, rfl⟩ := hp6
  refine op (y (x_move rfl) rfl ?_)
  refine op (e_slice1 rfl Tryz.underlying54 ti_9 rfl rfl (by decide) (by decide) rfl rfl rfl fun b8 => ?_)
  refine op (e_append1 0 rfl st_54 rfl rfl rfl hO6 rfl rfl (by omega) (by omega) (fun _ => rfl) fun A9 cap9 R9 hO9 => ?_)
  have hO9x := (hO9.snoc (enc := encW) (x := x)).cast (m' := (l ++ [x]).length) (by simp) rfl
  refine said 9 (.slice A9 (l ++ [x]).length cap9) rfl (by simp) ?_
  refine op (y (x_build bu_56 rfl rfl) rfl ?_)
  first | refine op (e_store 0 rfl rfl ts_56 rfl rfl rfl rfl rfl rfl ?_) | refine op (e_store 1 rfl rfl ts_56 rfl rfl rfl rfl rfl rfl ?_) | refine op (e_store 2 rfl rfl ts_56 rfl rfl rfl rfl rfl rfl ?_) | refine op (e_store 3 rfl rfl ts_56 rfl rfl rfl rfl rfl rfl ?_) | refine op (e_store 4 rfl rfl ts_56 rfl rfl rfl rfl rfl rfl ?_) | refine op (e_store 5 rfl rfl ts_56 rfl rfl rfl rfl rfl rfl ?_) | refine op (e_store 6 rfl rfl ts_56 rfl rfl rfl rfl rfl rfl ?_) | refine op (e_store 7 rfl rfl ts_56 rfl rfl rfl rfl rfl rfl ?_) | refine op (e_store 8 rfl rfl ts_56 rfl rfl rfl rfl rfl rfl ?_) | refine op (e_store 9 rfl rfl ts_56 rfl rfl rfl rfl rfl rfl ?_)
  refine nil ?_
  refine n_then ?_
  refine ret ?_
  exact done rfl (Res.cellN ag_56 rfl rfl (CellsAt.own 1 0 1 _ rfl rfl) (.nil)) (hle6) (R9 :: L) (subF (by (repeat (first | exact List.Sublist.refl _ | apply List.Sublist.cons_cons | apply List.Sublist.cons)); done)) (⟨A9, cap9, R9, rfl, hO9x, rfl⟩)

theorem AllS_o (l : List Sn) (A : Option Addr) (cap : Nat) (ro : Ro) (L : List (List Blk)) (hl : Sl ro 4 encSn A cap l) (hn : l.length ≤ 1000000) :
    CT Tryz.prog 76 [.agg [.slice A l.length cap].toArray].toArray ro L (PO 29 4 encSn l L) := by
  refine enter Tryz.func76 rfl Tryz.ntmps76 rfl ?_
  refine seq ?_
  refine region ?_
  refine op (e_box rfl rfl rfl fun b1 => ?_)
  refine op (y (x_assign rfl) rfl ?_)
  refine nil ?_
  refine n_then ?_
  refine seq ?_
  refine drawL (by kernel_rfl) ?_
  refine d_take 0 rfl (by kernel_rfl) (by kernel_rfl) (by kernel_rfl) (fun _ _ _ h => h) rfl (.inl rfl) (x_fieldAddr fo_64_0 rfl) (fun w hi => by first | exact hi.j | exact J.of_le (Ro.le.refl _) (fun x hx => List.mem_append_right _ hx) hi | exact J.of_le (Ro.le.refl _) (fun x hx => List.mem_append_right _ (List.mem_append_right _ hx)) hi | exact J.of_le (Ro.le.refl _) (fun x hx => absurd hx (by simp)) hi | exact J.of_le (by assumption) (fun x hx => absurd hx (by simp)) hi) ?_
  refine d_take 1 rfl (by kernel_rfl) (by kernel_rfl) (by kernel_rfl) (fun _ _ _ h => h) rfl (.inl rfl) (x_load1 ag_62 rfl (by first | assumption | exact Cell.own 0 rfl rfl | exact Cell.own 1 rfl rfl | exact Cell.own 2 rfl rfl | exact Cell.own 3 rfl rfl | exact Cell.own 4 rfl rfl | exact Cell.own 5 rfl rfl | exact Cell.own 6 rfl rfl | exact Cell.own 7 rfl rfl | exact Cell.own 8 rfl rfl | exact Cell.own 9 rfl rfl | exact Cell.ofRo (by assumption))) (fun w hi => by first | exact hi.j | exact J.of_le (Ro.le.refl _) (fun x hx => List.mem_append_right _ hx) hi | exact J.of_le (Ro.le.refl _) (fun x hx => List.mem_append_right _ (List.mem_append_right _ hx)) hi | exact J.of_le (Ro.le.refl _) (fun x hx => absurd hx (by simp)) hi | exact J.of_le (by assumption) (fun x hx => absurd hx (by simp)) hi) ?_
  refine d_take 2 rfl (by kernel_rfl) (by kernel_rfl) (by kernel_rfl) (fun _ _ _ h => h) rfl (.inl rfl) (x_lenSl sz_62 rfl) (fun w hi => by first | exact hi.j | exact J.of_le (Ro.le.refl _) (fun x hx => List.mem_append_right _ hx) hi | exact J.of_le (Ro.le.refl _) (fun x hx => List.mem_append_right _ (List.mem_append_right _ hx)) hi | exact J.of_le (Ro.le.refl _) (fun x hx => absurd hx (by simp)) hi | exact J.of_le (by assumption) (fun x hx => absurd hx (by simp)) hi) ?_
  refine d_take 4 rfl (by kernel_rfl) (by kernel_rfl) (by kernel_rfl) (fun _ _ _ h => h) rfl (.inl rfl) (x_fieldAddr fo_64_0 rfl) (fun w hi => by first | exact hi.j | exact J.of_le (Ro.le.refl _) (fun x hx => List.mem_append_right _ hx) hi | exact J.of_le (Ro.le.refl _) (fun x hx => List.mem_append_right _ (List.mem_append_right _ hx)) hi | exact J.of_le (Ro.le.refl _) (fun x hx => absurd hx (by simp)) hi | exact J.of_le (by assumption) (fun x hx => absurd hx (by simp)) hi) ?_
  refine d_take 5 rfl (by kernel_rfl) (by kernel_rfl) (by kernel_rfl) (fun _ _ _ h => h) rfl (.inl rfl) (x_load1 ag_62 rfl (by first | assumption | exact Cell.own 0 rfl rfl | exact Cell.own 1 rfl rfl | exact Cell.own 2 rfl rfl | exact Cell.own 3 rfl rfl | exact Cell.own 4 rfl rfl | exact Cell.own 5 rfl rfl | exact Cell.own 6 rfl rfl | exact Cell.own 7 rfl rfl | exact Cell.own 8 rfl rfl | exact Cell.own 9 rfl rfl | exact Cell.ofRo (by assumption))) (fun w hi => by first | exact hi.j | exact J.of_le (Ro.le.refl _) (fun x hx => List.mem_append_right _ hx) hi | exact J.of_le (Ro.le.refl _) (fun x hx => List.mem_append_right _ (List.mem_append_right _ hx)) hi | exact J.of_le (Ro.le.refl _) (fun x hx => absurd hx (by simp)) hi | exact J.of_le (by assumption) (fun x hx => absurd hx (by simp)) hi) ?_
  refine d_one 3 rfl (by kernel_rfl) (.inl rfl) (e_make rfl st_62 rfl rfl (by omega) (by omega) (by omega) (by omega) fun b6 R6 xs6 hO6 hR6 => ?_)
  obtain rfl : xs6 = [] := List.eq_nil_of_length_eq_zero (by simpa using hO6.1)
  refine d_next (fun w hi => by first | exact hi.j | exact J.of_le (Ro.le.refl _) (fun x hx => List.mem_append_right _ hx) hi | exact J.of_le (Ro.le.refl _) (fun x hx => List.mem_append_right _ (List.mem_append_right _ hx)) hi | exact J.of_le (Ro.le.refl _) (fun x hx => absurd hx (by simp)) hi | exact J.of_le (by assumption) (fun x hx => absurd hx (by simp)) hi) ?_
  refine d_one 6 rfl (by kernel_rfl) (.inl rfl) (e_append 0 rfl st_62 rfl rfl rfl hO6 (Sl.src hl (by decide)) (ok_sn _) (by omega) (by omega) (fun _ => rfl) fun A9 cap9 R9 hO9 => ?_)
  refine said 9 (.slice A9 l.length cap9) rfl (by simp) ?_
  refine d_next (fun w hi => by first | exact hi.j | exact J.of_le (Ro.le.refl _) (fun x hx => List.mem_append_right _ hx) hi | exact J.of_le (Ro.le.refl _) (fun x hx => List.mem_append_right _ (List.mem_append_right _ hx)) hi | exact J.of_le (Ro.le.refl _) (fun x hx => absurd hx (by simp)) hi | exact J.of_le (by assumption) (fun x hx => absurd hx (by simp)) hi) ?_
  refine d_take 7 rfl (by kernel_rfl) (by kernel_rfl) (by kernel_rfl) (fun _ _ _ h => h) rfl (.inl rfl) (x_assign rfl) (fun w hi => by first | exact hi.j | exact J.of_le (Ro.le.refl _) (fun x hx => List.mem_append_right _ hx) hi | exact J.of_le (Ro.le.refl _) (fun x hx => List.mem_append_right _ (List.mem_append_right _ hx)) hi | exact J.of_le (Ro.le.refl _) (fun x hx => absurd hx (by simp)) hi | exact J.of_le (by assumption) (fun x hx => absurd hx (by simp)) hi) ?_
  refine d_end (by kernel_rfl) ?_
  refine n_then ?_
  refine ret ?_
  exact done rfl (.tmp rfl (.nil)) (Ro.le.refl _) (R9 :: L) (subF (by (repeat (first | exact List.Sublist.refl _ | apply List.Sublist.cons_cons | apply List.Sublist.cons)); done)) (⟨A9, cap9, R9, rfl, by simpa using hO9, rfl⟩)

theorem LenS_c (l : List Sn) (A : Option Addr) (cap : Nat) (ro : Ro) (L : List (List Blk)) (hl : Sl ro 4 encSn A cap l) :
    CT Tryz.prog 70 [.agg [.slice A l.length cap].toArray].toArray ro L (PQ (.int .i64 (l.length : Nat)) ro L) := by
  refine enter Tryz.func70 rfl Tryz.ntmps70 rfl ?_
  refine seq ?_
  refine region ?_
  refine op (e_box rfl rfl rfl fun b1 => ?_)
  refine op (y (x_assign rfl) rfl ?_)
  refine nil ?_
  refine n_then ?_
  refine seq ?_
  refine region ?_
  refine op (y (x_fieldAddr fo_64_0 rfl) rfl ?_)
  refine op (y (x_load1 ag_62 rfl (by first | assumption | exact Cell.own 0 rfl rfl | exact Cell.own 1 rfl rfl | exact Cell.own 2 rfl rfl | exact Cell.own 3 rfl rfl | exact Cell.own 4 rfl rfl | exact Cell.own 5 rfl rfl | exact Cell.own 6 rfl rfl | exact Cell.own 7 rfl rfl | exact Cell.own 8 rfl rfl | exact Cell.own 9 rfl rfl | exact Cell.ofRo (by assumption))) rfl ?_)
  refine op (y (x_lenSl sz_62 rfl) rfl ?_)
  refine op (y (x_assign rfl) rfl ?_)
  refine nil ?_
  refine n_then ?_
  refine ret ?_
  exact done rfl (.tmp rfl (.nil)) (Ro.le.refl _) (L) (subF (by (repeat (first | exact List.Sublist.refl _ | apply List.Sublist.cons_cons | apply List.Sublist.cons)); done)) (⟨rfl, rfl, rfl⟩)

theorem AndS_o (l : List Sn) (A : Option Addr) (cap : Nat) (ro : Ro) (L : List (List Blk)) (hl : Sl ro 4 encSn A cap l) (hn : l.length ≤ 1000000) (x : Sn) :
    CT Tryz.prog 65 [.agg [.slice A l.length cap].toArray, .agg (encSn x).toArray].toArray ro L (PLO 29 4 encSn (l ++ [x]) L) := by
  refine enter Tryz.func65 rfl Tryz.ntmps65 rfl ?_
  refine seq ?_
  refine region ?_
  refine op (e_box rfl rfl rfl fun b2 => ?_)
  refine op (e_box rfl rfl rfl fun b3 => ?_)
  refine op (e_alloc rfl zc_64 rfl fun b4 => ?_)
  refine nil ?_
  refine n_then ?_
  refine seq ?_
  refine draw (List.flatten [[(b3, Obj.cells (encSn x).toArray 29 (0, 0))], [(b2, Obj.cells [Value.slice A l.length cap].toArray 64 (0, 0))]]) (by kernel_rfl) ?_
  refine d_take 0 rfl (by kernel_rfl) (by kernel_rfl) (by kernel_rfl) (fun _ _ _ h => h) rfl (.inl rfl) ((by first | exact x_loadOwn 0 _ ag_64 rfl rfl rfl rfl | exact x_loadOwn 1 _ ag_64 rfl rfl rfl rfl | exact x_loadOwn 2 _ ag_64 rfl rfl rfl rfl | exact x_loadOwn 3 _ ag_64 rfl rfl rfl rfl | exact x_loadOwn 4 _ ag_64 rfl rfl rfl rfl | exact x_loadOwn 5 _ ag_64 rfl rfl rfl rfl | exact x_loadOwn 6 _ ag_64 rfl rfl rfl rfl | exact x_loadOwn 7 _ ag_64 rfl rfl rfl rfl | exact x_loadOwn 8 _ ag_64 rfl rfl rfl rfl | exact x_loadOwn 9 _ ag_64 rfl rfl rfl rfl | exact x_loadOwn 10 _ ag_64 rfl rfl rfl rfl | exact x_loadOwn 11 _ ag_64 rfl rfl rfl rfl)) (fun w hi => J.of_le (by first | exact Ro.le.refl _ | exact hle6) (fun y hy => by simp only [List.flatten_cons, List.flatten_nil, List.append_nil, List.mem_append, List.mem_singleton] at hy ⊢; grind) hi) ?_
  refine d_take 2 rfl (by kernel_rfl) (by kernel_rfl) (by kernel_rfl) (fun _ _ _ h => h) rfl (.inl rfl) ((by first | exact x_loadOwn 0 _ ag_29 rfl rfl rfl rfl | exact x_loadOwn 1 _ ag_29 rfl rfl rfl rfl | exact x_loadOwn 2 _ ag_29 rfl rfl rfl rfl | exact x_loadOwn 3 _ ag_29 rfl rfl rfl rfl | exact x_loadOwn 4 _ ag_29 rfl rfl rfl rfl | exact x_loadOwn 5 _ ag_29 rfl rfl rfl rfl | exact x_loadOwn 6 _ ag_29 rfl rfl rfl rfl | exact x_loadOwn 7 _ ag_29 rfl rfl rfl rfl | exact x_loadOwn 8 _ ag_29 rfl rfl rfl rfl | exact x_loadOwn 9 _ ag_29 rfl rfl rfl rfl | exact x_loadOwn 10 _ ag_29 rfl rfl rfl rfl | exact x_loadOwn 11 _ ag_29 rfl rfl rfl rfl)) (fun w hi => J.of_le (by first | exact Ro.le.refl _ | exact hle6) (fun y hy => by simp only [List.flatten_cons, List.flatten_nil, List.append_nil, List.mem_append, List.mem_singleton] at hy ⊢; grind) hi) ?_
  refine d_two 1 3 (by kernel_rfl) ?_ ?_
  · skip
    refine d_the rfl (.inl rfl) (e_call rfl fn_76 rfl rfl (AllS_o l A cap _ _ hl hn) fun v6 ro6 L6 hle6 hp6 => ?_)
    obtain ⟨A6, c6, R6, rfl, hO6, rfl⟩ := hp6
    refine d_next (fun w hi => J.of_le (by first | exact Ro.le.refl _ | exact hle6) (fun y hy => by simp only [List.flatten_cons, List.flatten_nil, List.append_nil, List.mem_append, List.mem_singleton] at hy ⊢; grind) hi) ?_
    refine d_one 3 rfl (by kernel_rfl) (.inl rfl) (e_slice1 rfl Tryz.underlying62 ti_29 rfl rfl (by decide) (by decide) rfl rfl rfl fun b8 => ?_)
    refine d_next (fun w hi => J.of_le (by first | exact Ro.le.refl _ | exact hle6) (fun y hy => by simp only [List.flatten_cons, List.flatten_nil, List.append_nil, List.mem_append, List.mem_singleton] at hy ⊢; grind) hi) ?_
    try refine swap0 (R := R6) (S := [(b8, _)]) ?_
    refine d_one 4 rfl (by kernel_rfl) (.inl rfl) (e_append1 0 rfl st_62 rfl rfl rfl hO6 rfl rfl (by omega) (by omega) (fun _ => rfl) fun A9 cap9 R9 hO9 => ?_)
    have hO9x := (hO9.snoc (enc := encSn) (x := x)).cast (m' := (l ++ [x]).length) (by simp) rfl
    refine said 9 (.slice A9 (l ++ [x]).length cap9) rfl (by simp) ?_
    refine d_next (fun w hi => J.of_le (by first | exact Ro.le.refl _ | exact hle6) (fun y hy => by simp only [List.flatten_cons, List.flatten_nil, List.append_nil, List.mem_append, List.mem_singleton] at hy ⊢; grind) hi) ?_
    refine d_take 5 rfl (by kernel_rfl) (by kernel_rfl) (by kernel_rfl) (fun _ _ _ h => h) rfl (.inl rfl) (x_build bu_64 rfl rfl) (fun w hi => J.of_le (by first | exact Ro.le.refl _ | exact hle6) (fun y hy => by simp only [List.flatten_cons, List.flatten_nil, List.append_nil, List.mem_append, List.mem_singleton] at hy ⊢; grind) hi) ?_
    first | refine d_one 6 rfl (by kernel_rfl) (.inl rfl) (e_store 0 rfl rfl ts_64 rfl rfl rfl rfl rfl rfl ?_) | refine d_one 6 rfl (by kernel_rfl) (.inl rfl) (e_store 1 rfl rfl ts_64 rfl rfl rfl rfl rfl rfl ?_) | refine d_one 6 rfl (by kernel_rfl) (.inl rfl) (e_store 2 rfl rfl ts_64 rfl rfl rfl rfl rfl rfl ?_) | refine d_one 6 rfl (by kernel_rfl) (.inl rfl) (e_store 3 rfl rfl ts_64 rfl rfl rfl rfl rfl rfl ?_) | refine d_one 6 rfl (by kernel_rfl) (.inl rfl) (e_store 4 rfl rfl ts_64 rfl rfl rfl rfl rfl rfl ?_) | refine d_one 6 rfl (by kernel_rfl) (.inl rfl) (e_store 5 rfl rfl ts_64 rfl rfl rfl rfl rfl rfl ?_) | refine d_one 6 rfl (by kernel_rfl) (.inl rfl) (e_store 6 rfl rfl ts_64 rfl rfl rfl rfl rfl rfl ?_) | refine d_one 6 rfl (by kernel_rfl) (.inl rfl) (e_store 7 rfl rfl ts_64 rfl rfl rfl rfl rfl rfl ?_) | refine d_one 6 rfl (by kernel_rfl) (.inl rfl) (e_store 8 rfl rfl ts_64 rfl rfl rfl rfl rfl rfl ?_) | refine d_one 6 rfl (by kernel_rfl) (.inl rfl) (e_store 9 rfl rfl ts_64 rfl rfl rfl rfl rfl rfl ?_)
    refine d_next (fun w hi => J.of_le (by first | exact Ro.le.refl _ | exact hle6) (fun y hy => by simp only [List.flatten_cons, List.flatten_nil, List.append_nil, List.mem_append, List.mem_singleton] at hy ⊢; grind) hi) ?_
    refine d_end (by kernel_rfl) ?_
    refine n_then ?_
    refine ret ?_
    exact done rfl (Res.cellN ag_64 rfl rfl (CellsAt.own 1 0 1 _ rfl rfl) (.nil)) (hle6) (R9 :: L) (subF (by (repeat (first | exact List.Sublist.refl _ | apply List.Sublist.cons_cons | apply List.Sublist.cons)); done)) (⟨A9, cap9, R9, rfl, hO9x, rfl⟩)
  · skip
    refine d_the rfl (.inl rfl) (e_slice1 rfl Tryz.underlying62 ti_29 rfl rfl (by decide) (by decide) rfl rfl rfl fun b8 => ?_)
    refine d_next (fun w hi => J.of_le (by first | exact Ro.le.refl _ | exact hle6) (fun y hy => by simp only [List.flatten_cons, List.flatten_nil, List.append_nil, List.mem_append, List.mem_singleton] at hy ⊢; grind) hi) ?_
    refine d_one 1 rfl (by kernel_rfl) (.inl rfl) (e_call rfl fn_76 rfl rfl (AllS_o l A cap _ _ hl hn) fun v6 ro6 L6 hle6 hp6 => ?_)
    obtain ⟨A6, c6, R6, rfl, hO6, rfl⟩ := hp6
    refine d_next (fun w hi => J.of_le (by first | exact Ro.le.refl _ | exact hle6) (fun y hy => by simp only [List.flatten_cons, List.flatten_nil, List.append_nil, List.mem_append, List.mem_singleton] at hy ⊢; grind) hi) ?_
    try refine swap0 (R := R6) (S := [(b8, _)]) ?_
    refine d_one 4 rfl (by kernel_rfl) (.inl rfl) (e_append1 0 rfl st_62 rfl rfl rfl hO6 rfl rfl (by omega) (by omega) (fun _ => rfl) fun A9 cap9 R9 hO9 => ?_)
    have hO9x := (hO9.snoc (enc := encSn) (x := x)).cast (m' := (l ++ [x]).length) (by simp) rfl
    refine said 9 (.slice A9 (l ++ [x]).length cap9) rfl (by simp) ?_
    refine d_next (fun w hi => J.of_le (by first | exact Ro.le.refl _ | exact hle6) (fun y hy => by simp only [List.flatten_cons, List.flatten_nil, List.append_nil, List.mem_append, List.mem_singleton] at hy ⊢; grind) hi) ?_
    refine d_take 5 rfl (by kernel_rfl) (by kernel_rfl) (by kernel_rfl) (fun _ _ _ h => h) rfl (.inl rfl) (x_build bu_64 rfl rfl) (fun w hi => J.of_le (by first | exact Ro.le.refl _ | exact hle6) (fun y hy => by simp only [List.flatten_cons, List.flatten_nil, List.append_nil, List.mem_append, List.mem_singleton] at hy ⊢; grind) hi) ?_
    first | refine d_one 6 rfl (by kernel_rfl) (.inl rfl) (e_store 0 rfl rfl ts_64 rfl rfl rfl rfl rfl rfl ?_) | refine d_one 6 rfl (by kernel_rfl) (.inl rfl) (e_store 1 rfl rfl ts_64 rfl rfl rfl rfl rfl rfl ?_) | refine d_one 6 rfl (by kernel_rfl) (.inl rfl) (e_store 2 rfl rfl ts_64 rfl rfl rfl rfl rfl rfl ?_) | refine d_one 6 rfl (by kernel_rfl) (.inl rfl) (e_store 3 rfl rfl ts_64 rfl rfl rfl rfl rfl rfl ?_) | refine d_one 6 rfl (by kernel_rfl) (.inl rfl) (e_store 4 rfl rfl ts_64 rfl rfl rfl rfl rfl rfl ?_) | refine d_one 6 rfl (by kernel_rfl) (.inl rfl) (e_store 5 rfl rfl ts_64 rfl rfl rfl rfl rfl rfl ?_) | refine d_one 6 rfl (by kernel_rfl) (.inl rfl) (e_store 6 rfl rfl ts_64 rfl rfl rfl rfl rfl rfl ?_) | refine d_one 6 rfl (by kernel_rfl) (.inl rfl) (e_store 7 rfl rfl ts_64 rfl rfl rfl rfl rfl rfl ?_) | refine d_one 6 rfl (by kernel_rfl) (.inl rfl) (e_store 8 rfl rfl ts_64 rfl rfl rfl rfl rfl rfl ?_) | refine d_one 6 rfl (by kernel_rfl) (.inl rfl) (e_store 9 rfl rfl ts_64 rfl rfl rfl rfl rfl rfl ?_)
    refine d_next (fun w hi => J.of_le (by first | exact Ro.le.refl _ | exact hle6) (fun y hy => by simp only [List.flatten_cons, List.flatten_nil, List.append_nil, List.mem_append, List.mem_singleton] at hy ⊢; grind) hi) ?_
    refine d_end (by kernel_rfl) ?_
    refine n_then ?_
    refine ret ?_
    exact done rfl (Res.cellN ag_64 rfl rfl (CellsAt.own 1 0 1 _ rfl rfl) (.nil)) (hle6) (R9 :: L) (subF (by (repeat (first | exact List.Sublist.refl _ | apply List.Sublist.cons_cons | apply List.Sublist.cons)); done)) (⟨A9, cap9, R9, rfl, hO9x, rfl⟩)

theorem OfS_o (l : List Sn) (A : Option Addr) (cap : Nat) (ro : Ro) (L : List (List Blk)) (hl : Src ro L.flatten 4 A l.length (l.flatMap encSn)) (hn : l.length ≤ 1000000) :
    CT Tryz.prog 106 [.slice A l.length cap].toArray ro L (PLO 29 4 encSn l L) := by
  refine enter Tryz.func106 rfl Tryz.ntmps106 rfl ?_
  refine seq ?_
  refine region ?_
  refine op (e_alloc rfl zc_64 rfl fun b2 => ?_)
  refine nil ?_
  refine n_then ?_
  refine seq ?_
  refine region ?_
  refine op (y (x_move rfl) rfl ?_)
  refine op (y (x_lenSl sz_62 rfl) rfl ?_)
  refine op (e_make rfl st_62 rfl rfl (by omega) (by omega) (by omega) (by omega) fun b5 R5 xs5 hO5 hR5 => ?_)
  obtain rfl : xs5 = [] := List.eq_nil_of_length_eq_zero (by simpa using hO5.1)
  refine op (y (x_move rfl) rfl ?_)
  refine op (e_append 0 rfl st_62 rfl rfl rfl hO5 (src_more hl) (ok_sn _) (by omega) (by omega) (fun _ => rfl) fun A9 cap9 R9 hO9 => ?_)
  refine said 7 (.slice A9 l.length cap9) rfl (by simp) ?_
  refine op (y (x_build bu_64 rfl rfl) rfl ?_)
  first | refine op (e_store 0 rfl rfl ts_64 rfl rfl rfl rfl rfl rfl ?_) | refine op (e_store 1 rfl rfl ts_64 rfl rfl rfl rfl rfl rfl ?_) | refine op (e_store 2 rfl rfl ts_64 rfl rfl rfl rfl rfl rfl ?_) | refine op (e_store 3 rfl rfl ts_64 rfl rfl rfl rfl rfl rfl ?_) | refine op (e_store 4 rfl rfl ts_64 rfl rfl rfl rfl rfl rfl ?_) | refine op (e_store 5 rfl rfl ts_64 rfl rfl rfl rfl rfl rfl ?_) | refine op (e_store 6 rfl rfl ts_64 rfl rfl rfl rfl rfl rfl ?_) | refine op (e_store 7 rfl rfl ts_64 rfl rfl rfl rfl rfl rfl ?_) | refine op (e_store 8 rfl rfl ts_64 rfl rfl rfl rfl rfl rfl ?_) | refine op (e_store 9 rfl rfl ts_64 rfl rfl rfl rfl rfl rfl ?_)
  refine nil ?_
  refine n_then ?_
  refine ret ?_
  exact done rfl (Res.cellN ag_64 rfl rfl (CellsAt.own 1 0 1 _ rfl rfl) (.nil)) (Ro.le.refl _) (R9 :: L) (subF (by (repeat (first | exact List.Sublist.refl _ | apply List.Sublist.cons_cons | apply List.Sublist.cons)); done)) (⟨A9, cap9, R9, rfl, by simpa using hO9, rfl⟩)

end Go.Proofs.YtgkngljojfkkfaaGreatDoor
