/- The walks of histories that are copied, cut, filtered. -/
import Derived.Test.YtijafcilfefafaaDoorV1
namespace Go.Proofs.YtijafcilfefafaaDoor
open Go Go.U
set_option maxRecDepth 20000
set_option linter.unusedSimpArgs false
set_option linter.unusedVariables false

theorem subl_flatten {L L' : List (List Blk)} (h : L'.Sublist L) : L'.flatten.Sublist L.flatten := by
  induction h with
  | slnil => exact List.Sublist.refl _
  | cons a _ ih => exact ih.trans (List.sublist_append_right _ _)
  | cons_cons a _ ih => exact (List.Sublist.refl _).append ih
theorem subF {L L' : List (List Blk)} (h : L'.Sublist L) : ∃ M, M.Perm L.flatten ∧ L'.flatten.Sublist M := ⟨_, .refl _, subl_flatten h⟩
theorem Sl.src {α : Type} {ro : Ro} {Kb : List Blk} {k : Nat} {enc : α → List Value} {A : Option Addr} {cap : Nat} {l : List α} (h : Sl ro k enc A cap l) : Src ro Kb k A l.length (l.flatMap enc) := by
  have key : ∀ l : List α, (∀ x ∈ l, (enc x).length = k) → (l.flatMap enc).length = l.length * k ∧ ∀ (j : Nat) (v : Value), (l.flatMap enc)[j]? = some v → ∃ (i : Nat) (x : α) (q : Nat), l[i]? = some x ∧ (enc x)[q]? = some v ∧ j = i * k + q := by
    intro l
    induction l with
    | nil => intro _; exact ⟨by simp, fun j v h => by simp at h⟩
    | cons a l ih =>
      intro hl
      obtain ⟨h1, h2⟩ := ih (fun x hx => hl x (by simp [hx]))
      have ha := hl a (by simp)
      refine ⟨by rw [List.flatMap_cons, List.length_append, h1, ha, List.length_cons, Nat.add_mul]; omega, fun j v hj => ?_⟩
      rw [List.flatMap_cons, List.getElem?_append] at hj
      split at hj
      · exact ⟨0, a, j, rfl, hj, by omega⟩
      · rename_i hge
        obtain ⟨i, x, q, e1, e2, e3⟩ := h2 _ v hj
        refine ⟨i + 1, x, q, by simpa using e1, e2, ?_⟩
        rw [Nat.add_mul]; omega
  obtain ⟨h1, h2⟩ := key l h.2.2.1
  refine ⟨h1, fun hm => ?_⟩
  obtain ⟨b, off, rfl, hc⟩ := h.2.2.2 (fun e => by subst e; simp at hm)
  refine ⟨b, off, rfl, fun j v hj => Cell.ofRo ?_⟩
  obtain ⟨i, x, q, e1, e2, rfl⟩ := h2 j v hj
  have := hc i x e1 q v e2
  rw [Nat.add_assoc] at this
  exact this
/-- a history, in memory that stays -/
structure SH (ro : Ro) (A : Option Addr) (cA : Nat) (B : Option Addr) (cB : Nat) (h : Hi) : Prop where
  o : Sl ro 2 encOb A cA h.os
  e : Sl ro 8 encEv B cB h.es
theorem SH.mono {ro ro' : Ro} {A : Option Addr} {cA : Nat} {B : Option Addr} {cB : Nat} {h : Hi} (hs : SH ro A cA B cB h) (hle : ro.le ro') : SH ro' A cA B cB h := ⟨hs.o.mono hle, hs.e.mono hle⟩
/-- a history comes back, in memory of one's own -/
def PHo (h : Hi) (L : List (List Blk)) : Value → Ro → List (List Blk) → Prop := fun v _ L' => ∃ A cA B cB R1 R2, v = .agg [.slice A h.os.length cA, .slice B h.es.length cB].toArray ∧ OwnS 31 2 A h.os.length cA (h.os.flatMap encOb) R1 ∧ OwnS 34 8 B h.es.length cB (h.es.flatMap encEv) R2 ∧ L' = R1 :: R2 :: L
/-- a history comes back -/
def PH (h : Hi) (L : List (List Blk)) : Value → Ro → List (List Blk) → Prop := fun v ro' L' => ∃ A cA B cB, v = .agg [.slice A h.os.length cA, .slice B h.es.length cB].toArray ∧ SH ro' A cA B cB h ∧ L = L'
theorem PHo.frozen {P : Program} {f : FuncId} {args : Array Value} {ro : Ro} {L : List (List Blk)} {hh : Hi} (h : CT P f args ro L (PHo hh L)) : CT P f args ro L (PH hh L) := by
  have h1 := h.freeze (Post' := fun v ro' L' => ∃ A cA B cB R2, v = .agg [.slice A hh.os.length cA, .slice B hh.es.length cB].toArray ∧ Sl ro' 2 encOb A cA hh.os ∧ OwnS 34 8 B hh.es.length cB (hh.es.flatMap encEv) R2 ∧ L' = R2 :: L) fun v ro1 L1 hle hp => by
    obtain ⟨A, cA, B, cB, R1, R2, rfl, h1, h2, rfl⟩ := hp
    exact ⟨R1, R2 :: L, rfl, fun ro2 _ hR => ⟨A, cA, B, cB, R2, rfl, h1.sl enc_ob hR, h2, rfl⟩⟩
  exact h1.freeze fun v ro1 L1 hle hp => by
    obtain ⟨A, cA, B, cB, R2, rfl, h1, h2, rfl⟩ := hp
    exact ⟨R2, L, rfl, fun ro2 hle2 hR => ⟨A, cA, B, cB, rfl, ⟨h1.mono hle2, h2.sl enc_ev hR⟩, rfl⟩⟩
/-- a history's value -/
def hv (A : Option Addr) (cA : Nat) (B : Option Addr) (cB : Nat) (h : Hi) : Value := .agg [.slice A h.os.length cA, .slice B h.es.length cB].toArray

theorem Clone_o (h : Hi) (A : Option Addr) (cA : Nat) (B : Option Addr) (cB : Nat) (ro : Ro) (L : List (List Blk)) (hh : SH ro A cA B cB h) (hn1 : h.os.length ≤ 100) (hn2 : h.es.length ≤ 600) :
    CT Tryd.prog 37 [.agg [.slice A h.os.length cA, .slice B h.es.length cB].toArray].toArray ro L (PHo h L) := by
  refine enter Tryd.func37 rfl Tryd.ntmps37 rfl ?_
  refine seq ?_
  refine region ?_
  refine op (e_box rfl rfl rfl fun b1 => ?_)
  refine op (e_alloc rfl zc_25 rfl fun b2 => ?_)
  refine nil ?_
  refine n_then ?_
  refine seq ?_
  obtain ⟨ho, he⟩ := hh
  refine draw (List.flatten [[(b1, Obj.cells [.slice A h.os.length cA, .slice B h.es.length cB].toArray 25 (0, 0))]]) (by kernel_rfl) ?_
  refine d_take 0 rfl (by kernel_rfl) (by kernel_rfl) (by kernel_rfl) (fun _ _ _ h => h) rfl (.inl rfl) (x_fieldAddr fo_25_0 rfl) (fun w hi => ⟨hi.old, fun x hx => hi.own x (by simp only [List.flatten_cons, List.flatten_nil, List.append_nil, List.mem_singleton] at hx; subst hx; simp)⟩) ?_
  refine d_take 1 rfl (by kernel_rfl) (by kernel_rfl) (by kernel_rfl) (fun _ _ _ h => h) rfl (.inl rfl) (x_load1 ag_22 rfl (by first | assumption | exact Cell.own 0 rfl rfl | exact Cell.own 1 rfl rfl | exact Cell.own 2 rfl rfl | exact Cell.own 3 rfl rfl | exact Cell.own 4 rfl rfl | exact Cell.own 5 rfl rfl | exact Cell.own 6 rfl rfl | exact Cell.own 7 rfl rfl | exact Cell.own 8 rfl rfl | exact Cell.own 9 rfl rfl | exact Cell.ofRo (by assumption))) (fun w hi => ⟨hi.old, fun x hx => hi.own x (by simp only [List.flatten_cons, List.flatten_nil, List.append_nil, List.mem_singleton] at hx; subst hx; simp)⟩) ?_
  refine d_take 2 rfl (by kernel_rfl) (by kernel_rfl) (by kernel_rfl) (fun _ _ _ h => h) rfl (.inl rfl) (x_lenSl sz_22 rfl) (fun w hi => ⟨hi.old, fun x hx => hi.own x (by simp only [List.flatten_cons, List.flatten_nil, List.append_nil, List.mem_singleton] at hx; subst hx; simp)⟩) ?_
  refine d_take 4 rfl (by kernel_rfl) (by kernel_rfl) (by kernel_rfl) (fun _ _ _ h => h) rfl (.inl rfl) (x_fieldAddr fo_25_0 rfl) (fun w hi => ⟨hi.old, fun x hx => hi.own x (by simp only [List.flatten_cons, List.flatten_nil, List.append_nil, List.mem_singleton] at hx; subst hx; simp)⟩) ?_
  refine d_take 5 rfl (by kernel_rfl) (by kernel_rfl) (by kernel_rfl) (fun _ _ _ h => h) rfl (.inl rfl) (x_load1 ag_22 rfl (by first | assumption | exact Cell.own 0 rfl rfl | exact Cell.own 1 rfl rfl | exact Cell.own 2 rfl rfl | exact Cell.own 3 rfl rfl | exact Cell.own 4 rfl rfl | exact Cell.own 5 rfl rfl | exact Cell.own 6 rfl rfl | exact Cell.own 7 rfl rfl | exact Cell.own 8 rfl rfl | exact Cell.own 9 rfl rfl | exact Cell.ofRo (by assumption))) (fun w hi => ⟨hi.old, fun x hx => hi.own x (by simp only [List.flatten_cons, List.flatten_nil, List.append_nil, List.mem_singleton] at hx; subst hx; simp)⟩) ?_
  refine d_take 7 rfl (by kernel_rfl) (by kernel_rfl) (by kernel_rfl) (fun _ _ _ h => h) rfl (.inl rfl) (x_fieldAddr fo_25_1 rfl) (fun w hi => ⟨hi.old, fun x hx => hi.own x (by simp only [List.flatten_cons, List.flatten_nil, List.append_nil, List.mem_singleton] at hx; subst hx; simp)⟩) ?_
  refine d_take 8 rfl (by kernel_rfl) (by kernel_rfl) (by kernel_rfl) (fun _ _ _ h => h) rfl (.inl rfl) (x_load1 ag_23 rfl (by first | assumption | exact Cell.own 0 rfl rfl | exact Cell.own 1 rfl rfl | exact Cell.own 2 rfl rfl | exact Cell.own 3 rfl rfl | exact Cell.own 4 rfl rfl | exact Cell.own 5 rfl rfl | exact Cell.own 6 rfl rfl | exact Cell.own 7 rfl rfl | exact Cell.own 8 rfl rfl | exact Cell.own 9 rfl rfl | exact Cell.ofRo (by assumption))) (fun w hi => ⟨hi.old, fun x hx => hi.own x (by simp only [List.flatten_cons, List.flatten_nil, List.append_nil, List.mem_singleton] at hx; subst hx; simp)⟩) ?_
  refine d_take 9 rfl (by kernel_rfl) (by kernel_rfl) (by kernel_rfl) (fun _ _ _ h => h) rfl (.inl rfl) (x_lenSl sz_23 rfl) (fun w hi => ⟨hi.old, fun x hx => hi.own x (by simp only [List.flatten_cons, List.flatten_nil, List.append_nil, List.mem_singleton] at hx; subst hx; simp)⟩) ?_
  refine d_take 11 rfl (by kernel_rfl) (by kernel_rfl) (by kernel_rfl) (fun _ _ _ h => h) rfl (.inl rfl) (x_fieldAddr fo_25_1 rfl) (fun w hi => ⟨hi.old, fun x hx => hi.own x (by simp only [List.flatten_cons, List.flatten_nil, List.append_nil, List.mem_singleton] at hx; subst hx; simp)⟩) ?_
  refine d_take 12 rfl (by kernel_rfl) (by kernel_rfl) (by kernel_rfl) (fun _ _ _ h => h) rfl (.inl rfl) (x_load1 ag_23 rfl (by first | assumption | exact Cell.own 0 rfl rfl | exact Cell.own 1 rfl rfl | exact Cell.own 2 rfl rfl | exact Cell.own 3 rfl rfl | exact Cell.own 4 rfl rfl | exact Cell.own 5 rfl rfl | exact Cell.own 6 rfl rfl | exact Cell.own 7 rfl rfl | exact Cell.own 8 rfl rfl | exact Cell.own 9 rfl rfl | exact Cell.ofRo (by assumption))) (fun w hi => ⟨hi.old, fun x hx => hi.own x (by simp only [List.flatten_cons, List.flatten_nil, List.append_nil, List.mem_singleton] at hx; subst hx; simp)⟩) ?_
  refine d_two 3 10 (by kernel_rfl) ?_ ?_
  · skip
    refine d_the rfl (.inl rfl) (e_make rfl st_22 rfl rfl (by omega) (by omega) (by omega) (by omega) fun b6 R6 xs6 hO6 hR6 => ?_)
    obtain rfl : xs6 = [] := List.eq_nil_of_length_eq_zero (by simpa using hO6.1)
    refine d_next (fun w hi => ⟨hi.old, fun x hx => hi.own x (by simp only [List.flatten_cons, List.flatten_nil, List.append_nil, List.mem_singleton] at hx; subst hx; simp)⟩) ?_
    refine d_two 6 10 (by kernel_rfl) ?_ ?_
    · skip
      first | refine d_the rfl (.inl rfl) (e_append 0 rfl st_22 rfl rfl rfl hO6 (Sl.src ho) (ok_ob _) (by omega) (by omega) (fun _ => rfl) fun A9 cap9 R9 hO9 => ?_) | refine d_the rfl (.inl rfl) (e_append 1 rfl st_22 rfl rfl rfl hO6 (Sl.src ho) (ok_ob _) (by omega) (by omega) (fun _ => rfl) fun A9 cap9 R9 hO9 => ?_) | refine d_the rfl (.inl rfl) (e_append 2 rfl st_22 rfl rfl rfl hO6 (Sl.src ho) (ok_ob _) (by omega) (by omega) (fun _ => rfl) fun A9 cap9 R9 hO9 => ?_)
      refine d_next (fun w hi => ⟨hi.old, fun x hx => hi.own x (by simp only [List.flatten_cons, List.flatten_nil, List.append_nil, List.mem_singleton] at hx; subst hx; simp)⟩) ?_
      refine d_one 10 rfl (by kernel_rfl) (.inl rfl) (e_make rfl st_23 rfl rfl (by omega) (by omega) (by omega) (by omega) fun b13 R13 xs13 hO13 hR13 => ?_)
      obtain rfl : xs13 = [] := List.eq_nil_of_length_eq_zero (by simpa using hO13.1)
      refine d_next (fun w hi => ⟨hi.old, fun x hx => hi.own x (by simp only [List.flatten_cons, List.flatten_nil, List.append_nil, List.mem_singleton] at hx; subst hx; simp)⟩) ?_
      first | refine d_one 13 rfl (by kernel_rfl) (.inl rfl) (e_append 0 rfl st_23 rfl rfl rfl hO13 (Sl.src he) (ok_ev _) (by omega) (by omega) (fun _ => rfl) fun A16 cap16 R16 hO16 => ?_) | refine d_one 13 rfl (by kernel_rfl) (.inl rfl) (e_append 1 rfl st_23 rfl rfl rfl hO13 (Sl.src he) (ok_ev _) (by omega) (by omega) (fun _ => rfl) fun A16 cap16 R16 hO16 => ?_) | refine d_one 13 rfl (by kernel_rfl) (.inl rfl) (e_append 2 rfl st_23 rfl rfl rfl hO13 (Sl.src he) (ok_ev _) (by omega) (by omega) (fun _ => rfl) fun A16 cap16 R16 hO16 => ?_)
      refine d_next (fun w hi => ⟨hi.old, fun x hx => hi.own x (by simp only [List.flatten_cons, List.flatten_nil, List.append_nil, List.mem_singleton] at hx; subst hx; simp)⟩) ?_
      refine d_take 14 rfl (by kernel_rfl) (by kernel_rfl) (by kernel_rfl) (fun _ _ _ h => h) rfl (.inl rfl) (x_build bu_25 rfl rfl) (fun w hi => ⟨hi.old, fun x hx => hi.own x (by simp only [List.flatten_cons, List.flatten_nil, List.append_nil, List.mem_singleton] at hx; subst hx; simp)⟩) ?_
      first | refine d_one 15 rfl (by kernel_rfl) (.inl rfl) (e_store 0 rfl rfl ts_25 rfl rfl rfl rfl rfl rfl ?_) | refine d_one 15 rfl (by kernel_rfl) (.inl rfl) (e_store 1 rfl rfl ts_25 rfl rfl rfl rfl rfl rfl ?_) | refine d_one 15 rfl (by kernel_rfl) (.inl rfl) (e_store 2 rfl rfl ts_25 rfl rfl rfl rfl rfl rfl ?_) | refine d_one 15 rfl (by kernel_rfl) (.inl rfl) (e_store 3 rfl rfl ts_25 rfl rfl rfl rfl rfl rfl ?_) | refine d_one 15 rfl (by kernel_rfl) (.inl rfl) (e_store 4 rfl rfl ts_25 rfl rfl rfl rfl rfl rfl ?_) | refine d_one 15 rfl (by kernel_rfl) (.inl rfl) (e_store 5 rfl rfl ts_25 rfl rfl rfl rfl rfl rfl ?_) | refine d_one 15 rfl (by kernel_rfl) (.inl rfl) (e_store 6 rfl rfl ts_25 rfl rfl rfl rfl rfl rfl ?_) | refine d_one 15 rfl (by kernel_rfl) (.inl rfl) (e_store 7 rfl rfl ts_25 rfl rfl rfl rfl rfl rfl ?_) | refine d_one 15 rfl (by kernel_rfl) (.inl rfl) (e_store 8 rfl rfl ts_25 rfl rfl rfl rfl rfl rfl ?_) | refine d_one 15 rfl (by kernel_rfl) (.inl rfl) (e_store 9 rfl rfl ts_25 rfl rfl rfl rfl rfl rfl ?_)
      refine d_next (fun w hi => ⟨hi.old, fun x hx => hi.own x (by simp only [List.flatten_cons, List.flatten_nil, List.append_nil, List.mem_singleton] at hx; subst hx; simp)⟩) ?_
      refine d_end (by kernel_rfl) ?_
      refine n_then ?_
      refine ret ?_
      try refine swap0 (R := R16) (S := R9) ?_
      exact done rfl (Res.cellN ag_25 rfl rfl (CellsAt.own 2 0 2 _ rfl rfl) (.nil)) (Ro.le.refl _) (R9 :: R16 :: L) (subF (by (repeat (first | exact List.Sublist.refl _ | apply List.Sublist.cons_cons | apply List.Sublist.cons)); done)) (⟨A9, cap9, A16, cap16, R9, R16, by simp [tupled], by simpa using hO9, by simpa using hO16, rfl⟩)
    · skip
      refine d_the rfl (.inl rfl) (e_make rfl st_23 rfl rfl (by omega) (by omega) (by omega) (by omega) fun b13 R13 xs13 hO13 hR13 => ?_)
      obtain rfl : xs13 = [] := List.eq_nil_of_length_eq_zero (by simpa using hO13.1)
      refine d_next (fun w hi => ⟨hi.old, fun x hx => hi.own x (by simp only [List.flatten_cons, List.flatten_nil, List.append_nil, List.mem_singleton] at hx; subst hx; simp)⟩) ?_
      first | refine d_one 6 rfl (by kernel_rfl) (.inl rfl) (e_append 0 rfl st_22 rfl rfl rfl hO6 (Sl.src ho) (ok_ob _) (by omega) (by omega) (fun _ => rfl) fun A9 cap9 R9 hO9 => ?_) | refine d_one 6 rfl (by kernel_rfl) (.inl rfl) (e_append 1 rfl st_22 rfl rfl rfl hO6 (Sl.src ho) (ok_ob _) (by omega) (by omega) (fun _ => rfl) fun A9 cap9 R9 hO9 => ?_) | refine d_one 6 rfl (by kernel_rfl) (.inl rfl) (e_append 2 rfl st_22 rfl rfl rfl hO6 (Sl.src ho) (ok_ob _) (by omega) (by omega) (fun _ => rfl) fun A9 cap9 R9 hO9 => ?_)
      refine d_next (fun w hi => ⟨hi.old, fun x hx => hi.own x (by simp only [List.flatten_cons, List.flatten_nil, List.append_nil, List.mem_singleton] at hx; subst hx; simp)⟩) ?_
      first | refine d_one 13 rfl (by kernel_rfl) (.inl rfl) (e_append 0 rfl st_23 rfl rfl rfl hO13 (Sl.src he) (ok_ev _) (by omega) (by omega) (fun _ => rfl) fun A16 cap16 R16 hO16 => ?_) | refine d_one 13 rfl (by kernel_rfl) (.inl rfl) (e_append 1 rfl st_23 rfl rfl rfl hO13 (Sl.src he) (ok_ev _) (by omega) (by omega) (fun _ => rfl) fun A16 cap16 R16 hO16 => ?_) | refine d_one 13 rfl (by kernel_rfl) (.inl rfl) (e_append 2 rfl st_23 rfl rfl rfl hO13 (Sl.src he) (ok_ev _) (by omega) (by omega) (fun _ => rfl) fun A16 cap16 R16 hO16 => ?_)
      refine d_next (fun w hi => ⟨hi.old, fun x hx => hi.own x (by simp only [List.flatten_cons, List.flatten_nil, List.append_nil, List.mem_singleton] at hx; subst hx; simp)⟩) ?_
      refine d_take 14 rfl (by kernel_rfl) (by kernel_rfl) (by kernel_rfl) (fun _ _ _ h => h) rfl (.inl rfl) (x_build bu_25 rfl rfl) (fun w hi => ⟨hi.old, fun x hx => hi.own x (by simp only [List.flatten_cons, List.flatten_nil, List.append_nil, List.mem_singleton] at hx; subst hx; simp)⟩) ?_
      first | refine d_one 15 rfl (by kernel_rfl) (.inl rfl) (e_store 0 rfl rfl ts_25 rfl rfl rfl rfl rfl rfl ?_) | refine d_one 15 rfl (by kernel_rfl) (.inl rfl) (e_store 1 rfl rfl ts_25 rfl rfl rfl rfl rfl rfl ?_) | refine d_one 15 rfl (by kernel_rfl) (.inl rfl) (e_store 2 rfl rfl ts_25 rfl rfl rfl rfl rfl rfl ?_) | refine d_one 15 rfl (by kernel_rfl) (.inl rfl) (e_store 3 rfl rfl ts_25 rfl rfl rfl rfl rfl rfl ?_) | refine d_one 15 rfl (by kernel_rfl) (.inl rfl) (e_store 4 rfl rfl ts_25 rfl rfl rfl rfl rfl rfl ?_) | refine d_one 15 rfl (by kernel_rfl) (.inl rfl) (e_store 5 rfl rfl ts_25 rfl rfl rfl rfl rfl rfl ?_) | refine d_one 15 rfl (by kernel_rfl) (.inl rfl) (e_store 6 rfl rfl ts_25 rfl rfl rfl rfl rfl rfl ?_) | refine d_one 15 rfl (by kernel_rfl) (.inl rfl) (e_store 7 rfl rfl ts_25 rfl rfl rfl rfl rfl rfl ?_) | refine d_one 15 rfl (by kernel_rfl) (.inl rfl) (e_store 8 rfl rfl ts_25 rfl rfl rfl rfl rfl rfl ?_) | refine d_one 15 rfl (by kernel_rfl) (.inl rfl) (e_store 9 rfl rfl ts_25 rfl rfl rfl rfl rfl rfl ?_)
      refine d_next (fun w hi => ⟨hi.old, fun x hx => hi.own x (by simp only [List.flatten_cons, List.flatten_nil, List.append_nil, List.mem_singleton] at hx; subst hx; simp)⟩) ?_
      refine d_end (by kernel_rfl) ?_
      refine n_then ?_
      refine ret ?_
      try refine swap0 (R := R16) (S := R9) ?_
      exact done rfl (Res.cellN ag_25 rfl rfl (CellsAt.own 2 0 2 _ rfl rfl) (.nil)) (Ro.le.refl _) (R9 :: R16 :: L) (subF (by (repeat (first | exact List.Sublist.refl _ | apply List.Sublist.cons_cons | apply List.Sublist.cons)); done)) (⟨A9, cap9, A16, cap16, R9, R16, by simp [tupled], by simpa using hO9, by simpa using hO16, rfl⟩)
  · skip
    refine d_the rfl (.inl rfl) (e_make rfl st_23 rfl rfl (by omega) (by omega) (by omega) (by omega) fun b13 R13 xs13 hO13 hR13 => ?_)
    obtain rfl : xs13 = [] := List.eq_nil_of_length_eq_zero (by simpa using hO13.1)
    refine d_next (fun w hi => ⟨hi.old, fun x hx => hi.own x (by simp only [List.flatten_cons, List.flatten_nil, List.append_nil, List.mem_singleton] at hx; subst hx; simp)⟩) ?_
    refine d_one 3 rfl (by kernel_rfl) (.inl rfl) (e_make rfl st_22 rfl rfl (by omega) (by omega) (by omega) (by omega) fun b6 R6 xs6 hO6 hR6 => ?_)
    obtain rfl : xs6 = [] := List.eq_nil_of_length_eq_zero (by simpa using hO6.1)
    refine d_next (fun w hi => ⟨hi.old, fun x hx => hi.own x (by simp only [List.flatten_cons, List.flatten_nil, List.append_nil, List.mem_singleton] at hx; subst hx; simp)⟩) ?_
    first | refine d_one 6 rfl (by kernel_rfl) (.inl rfl) (e_append 0 rfl st_22 rfl rfl rfl hO6 (Sl.src ho) (ok_ob _) (by omega) (by omega) (fun _ => rfl) fun A9 cap9 R9 hO9 => ?_) | refine d_one 6 rfl (by kernel_rfl) (.inl rfl) (e_append 1 rfl st_22 rfl rfl rfl hO6 (Sl.src ho) (ok_ob _) (by omega) (by omega) (fun _ => rfl) fun A9 cap9 R9 hO9 => ?_) | refine d_one 6 rfl (by kernel_rfl) (.inl rfl) (e_append 2 rfl st_22 rfl rfl rfl hO6 (Sl.src ho) (ok_ob _) (by omega) (by omega) (fun _ => rfl) fun A9 cap9 R9 hO9 => ?_)
    refine d_next (fun w hi => ⟨hi.old, fun x hx => hi.own x (by simp only [List.flatten_cons, List.flatten_nil, List.append_nil, List.mem_singleton] at hx; subst hx; simp)⟩) ?_
    first | refine d_one 13 rfl (by kernel_rfl) (.inl rfl) (e_append 0 rfl st_23 rfl rfl rfl hO13 (Sl.src he) (ok_ev _) (by omega) (by omega) (fun _ => rfl) fun A16 cap16 R16 hO16 => ?_) | refine d_one 13 rfl (by kernel_rfl) (.inl rfl) (e_append 1 rfl st_23 rfl rfl rfl hO13 (Sl.src he) (ok_ev _) (by omega) (by omega) (fun _ => rfl) fun A16 cap16 R16 hO16 => ?_) | refine d_one 13 rfl (by kernel_rfl) (.inl rfl) (e_append 2 rfl st_23 rfl rfl rfl hO13 (Sl.src he) (ok_ev _) (by omega) (by omega) (fun _ => rfl) fun A16 cap16 R16 hO16 => ?_)
    refine d_next (fun w hi => ⟨hi.old, fun x hx => hi.own x (by simp only [List.flatten_cons, List.flatten_nil, List.append_nil, List.mem_singleton] at hx; subst hx; simp)⟩) ?_
    refine d_take 14 rfl (by kernel_rfl) (by kernel_rfl) (by kernel_rfl) (fun _ _ _ h => h) rfl (.inl rfl) (x_build bu_25 rfl rfl) (fun w hi => ⟨hi.old, fun x hx => hi.own x (by simp only [List.flatten_cons, List.flatten_nil, List.append_nil, List.mem_singleton] at hx; subst hx; simp)⟩) ?_
    first | refine d_one 15 rfl (by kernel_rfl) (.inl rfl) (e_store 0 rfl rfl ts_25 rfl rfl rfl rfl rfl rfl ?_) | refine d_one 15 rfl (by kernel_rfl) (.inl rfl) (e_store 1 rfl rfl ts_25 rfl rfl rfl rfl rfl rfl ?_) | refine d_one 15 rfl (by kernel_rfl) (.inl rfl) (e_store 2 rfl rfl ts_25 rfl rfl rfl rfl rfl rfl ?_) | refine d_one 15 rfl (by kernel_rfl) (.inl rfl) (e_store 3 rfl rfl ts_25 rfl rfl rfl rfl rfl rfl ?_) | refine d_one 15 rfl (by kernel_rfl) (.inl rfl) (e_store 4 rfl rfl ts_25 rfl rfl rfl rfl rfl rfl ?_) | refine d_one 15 rfl (by kernel_rfl) (.inl rfl) (e_store 5 rfl rfl ts_25 rfl rfl rfl rfl rfl rfl ?_) | refine d_one 15 rfl (by kernel_rfl) (.inl rfl) (e_store 6 rfl rfl ts_25 rfl rfl rfl rfl rfl rfl ?_) | refine d_one 15 rfl (by kernel_rfl) (.inl rfl) (e_store 7 rfl rfl ts_25 rfl rfl rfl rfl rfl rfl ?_) | refine d_one 15 rfl (by kernel_rfl) (.inl rfl) (e_store 8 rfl rfl ts_25 rfl rfl rfl rfl rfl rfl ?_) | refine d_one 15 rfl (by kernel_rfl) (.inl rfl) (e_store 9 rfl rfl ts_25 rfl rfl rfl rfl rfl rfl ?_)
    refine d_next (fun w hi => ⟨hi.old, fun x hx => hi.own x (by simp only [List.flatten_cons, List.flatten_nil, List.append_nil, List.mem_singleton] at hx; subst hx; simp)⟩) ?_
    refine d_end (by kernel_rfl) ?_
    refine n_then ?_
    refine ret ?_
    try refine swap0 (R := R16) (S := R9) ?_
    exact done rfl (Res.cellN ag_25 rfl rfl (CellsAt.own 2 0 2 _ rfl rfl) (.nil)) (Ro.le.refl _) (R9 :: R16 :: L) (subF (by (repeat (first | exact List.Sublist.refl _ | apply List.Sublist.cons_cons | apply List.Sublist.cons)); done)) (⟨A9, cap9, A16, cap16, R9, R16, by simp [tupled], by simpa using hO9, by simpa using hO16, rfl⟩)

/-- how many events a prefix has -/
def cutN (n : Int) (len : Nat) : Nat := (max 0 (min n (len : Int))).toNat
theorem cutN_le (n : Int) (len : Nat) : cutN n len ≤ len := by unfold cutN; omega
theorem cutN_if (n : Int) (len : Nat) : (if (0 : Int) < (if (len : Int) < n then (len : Int) else n) then (if (len : Int) < n then (len : Int) else n) else 0) = ((cutN n len : Nat) : Int) := by
  unfold cutN; omega
def pre (h : Hi) (n : Int) : Hi := ⟨h.os, h.es.take (cutN n h.es.length)⟩
theorem SH.pre {ro : Ro} {A : Option Addr} {cA : Nat} {B : Option Addr} {cB : Nat} {h : Hi} (hh : SH ro A cA B cB h) (n : Int) : SH ro A cA B cB (pre h n) := ⟨hh.o, hh.e.take _⟩
theorem pre_len (h : Hi) (n : Int) : cutN n h.es.length = (pre h n).es.length := by
  unfold pre
  simp [Nat.min_eq_left (cutN_le n h.es.length)]

theorem Prefix_o (h : Hi) (A : Option Addr) (cA : Nat) (B : Option Addr) (cB : Nat) (ro : Ro) (L : List (List Blk)) (hh : SH ro A cA B cB h) (n : Int) (hn1 : h.os.length ≤ 100) (hn2 : h.es.length ≤ 600) :
    CT Tryd.prog 13 [.agg [.slice A h.os.length cA, .slice B h.es.length cB].toArray, .int .i64 n].toArray ro L (PHo (pre h n) L) := by
  refine enter Tryd.func13 rfl Tryd.ntmps13 rfl ?_
  refine seq ?_
  refine region ?_
  refine op (e_box rfl rfl rfl fun b2 => ?_)
  refine op (e_alloc rfl zc_25 rfl fun b4 => ?_)
  refine nil ?_
  refine n_then ?_
  refine seq ?_
  refine region ?_
  refine op (y (x_fieldAddr fo_25_1 rfl) rfl ?_)
  refine op (y (x_load1 ag_23 rfl (by first | assumption | exact Cell.own 0 rfl rfl | exact Cell.own 1 rfl rfl | exact Cell.own 2 rfl rfl | exact Cell.own 3 rfl rfl | exact Cell.own 4 rfl rfl | exact Cell.own 5 rfl rfl | exact Cell.own 6 rfl rfl | exact Cell.own 7 rfl rfl | exact Cell.own 8 rfl rfl | exact Cell.own 9 rfl rfl | exact Cell.ofRo (by assumption))) rfl ?_)
  refine op (y (x_move rfl) rfl ?_)
  refine op (y (x_fieldAddr fo_25_1 rfl) rfl ?_)
  refine op (y (x_load1 ag_23 rfl (by first | assumption | exact Cell.own 0 rfl rfl | exact Cell.own 1 rfl rfl | exact Cell.own 2 rfl rfl | exact Cell.own 3 rfl rfl | exact Cell.own 4 rfl rfl | exact Cell.own 5 rfl rfl | exact Cell.own 6 rfl rfl | exact Cell.own 7 rfl rfl | exact Cell.own 8 rfl rfl | exact Cell.own 9 rfl rfl | exact Cell.ofRo (by assumption))) rfl ?_)
  refine op (y (x_lenSl sz_23 rfl) rfl ?_)
  refine op (y (x_min rfl rfl _ rfl) rfl ?_)
  refine op (y (x_max rfl rfl _ rfl) rfl ?_)
  refine said 12 (.int .i64 ((cutN n h.es.length : Nat) : Int)) rfl (by rw [cutN_if]) ?_
  refine op (y (x_sliceHiN sz_23 rfl rfl (Nat.le_trans (cutN_le _ _) hh.e.1)) rfl ?_)
  refine said 13 (.slice B (pre h n).es.length cB) rfl (by rw [pre_len]) ?_
  refine op (y (x_fieldAddr fo_25_1 rfl) rfl ?_)
  first | refine op (e_store 0 rfl rfl ts_23 rfl rfl rfl rfl rfl rfl ?_) | refine op (e_store 1 rfl rfl ts_23 rfl rfl rfl rfl rfl rfl ?_) | refine op (e_store 2 rfl rfl ts_23 rfl rfl rfl rfl rfl rfl ?_) | refine op (e_store 3 rfl rfl ts_23 rfl rfl rfl rfl rfl rfl ?_) | refine op (e_store 4 rfl rfl ts_23 rfl rfl rfl rfl rfl rfl ?_) | refine op (e_store 5 rfl rfl ts_23 rfl rfl rfl rfl rfl rfl ?_) | refine op (e_store 6 rfl rfl ts_23 rfl rfl rfl rfl rfl rfl ?_) | refine op (e_store 7 rfl rfl ts_23 rfl rfl rfl rfl rfl rfl ?_) | refine op (e_store 8 rfl rfl ts_23 rfl rfl rfl rfl rfl rfl ?_) | refine op (e_store 9 rfl rfl ts_23 rfl rfl rfl rfl rfl rfl ?_)
  refine nil ?_
  refine n_then ?_
  refine seq ?_
  refine region ?_
  refine op (y ((by first | exact x_loadOwn 0 _ ag_25 rfl rfl rfl rfl | exact x_loadOwn 1 _ ag_25 rfl rfl rfl rfl | exact x_loadOwn 2 _ ag_25 rfl rfl rfl rfl | exact x_loadOwn 3 _ ag_25 rfl rfl rfl rfl | exact x_loadOwn 4 _ ag_25 rfl rfl rfl rfl | exact x_loadOwn 5 _ ag_25 rfl rfl rfl rfl | exact x_loadOwn 6 _ ag_25 rfl rfl rfl rfl | exact x_loadOwn 7 _ ag_25 rfl rfl rfl rfl | exact x_loadOwn 8 _ ag_25 rfl rfl rfl rfl | exact x_loadOwn 9 _ ag_25 rfl rfl rfl rfl | exact x_loadOwn 10 _ ag_25 rfl rfl rfl rfl | exact x_loadOwn 11 _ ag_25 rfl rfl rfl rfl)) rfl ?_)
  refine op (e_call rfl fn_37 rfl rfl (Clone_o (pre h n) A cA B cB _ _ (hh.pre n) hn1 (Nat.le_trans (by rw [← pre_len]; exact cutN_le _ _) hn2)) fun v16 ro16 L16 hle16 hp16 => ?_)
  obtain ⟨A5, c5, B5, c6, R1, R2, rfl, hO1, hO2, rfl⟩ := hp16
  first | refine op (e_store 0 rfl rfl ts_25 rfl rfl rfl rfl rfl rfl ?_) | refine op (e_store 1 rfl rfl ts_25 rfl rfl rfl rfl rfl rfl ?_) | refine op (e_store 2 rfl rfl ts_25 rfl rfl rfl rfl rfl rfl ?_) | refine op (e_store 3 rfl rfl ts_25 rfl rfl rfl rfl rfl rfl ?_) | refine op (e_store 4 rfl rfl ts_25 rfl rfl rfl rfl rfl rfl ?_) | refine op (e_store 5 rfl rfl ts_25 rfl rfl rfl rfl rfl rfl ?_) | refine op (e_store 6 rfl rfl ts_25 rfl rfl rfl rfl rfl rfl ?_) | refine op (e_store 7 rfl rfl ts_25 rfl rfl rfl rfl rfl rfl ?_) | refine op (e_store 8 rfl rfl ts_25 rfl rfl rfl rfl rfl rfl ?_) | refine op (e_store 9 rfl rfl ts_25 rfl rfl rfl rfl rfl rfl ?_)
  refine nil ?_
  refine n_then ?_
  refine ret ?_
  exact done rfl (Res.cellN ag_25 rfl rfl (CellsAt.own 2 0 2 _ rfl rfl) (.nil)) (hle16) (R1 :: R2 :: L) (subF (by (repeat (first | exact List.Sublist.refl _ | apply List.Sublist.cons_cons | apply List.Sublist.cons)); done)) (⟨A5, c5, B5, c6, R1, R2, rfl, hO1, hO2, rfl⟩)

end Go.Proofs.YtijafcilfefafaaDoor
