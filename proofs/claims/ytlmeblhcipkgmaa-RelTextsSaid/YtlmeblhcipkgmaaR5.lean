/- The walks of the references of relations, the fifth part. -/
import Derived.Test.YtlmeblhcipkgmaaR4
namespace Go.Proofs.Ytlmeblhcipkgmaa
open Go Go.U
set_option maxRecDepth 20000
set_option linter.unusedSimpArgs false
set_option linter.unusedVariables false

/-- an answer that is yes just if -/
def PB (p : Prop) (L : List (List Blk)) : Value → Ro → List (List Blk) → Prop := fun v _ L' => ∃ b : Bool, v = .bool b ∧ (b = true ↔ p) ∧ L = L'
/-- a new list of one's own -/
def PO {α : Type} (e k : Nat) (enc : α → List Value) (l : List α) (L : List (List Blk)) : Value → Ro → List (List Blk) → Prop := fun v _ L' => ∃ A cap R, v = .slice A l.length cap ∧ OwnS e k A l.length cap (l.flatMap enc) R ∧ L' = R :: L

theorem Circle_c (l : List (Int × Int)) (A : Option Addr) (cap : Nat) (ro : Ro) (L : List (List Blk)) (hl : Sl ro 2 encPair A cap l) (hn : l.length ≤ 100) (hs : SP l) :
    CT Try.prog 23 [.slice A l.length cap].toArray ro L (PB (∃ a, TG l a a) L) := by
  have hcap : l.length ≤ 9223372036854775807 := by have := hl.1; have := hl.2.1; unfold maxLen at this; omega
  refine enter Try.func23 rfl Try.ntmps23 rfl ?_
  refine seq ?_
  refine region ?_
  refine op (y (x_assign rfl) rfl ?_)
  refine nil ?_
  refine n_then ?_
  refine seq ?_
  refine region ?_
  refine op (y (x_move rfl) rfl ?_)
  refine op (e_call rfl fn_21 rfl rfl (Closure_c l A cap _ _ hl hn hs) fun v6 ro6 L6 hle6 hp6 => ?_)
  obtain ⟨c, hC, A2, cap2, rfl, hO, rfl⟩ := hp6
  have hcl : c.length ≤ 100 * 100 := Nat.le_trans hC.2.2 (Nat.mul_le_mul hn hn)
  refine op (y (x_assign rfl) rfl ?_)
  refine nil ?_
  refine n_then ?_
  refine seq ?_
  refine seq ?_
  refine region ?_
  refine op (y (x_assign rfl) rfl ?_)
  refine nil ?_
  refine n_then ?_
  refine block ?_
  refine loop (fun m F ro' L' => ∃ (i : Nat), (m = c.length - i) ∧ (F = [(3, .slice A2 c.length cap2), (4, .int .i64 (i : Nat))]) ∧ (ro6 = ro') ∧ (L = L') ∧ (i ≤ c.length) ∧ (∀ j : Nat, j < i → ∀ p, c[j]? = some p → p.1 ≠ p.2)) (c.length - 0) [(3, .slice A2 c.length cap2), (4, .int .i64 (0 : Nat))] ⟨rfl, rfl, trivial⟩ ⟨0, rfl, rfl, rfl, rfl, by omega, by intro j hj; omega⟩ ?_
  rintro m F ro' L' ⟨i, rfl, rfl, rfl, rfl, hi, hall⟩
  refine seq ?_
  refine seq ?_
  refine region ?_
  refine op (y (x_move rfl) rfl ?_)
  refine op (y (x_move rfl) rfl ?_)
  refine op (y (x_lenSl sz_26 rfl) rfl ?_)
  refine op (y (x_lss rfl rfl) rfl ?_)
  refine nil ?_
  refine n_then ?_
  refine cond rfl (fun h3 => ?_) (fun h3 => ?_)
  · try simp only [decide_eq_true_eq, decide_eq_false_iff_not, beq_iff_eq, bne_iff_ne, ne_eq, beq_eq_false_iff_ne, bne_eq_false_iff_eq, Bool.not_eq_true', Bool.not_eq_false', Bool.not_eq_true, Bool.not_eq_false, Decidable.not_not, Int.not_lt, Int.not_le] at h3
    refine skip ?_
    refine n_then ?_
    refine seq ?_
    refine block ?_
    refine seq ?_
    obtain ⟨bbx, offx, rfl, hcx⟩ := hO.at_ (i := i) (by omega)
    have hx := List.getElem?_eq_getElem (show i < c.length from by omega)
    have cx0 := hcx i _ hx 0 _ rfl
    have cx1 := hcx i _ hx 1 _ rfl
    refine drawL (by kernel_rfl) ?_
    refine d_take 0 rfl (by kernel_rfl) (by kernel_rfl) (by kernel_rfl) (fun _ _ _ h => h) rfl (.inl rfl) (x_move rfl) (fun w hi => by first | exact hi.j | exact J.of_le (Ro.le.refl _) (fun x hx => List.mem_append_right _ hx) hi | exact J.of_le (Ro.le.refl _) (fun x hx => List.mem_append_right _ (List.mem_append_right _ hx)) hi | exact J.of_le (Ro.le.refl _) (fun x hx => absurd hx (by simp)) hi) ?_
    refine d_take 1 rfl (by kernel_rfl) (by kernel_rfl) (by kernel_rfl) (fun _ _ _ h => h) rfl (.inl rfl) (x_move rfl) (fun w hi => by first | exact hi.j | exact J.of_le (Ro.le.refl _) (fun x hx => List.mem_append_right _ hx) hi | exact J.of_le (Ro.le.refl _) (fun x hx => List.mem_append_right _ (List.mem_append_right _ hx)) hi | exact J.of_le (Ro.le.refl _) (fun x hx => absurd hx (by simp)) hi) ?_
    refine d_take 2 rfl (by kernel_rfl) (by kernel_rfl) (by kernel_rfl) (fun _ _ _ h => h) rfl (.inl rfl) (x_indexNat sz_26 rfl rfl (by omega)) (fun w hi => by first | exact hi.j | exact J.of_le (Ro.le.refl _) (fun x hx => List.mem_append_right _ hx) hi | exact J.of_le (Ro.le.refl _) (fun x hx => List.mem_append_right _ (List.mem_append_right _ hx)) hi | exact J.of_le (Ro.le.refl _) (fun x hx => absurd hx (by simp)) hi) ?_
    refine d_take 3 rfl (by kernel_rfl) (by kernel_rfl) (by kernel_rfl) (fun _ _ _ h => h) rfl (.inl rfl) (x_fieldAddr fo_46_0 rfl) (fun w hi => by first | exact hi.j | exact J.of_le (Ro.le.refl _) (fun x hx => List.mem_append_right _ hx) hi | exact J.of_le (Ro.le.refl _) (fun x hx => List.mem_append_right _ (List.mem_append_right _ hx)) hi | exact J.of_le (Ro.le.refl _) (fun x hx => absurd hx (by simp)) hi) ?_
    refine d_take 4 rfl (by kernel_rfl) (by kernel_rfl) (by kernel_rfl) (fun _ _ _ h => h) rfl (.inl rfl) (x_load1 ag_3 rfl (by first | assumption | exact Cell.own 0 rfl rfl | exact Cell.own 1 rfl rfl | exact Cell.own 2 rfl rfl | exact Cell.own 3 rfl rfl | exact Cell.own 4 rfl rfl | exact Cell.own 5 rfl rfl | exact Cell.ofRo (by assumption))) (fun w hi => by first | exact hi.j | exact J.of_le (Ro.le.refl _) (fun x hx => List.mem_append_right _ hx) hi | exact J.of_le (Ro.le.refl _) (fun x hx => List.mem_append_right _ (List.mem_append_right _ hx)) hi | exact J.of_le (Ro.le.refl _) (fun x hx => absurd hx (by simp)) hi) ?_
    refine d_take 5 rfl (by kernel_rfl) (by kernel_rfl) (by kernel_rfl) (fun _ _ _ h => h) rfl (.inl rfl) (x_move rfl) (fun w hi => by first | exact hi.j | exact J.of_le (Ro.le.refl _) (fun x hx => List.mem_append_right _ hx) hi | exact J.of_le (Ro.le.refl _) (fun x hx => List.mem_append_right _ (List.mem_append_right _ hx)) hi | exact J.of_le (Ro.le.refl _) (fun x hx => absurd hx (by simp)) hi) ?_
    refine d_take 6 rfl (by kernel_rfl) (by kernel_rfl) (by kernel_rfl) (fun _ _ _ h => h) rfl (.inl rfl) (x_move rfl) (fun w hi => by first | exact hi.j | exact J.of_le (Ro.le.refl _) (fun x hx => List.mem_append_right _ hx) hi | exact J.of_le (Ro.le.refl _) (fun x hx => List.mem_append_right _ (List.mem_append_right _ hx)) hi | exact J.of_le (Ro.le.refl _) (fun x hx => absurd hx (by simp)) hi) ?_
    refine d_take 7 rfl (by kernel_rfl) (by kernel_rfl) (by kernel_rfl) (fun _ _ _ h => h) rfl (.inl rfl) (x_indexNat sz_26 rfl rfl (by omega)) (fun w hi => by first | exact hi.j | exact J.of_le (Ro.le.refl _) (fun x hx => List.mem_append_right _ hx) hi | exact J.of_le (Ro.le.refl _) (fun x hx => List.mem_append_right _ (List.mem_append_right _ hx)) hi | exact J.of_le (Ro.le.refl _) (fun x hx => absurd hx (by simp)) hi) ?_
    refine d_take 8 rfl (by kernel_rfl) (by kernel_rfl) (by kernel_rfl) (fun _ _ _ h => h) rfl (.inl rfl) (x_fieldAddr fo_46_1 rfl) (fun w hi => by first | exact hi.j | exact J.of_le (Ro.le.refl _) (fun x hx => List.mem_append_right _ hx) hi | exact J.of_le (Ro.le.refl _) (fun x hx => List.mem_append_right _ (List.mem_append_right _ hx)) hi | exact J.of_le (Ro.le.refl _) (fun x hx => absurd hx (by simp)) hi) ?_
    refine d_take 9 rfl (by kernel_rfl) (by kernel_rfl) (by kernel_rfl) (fun _ _ _ h => h) rfl (.inl rfl) (x_load1 ag_3 rfl (by first | assumption | exact Cell.own 0 rfl rfl | exact Cell.own 1 rfl rfl | exact Cell.own 2 rfl rfl | exact Cell.own 3 rfl rfl | exact Cell.own 4 rfl rfl | exact Cell.own 5 rfl rfl | exact Cell.ofRo (by assumption))) (fun w hi => by first | exact hi.j | exact J.of_le (Ro.le.refl _) (fun x hx => List.mem_append_right _ hx) hi | exact J.of_le (Ro.le.refl _) (fun x hx => List.mem_append_right _ (List.mem_append_right _ hx)) hi | exact J.of_le (Ro.le.refl _) (fun x hx => absurd hx (by simp)) hi) ?_
    refine d_take 10 rfl (by kernel_rfl) (by kernel_rfl) (by kernel_rfl) (fun _ _ _ h => h) rfl (.inl rfl) (x_eql rfl rfl) (fun w hi => by first | exact hi.j | exact J.of_le (Ro.le.refl _) (fun x hx => List.mem_append_right _ hx) hi | exact J.of_le (Ro.le.refl _) (fun x hx => List.mem_append_right _ (List.mem_append_right _ hx)) hi | exact J.of_le (Ro.le.refl _) (fun x hx => absurd hx (by simp)) hi) ?_
    refine d_end (by kernel_rfl) ?_
    refine n_then ?_
    refine cond rfl (fun h5 => ?_) (fun h5 => ?_)
    · try simp only [decide_eq_true_eq, decide_eq_false_iff_not, beq_iff_eq, bne_iff_ne, ne_eq, beq_eq_false_iff_ne, bne_eq_false_iff_eq, Bool.not_eq_true', Bool.not_eq_false', Bool.not_eq_true, Bool.not_eq_false, Decidable.not_not, Int.not_lt, Int.not_le] at h5
      refine seq ?_
      refine region ?_
      refine op (y (x_assign rfl) rfl ?_)
      refine nil ?_
      refine n_then ?_
      refine ret ?_
      refine r_in ?_
      refine r_then ?_
      refine r_then ?_
      refine r_in ?_
      refine r_then ?_
      exact done rfl (.tmp rfl (.nil)) (hle6) (L) (⟨_, .refl _, .refl _⟩) (⟨true, rfl, ⟨fun _ => ⟨(c[i]).1, (hC.2.1 _ _).1 (List.mem_of_getElem? (i := i) (by rw [hx]; congr 1; exact Prod.ext rfl h5.symm))⟩, fun _ => rfl⟩, rfl⟩)
    · try simp only [decide_eq_true_eq, decide_eq_false_iff_not, beq_iff_eq, bne_iff_ne, ne_eq, beq_eq_false_iff_ne, bne_eq_false_iff_eq, Bool.not_eq_true', Bool.not_eq_false', Bool.not_eq_true, Bool.not_eq_false, Decidable.not_not, Int.not_lt, Int.not_le] at h5
      refine skip ?_
      refine n_in ?_
      refine n_then ?_
      refine region ?_
      refine op (y (x_move rfl) rfl ?_)
      refine op (y (x_add rfl rfl _ (wr (by omega) (by omega))) rfl ?_)
      refine op (y (x_assign rfl) rfl ?_)
      refine nil ?_
      exact round (c.length - (i + 1)) [(3, .slice _ c.length cap2), (4, .int .i64 ((i + 1) : Nat))] (by omega) ⟨rfl, rfl, trivial⟩ ⟨i + 1, rfl, rfl, rfl, rfl, by omega, upto (p := fun j => ∀ p, c[j]? = some p → p.1 ≠ p.2) hall (fun p e => by rw [hx] at e; cases e; exact h5)⟩
  · try simp only [decide_eq_true_eq, decide_eq_false_iff_not, beq_iff_eq, bne_iff_ne, ne_eq, beq_eq_false_iff_ne, bne_eq_false_iff_eq, Bool.not_eq_true', Bool.not_eq_false', Bool.not_eq_true, Bool.not_eq_false, Decidable.not_not, Int.not_lt, Int.not_le] at h3
    refine exit ?_
    refine e_then ?_
    refine e_then ?_
    refine e_in ?_
    refine n_then ?_
    refine seq ?_
    refine region ?_
    refine op (y (x_assign rfl) rfl ?_)
    refine nil ?_
    refine n_then ?_
    refine ret ?_
    exact done rfl (.tmp rfl (.nil)) (hle6) (L) (⟨_, .refl _, .refl _⟩) (⟨false, rfl, ⟨fun h => absurd h (by simp), fun ⟨a, t⟩ => by
          obtain ⟨j, hj, e⟩ := List.getElem_of_mem ((hC.2.1 _ _).2 t)
          exact absurd rfl (hall j (by omega) (a, a) (by rw [List.getElem?_eq_getElem hj, e]))⟩, rfl⟩)

theorem Fits_c (l : List (Int × Int)) (A : Option Addr) (cap : Nat) (o : List Int) (B : Option Addr) (cap2 : Nat) (ro : Ro) (L : List (List Blk)) (hl : Sl ro 2 encPair A cap l) (ho : Sl ro 1 encInt B cap2 o) :
    CT Try.prog 24 [.slice A l.length cap, .slice B o.length cap2].toArray ro L (PB (∀ i : Nat, ∀ p, o[i]? = some p → ∀ k : Nat, k ≤ i → ∀ q, o[k]? = some q → (p, q) ∉ l) L) := by
  have hcap : l.length ≤ 9223372036854775807 := by have := hl.1; have := hl.2.1; unfold maxLen at this; omega
  have hcap2 : o.length ≤ 9223372036854775807 := by have := ho.1; have := ho.2.1; unfold maxLen at this; omega
  refine enter Try.func24 rfl Try.ntmps24 rfl ?_
  refine seq ?_
  refine region ?_
  refine op (y (x_assign rfl) rfl ?_)
  refine nil ?_
  refine n_then ?_
  refine seq ?_
  refine seq ?_
  refine region ?_
  refine op (y (x_assign rfl) rfl ?_)
  refine nil ?_
  refine n_then ?_
  refine block ?_
  refine loop (fun m F ro' L' => ∃ (i : Nat), (m = o.length - i) ∧ (F = [(0, .slice A l.length cap), (1, .slice B o.length cap2), (5, .int .i64 (i : Nat))]) ∧ (ro = ro') ∧ (L = L') ∧ (i ≤ o.length) ∧ (∀ j : Nat, j < i → ∀ p, o[j]? = some p → ∀ k : Nat, k ≤ j → ∀ q, o[k]? = some q → (p, q) ∉ l)) (o.length - 0) [(0, .slice A l.length cap), (1, .slice B o.length cap2), (5, .int .i64 (0 : Nat))] ⟨rfl, rfl, rfl, trivial⟩ ⟨0, rfl, rfl, rfl, rfl, by omega, by intro j hj; omega⟩ ?_
  rintro m F ro' L' ⟨i, rfl, rfl, rfl, rfl, hi, hall⟩
  refine seq ?_
  refine seq ?_
  refine region ?_
  refine op (y (x_move rfl) rfl ?_)
  refine op (y (x_move rfl) rfl ?_)
  refine op (y (x_lenSl sz_23 rfl) rfl ?_)
  refine op (y (x_lss rfl rfl) rfl ?_)
  refine nil ?_
  refine n_then ?_
  refine cond rfl (fun h2 => ?_) (fun h2 => ?_)
  · try simp only [decide_eq_true_eq, decide_eq_false_iff_not, beq_iff_eq, bne_iff_ne, ne_eq, beq_eq_false_iff_ne, bne_eq_false_iff_eq, Bool.not_eq_true', Bool.not_eq_false', Bool.not_eq_true, Bool.not_eq_false, Decidable.not_not, Int.not_lt, Int.not_le] at h2
    refine skip ?_
    refine n_then ?_
    refine seq ?_
    refine block ?_
    refine seq ?_
    have hio : i < o.length := by omega
    obtain ⟨bbx, offx, rfl, hcx⟩ := ho.at_ (i := i) (by omega)
    have hx := List.getElem?_eq_getElem (show i < o.length from by omega)
    have cx0 := hcx i _ hx 0 _ rfl
    refine region ?_
    refine op (y (x_assign rfl) rfl ?_)
    refine nil ?_
    refine n_then ?_
    refine block ?_
    refine loop (fun m F ro' L' => ∃ (k : Nat), (m = i + 1 - k) ∧ (F = [(0, .slice A l.length cap), (1, .slice (some ⟨bbx, offx, none⟩) o.length cap2), (5, .int .i64 (i : Nat)), (6, .int .i64 (k : Nat))]) ∧ (ro = ro') ∧ (L = L') ∧ (k ≤ i + 1) ∧ (∀ m : Nat, m < k → ∀ q, o[m]? = some q → (o[i], q) ∉ l)) (i + 1 - 0) [(0, .slice A l.length cap), (1, .slice (some ⟨bbx, offx, none⟩) o.length cap2), (5, .int .i64 (i : Nat)), (6, .int .i64 (0 : Nat))] ⟨rfl, rfl, rfl, rfl, trivial⟩ ⟨0, rfl, rfl, rfl, rfl, by omega, by intro j hj; omega⟩ ?_
    rintro m F ro' L' ⟨k, rfl, rfl, rfl, rfl, hk, hin⟩
    refine seq ?_
    refine seq ?_
    refine region ?_
    refine op (y (x_move rfl) rfl ?_)
    refine op (y (x_move rfl) rfl ?_)
    refine op (y (x_leq rfl rfl) rfl ?_)
    refine nil ?_
    refine n_then ?_
    refine cond rfl (fun h5 => ?_) (fun h5 => ?_)
    · try simp only [decide_eq_true_eq, decide_eq_false_iff_not, beq_iff_eq, bne_iff_ne, ne_eq, beq_eq_false_iff_ne, bne_eq_false_iff_eq, Bool.not_eq_true', Bool.not_eq_false', Bool.not_eq_true, Bool.not_eq_false, Decidable.not_not, Int.not_lt, Int.not_le] at h5
      refine skip ?_
      refine n_then ?_
      refine seq ?_
      refine block ?_
      refine seq ?_
      have hko : k < o.length := by omega
      have hz := List.getElem?_eq_getElem hko
      have cz0 := hcx k _ hz 0 _ rfl
      refine drawL (by kernel_rfl) ?_
      refine d_take 0 rfl (by kernel_rfl) (by kernel_rfl) (by kernel_rfl) (fun _ _ _ h => h) rfl (.inl rfl) (x_move rfl) (fun w hi => by first | exact hi.j | exact J.of_le (Ro.le.refl _) (fun x hx => List.mem_append_right _ hx) hi | exact J.of_le (Ro.le.refl _) (fun x hx => List.mem_append_right _ (List.mem_append_right _ hx)) hi | exact J.of_le (Ro.le.refl _) (fun x hx => absurd hx (by simp)) hi) ?_
      refine d_take 1 rfl (by kernel_rfl) (by kernel_rfl) (by kernel_rfl) (fun _ _ _ h => h) rfl (.inl rfl) (x_move rfl) (fun w hi => by first | exact hi.j | exact J.of_le (Ro.le.refl _) (fun x hx => List.mem_append_right _ hx) hi | exact J.of_le (Ro.le.refl _) (fun x hx => List.mem_append_right _ (List.mem_append_right _ hx)) hi | exact J.of_le (Ro.le.refl _) (fun x hx => absurd hx (by simp)) hi) ?_
      refine d_take 2 rfl (by kernel_rfl) (by kernel_rfl) (by kernel_rfl) (fun _ _ _ h => h) rfl (.inl rfl) (x_move rfl) (fun w hi => by first | exact hi.j | exact J.of_le (Ro.le.refl _) (fun x hx => List.mem_append_right _ hx) hi | exact J.of_le (Ro.le.refl _) (fun x hx => List.mem_append_right _ (List.mem_append_right _ hx)) hi | exact J.of_le (Ro.le.refl _) (fun x hx => absurd hx (by simp)) hi) ?_
      refine d_take 3 rfl (by kernel_rfl) (by kernel_rfl) (by kernel_rfl) (fun _ _ _ h => h) rfl (.inl rfl) (x_indexNat sz_23 rfl rfl (by omega)) (fun w hi => by first | exact hi.j | exact J.of_le (Ro.le.refl _) (fun x hx => List.mem_append_right _ hx) hi | exact J.of_le (Ro.le.refl _) (fun x hx => List.mem_append_right _ (List.mem_append_right _ hx)) hi | exact J.of_le (Ro.le.refl _) (fun x hx => absurd hx (by simp)) hi) ?_
      refine d_take 4 rfl (by kernel_rfl) (by kernel_rfl) (by kernel_rfl) (fun _ _ _ h => h) rfl (.inl rfl) (x_load1 ag_3 rfl (by first | assumption | exact Cell.own 0 rfl rfl | exact Cell.own 1 rfl rfl | exact Cell.own 2 rfl rfl | exact Cell.own 3 rfl rfl | exact Cell.own 4 rfl rfl | exact Cell.own 5 rfl rfl | exact Cell.ofRo (by assumption))) (fun w hi => by first | exact hi.j | exact J.of_le (Ro.le.refl _) (fun x hx => List.mem_append_right _ hx) hi | exact J.of_le (Ro.le.refl _) (fun x hx => List.mem_append_right _ (List.mem_append_right _ hx)) hi | exact J.of_le (Ro.le.refl _) (fun x hx => absurd hx (by simp)) hi) ?_
      refine d_take 5 rfl (by kernel_rfl) (by kernel_rfl) (by kernel_rfl) (fun _ _ _ h => h) rfl (.inl rfl) (x_move rfl) (fun w hi => by first | exact hi.j | exact J.of_le (Ro.le.refl _) (fun x hx => List.mem_append_right _ hx) hi | exact J.of_le (Ro.le.refl _) (fun x hx => List.mem_append_right _ (List.mem_append_right _ hx)) hi | exact J.of_le (Ro.le.refl _) (fun x hx => absurd hx (by simp)) hi) ?_
      refine d_take 6 rfl (by kernel_rfl) (by kernel_rfl) (by kernel_rfl) (fun _ _ _ h => h) rfl (.inl rfl) (x_move rfl) (fun w hi => by first | exact hi.j | exact J.of_le (Ro.le.refl _) (fun x hx => List.mem_append_right _ hx) hi | exact J.of_le (Ro.le.refl _) (fun x hx => List.mem_append_right _ (List.mem_append_right _ hx)) hi | exact J.of_le (Ro.le.refl _) (fun x hx => absurd hx (by simp)) hi) ?_
      refine d_take 7 rfl (by kernel_rfl) (by kernel_rfl) (by kernel_rfl) (fun _ _ _ h => h) rfl (.inl rfl) (x_indexNat sz_23 rfl rfl (by omega)) (fun w hi => by first | exact hi.j | exact J.of_le (Ro.le.refl _) (fun x hx => List.mem_append_right _ hx) hi | exact J.of_le (Ro.le.refl _) (fun x hx => List.mem_append_right _ (List.mem_append_right _ hx)) hi | exact J.of_le (Ro.le.refl _) (fun x hx => absurd hx (by simp)) hi) ?_
      refine d_take 8 rfl (by kernel_rfl) (by kernel_rfl) (by kernel_rfl) (fun _ _ _ h => h) rfl (.inl rfl) (x_load1 ag_3 rfl (by first | assumption | exact Cell.own 0 rfl rfl | exact Cell.own 1 rfl rfl | exact Cell.own 2 rfl rfl | exact Cell.own 3 rfl rfl | exact Cell.own 4 rfl rfl | exact Cell.own 5 rfl rfl | exact Cell.ofRo (by assumption))) (fun w hi => by first | exact hi.j | exact J.of_le (Ro.le.refl _) (fun x hx => List.mem_append_right _ hx) hi | exact J.of_le (Ro.le.refl _) (fun x hx => List.mem_append_right _ (List.mem_append_right _ hx)) hi | exact J.of_le (Ro.le.refl _) (fun x hx => absurd hx (by simp)) hi) ?_
      refine d_one 9 rfl (by kernel_rfl) (.inl rfl) (e_call rfl fn_36 rfl rfl (Has_c l A cap (o[i]) (o[k]) _ _ hl) fun v27 ro27 L27 hle27 hp27 => ?_)
      obtain ⟨rfl, rfl, rfl⟩ := hp27
      refine d_next (fun w hi => by first | exact hi.j | exact J.of_le (Ro.le.refl _) (fun x hx => List.mem_append_right _ hx) hi | exact J.of_le (Ro.le.refl _) (fun x hx => List.mem_append_right _ (List.mem_append_right _ hx)) hi | exact J.of_le (Ro.le.refl _) (fun x hx => absurd hx (by simp)) hi) ?_
      refine d_end (by kernel_rfl) ?_
      refine n_then ?_
      refine cond rfl (fun h7 => ?_) (fun h7 => ?_)
      · try simp only [decide_eq_true_eq, decide_eq_false_iff_not, beq_iff_eq, bne_iff_ne, ne_eq, beq_eq_false_iff_ne, bne_eq_false_iff_eq, Bool.not_eq_true', Bool.not_eq_false', Bool.not_eq_true, Bool.not_eq_false, Decidable.not_not, Int.not_lt, Int.not_le] at h7
        refine seq ?_
        refine region ?_
        refine op (y (x_assign rfl) rfl ?_)
        refine nil ?_
        refine n_then ?_
        refine ret ?_
        refine r_in ?_
        refine r_then ?_
        refine r_then ?_
        refine r_in ?_
        refine r_in ?_
        refine r_then ?_
        refine r_then ?_
        refine r_in ?_
        refine r_then ?_
        exact done rfl (.tmp rfl (.nil)) (Ro.le.refl _) (L) (⟨_, .refl _, .refl _⟩) (⟨false, rfl, ⟨fun h => absurd h (by simp), fun h => absurd h7 (h i _ hx k (by omega) _ hz)⟩, rfl⟩)
      · try simp only [decide_eq_true_eq, decide_eq_false_iff_not, beq_iff_eq, bne_iff_ne, ne_eq, beq_eq_false_iff_ne, bne_eq_false_iff_eq, Bool.not_eq_true', Bool.not_eq_false', Bool.not_eq_true, Bool.not_eq_false, Decidable.not_not, Int.not_lt, Int.not_le] at h7
        refine skip ?_
        refine n_in ?_
        refine n_then ?_
        refine region ?_
        refine op (y (x_move rfl) rfl ?_)
        refine op (y (x_add rfl rfl _ (wr (by omega) (by omega))) rfl ?_)
        refine op (y (x_assign rfl) rfl ?_)
        refine nil ?_
        exact round (i + 1 - (k + 1)) [(0, .slice _ l.length cap), (1, .slice (some ⟨bbx, offx, none⟩) o.length cap2), (5, .int .i64 (i : Nat)), (6, .int .i64 ((k + 1) : Nat))] (by omega) ⟨rfl, rfl, rfl, rfl, trivial⟩ ⟨k + 1, rfl, rfl, rfl, rfl, by omega, upto (p := fun m => ∀ q, o[m]? = some q → (o[i], q) ∉ l) hin (fun q e => by rw [hz] at e; cases e; exact h7)⟩
    · try simp only [decide_eq_true_eq, decide_eq_false_iff_not, beq_iff_eq, bne_iff_ne, ne_eq, beq_eq_false_iff_ne, bne_eq_false_iff_eq, Bool.not_eq_true', Bool.not_eq_false', Bool.not_eq_true, Bool.not_eq_false, Decidable.not_not, Int.not_lt, Int.not_le] at h5
      refine exit ?_
      refine e_then ?_
      refine e_then ?_
      refine e_in ?_
      refine n_in ?_
      refine n_then ?_
      refine region ?_
      refine op (y (x_move rfl) rfl ?_)
      refine op (y (x_add rfl rfl _ (wr (by omega) (by omega))) rfl ?_)
      refine op (y (x_assign rfl) rfl ?_)
      refine nil ?_
      exact round (o.length - (i + 1)) [(0, .slice _ l.length cap), (1, .slice _ o.length cap2), (5, .int .i64 ((i + 1) : Nat))] (by omega) ⟨rfl, rfl, rfl, trivial⟩ ⟨i + 1, rfl, rfl, rfl, rfl, by omega, upto (p := fun j => ∀ p, o[j]? = some p → ∀ k : Nat, k ≤ j → ∀ q, o[k]? = some q → (p, q) ∉ l) hall (fun p e m hm q hq => by rw [hx] at e; cases e; exact hin m (by omega) q hq)⟩
  · try simp only [decide_eq_true_eq, decide_eq_false_iff_not, beq_iff_eq, bne_iff_ne, ne_eq, beq_eq_false_iff_ne, bne_eq_false_iff_eq, Bool.not_eq_true', Bool.not_eq_false', Bool.not_eq_true, Bool.not_eq_false, Decidable.not_not, Int.not_lt, Int.not_le] at h2
    refine exit ?_
    refine e_then ?_
    refine e_then ?_
    refine e_in ?_
    refine n_then ?_
    refine seq ?_
    refine region ?_
    refine op (y (x_assign rfl) rfl ?_)
    refine nil ?_
    refine n_then ?_
    refine ret ?_
    exact done rfl (.tmp rfl (.nil)) (Ro.le.refl _) (L) (⟨_, .refl _, .refl _⟩) (⟨true, rfl, ⟨fun _ i p hp => hall i (by have := (List.getElem?_eq_some_iff.1 hp).1; omega) p hp, fun _ => rfl⟩, rfl⟩)

theorem Ints_c (l : List Int) (A : Option Addr) (cap : Nat) (ro : Ro) (L : List (List Blk)) (hl : Sl ro 1 encInt A cap l) (hn : l.length ≤ 1000000) :
    CT Try.prog 18 [.slice A l.length cap].toArray ro L (PO 3 1 encInt l L) := by
  have hcap : l.length ≤ 9223372036854775807 := by have := hl.1; have := hl.2.1; unfold maxLen at this; omega
  refine enter Try.func18 rfl Try.ntmps18 rfl ?_
  refine seq ?_
  refine region ?_
  refine op (y (x_assign rfl) rfl ?_)
  refine nil ?_
  refine n_then ?_
  refine seq ?_
  refine region ?_
  refine op (y (x_move rfl) rfl ?_)
  refine op (y (x_lenSl sz_23 rfl) rfl ?_)
  refine op (e_make rfl st_23 rfl rfl (by omega) (by omega) (by omega) (by omega) fun b7 R7 xs7 hO7 hR7 => ?_)
  obtain rfl : xs7 = [] := List.eq_nil_of_length_eq_zero (by simpa using hO7.1)
  refine op (y (x_assign rfl) rfl ?_)
  refine nil ?_
  refine n_then ?_
  refine seq ?_
  refine seq ?_
  refine region ?_
  refine op (y (x_assign rfl) rfl ?_)
  refine nil ?_
  refine n_then ?_
  refine block ?_
  refine loop (fun m F ro' L' => ∃ (k : Nat) (A2 : Option Addr) (cap2 : Nat) (R : List Blk), (m = l.length - k) ∧ (F = [(0, .slice A l.length cap), (3, .slice A2 k cap2), (4, .int .i64 (k : Nat))]) ∧ (ro = ro') ∧ (L' = R :: L) ∧ (k ≤ l.length) ∧ (OwnS 3 1 A2 k cap2 ((l.take k).flatMap encInt) R)) (l.length - 0) [(0, .slice A l.length cap), (3, .slice _ 0 l.length), (4, .int .i64 (0 : Nat))] ⟨rfl, rfl, rfl, trivial⟩ ⟨0, _, l.length, _, rfl, rfl, rfl, rfl, by omega, by simpa using hO7⟩ ?_
  rintro m F ro' L' ⟨k, A2, cap2, R, rfl, rfl, rfl, rfl, hk, hO⟩
  refine seq ?_
  refine seq ?_
  refine region ?_
  refine op (y (x_move rfl) rfl ?_)
  refine op (y (x_move rfl) rfl ?_)
  refine op (y (x_lenSl sz_23 rfl) rfl ?_)
  refine op (y (x_lss rfl rfl) rfl ?_)
  refine nil ?_
  refine n_then ?_
  refine cond rfl (fun h3 => ?_) (fun h3 => ?_)
  · try simp only [decide_eq_true_eq, decide_eq_false_iff_not, beq_iff_eq, bne_iff_ne, ne_eq, beq_eq_false_iff_ne, bne_eq_false_iff_eq, Bool.not_eq_true', Bool.not_eq_false', Bool.not_eq_true, Bool.not_eq_false, Decidable.not_not, Int.not_lt, Int.not_le] at h3
    refine skip ?_
    refine n_then ?_
    refine seq ?_
    refine block ?_
    obtain ⟨bbx, offx, rfl, hcx⟩ := hl.at_ (i := k) (by omega)
    have hx := List.getElem?_eq_getElem (show k < l.length from by omega)
    have cx0 := hcx k _ hx 0 _ rfl
    refine region ?_
    refine op (y (x_move rfl) rfl ?_)
    refine op (y (x_move rfl) rfl ?_)
    refine op (y (x_move rfl) rfl ?_)
    refine op (y (x_indexNat sz_23 rfl rfl (by omega)) rfl ?_)
    refine op (y (x_load1 ag_3 rfl (by first | assumption | exact Cell.own 0 rfl rfl | exact Cell.own 1 rfl rfl | exact Cell.own 2 rfl rfl | exact Cell.own 3 rfl rfl | exact Cell.own 4 rfl rfl | exact Cell.own 5 rfl rfl | exact Cell.ofRo (by assumption))) rfl ?_)
    refine op (e_slice1 rfl Try.underlying23 ti_3 rfl rfl (by decide) (by decide) rfl rfl rfl fun b19 => ?_)
    refine op (e_append1 0 rfl st_23 rfl rfl rfl hO rfl rfl (by omega) (by omega) (fun _ => rfl) fun A20 cap20 R20 hO20 => ?_)
    refine op (y (x_assign rfl) rfl ?_)
    refine nil ?_
    refine n_in ?_
    refine n_then ?_
    refine region ?_
    refine op (y (x_move rfl) rfl ?_)
    refine op (y (x_add rfl rfl _ (wr (by omega) (by omega))) rfl ?_)
    refine op (y (x_assign rfl) rfl ?_)
    refine nil ?_
    exact round (l.length - (k + 1)) [(0, .slice _ l.length cap), (3, .slice _ (k + 1) _), (4, .int .i64 ((k + 1) : Nat))] (by omega) ⟨rfl, rfl, rfl, trivial⟩ ⟨k + 1, _, _, _, rfl, rfl, rfl, rfl, by omega, by rw [take_snoc' hx]; exact hO20.snoc⟩
  · try simp only [decide_eq_true_eq, decide_eq_false_iff_not, beq_iff_eq, bne_iff_ne, ne_eq, beq_eq_false_iff_ne, bne_eq_false_iff_eq, Bool.not_eq_true', Bool.not_eq_false', Bool.not_eq_true, Bool.not_eq_false, Decidable.not_not, Int.not_lt, Int.not_le] at h3
    refine exit ?_
    refine e_then ?_
    refine e_then ?_
    refine e_in ?_
    refine n_then ?_
    refine seq ?_
    refine region ?_
    refine op (y (x_move rfl) rfl ?_)
    refine op (y (x_assign rfl) rfl ?_)
    refine nil ?_
    refine n_then ?_
    refine ret ?_
    obtain rfl : k = l.length := by omega
    rw [List.take_length] at hO
    exact done rfl (.tmp rfl (.nil)) (Ro.le.refl _) (_) (⟨_, .refl _, .refl _⟩) (⟨_, _, _, rfl, hO, rfl⟩)

theorem SameInts_c (l : List Int) (A : Option Addr) (cap : Nat) (o : List Int) (B : Option Addr) (cap2 : Nat) (ro : Ro) (L : List (List Blk)) (hl : Sl ro 1 encInt A cap l) (ho : Sl ro 1 encInt B cap2 o) :
    CT Try.prog 39 [.slice A l.length cap, .slice B o.length cap2].toArray ro L (PQ (.bool (decide (l = o))) ro L) := by
  have hcap : l.length ≤ 9223372036854775807 := by have := hl.1; have := hl.2.1; unfold maxLen at this; omega
  have hcap2 : o.length ≤ 9223372036854775807 := by have := ho.1; have := ho.2.1; unfold maxLen at this; omega
  refine enter Try.func39 rfl Try.ntmps39 rfl ?_
  refine seq ?_
  refine region ?_
  refine op (y (x_assign rfl) rfl ?_)
  refine nil ?_
  refine n_then ?_
  refine seq ?_
  refine seq ?_
  refine region ?_
  refine op (y (x_move rfl) rfl ?_)
  refine op (y (x_lenSl sz_23 rfl) rfl ?_)
  refine op (y (x_move rfl) rfl ?_)
  refine op (y (x_lenSl sz_23 rfl) rfl ?_)
  refine op (y (x_neq rfl rfl) rfl ?_)
  refine nil ?_
  refine n_then ?_
  refine cond rfl (fun h1 => ?_) (fun h1 => ?_)
  · try simp only [decide_eq_true_eq, decide_eq_false_iff_not, beq_iff_eq, bne_iff_ne, ne_eq, beq_eq_false_iff_ne, bne_eq_false_iff_eq, Bool.not_eq_true', Bool.not_eq_false', Bool.not_eq_true, Bool.not_eq_false, Decidable.not_not, Int.not_lt, Int.not_le] at h1
    refine seq ?_
    refine region ?_
    refine op (y (x_assign rfl) rfl ?_)
    refine nil ?_
    refine n_then ?_
    refine ret ?_
    refine r_then ?_
    exact done rfl (.tmp rfl (.nil)) (Ro.le.refl _) (L) (⟨_, .refl _, .refl _⟩) (⟨by rw [decide_eq_false]; rfl; intro e; subst e; exact h1 rfl, rfl, rfl⟩)
  · try simp only [decide_eq_true_eq, decide_eq_false_iff_not, beq_iff_eq, bne_iff_ne, ne_eq, beq_eq_false_iff_ne, bne_eq_false_iff_eq, Bool.not_eq_true', Bool.not_eq_false', Bool.not_eq_true, Bool.not_eq_false, Decidable.not_not, Int.not_lt, Int.not_le] at h1
    refine skip ?_
    refine n_then ?_
    refine seq ?_
    refine seq ?_
    refine region ?_
    refine op (y (x_assign rfl) rfl ?_)
    refine nil ?_
    refine n_then ?_
    refine block ?_
    refine loop (fun m F ro' L' => ∃ (k : Nat), (m = l.length - k) ∧ (F = [(0, .slice A l.length cap), (1, .slice B o.length cap2), (5, .int .i64 (k : Nat))]) ∧ (ro = ro') ∧ (L = L') ∧ (k ≤ l.length) ∧ (l.take k = o.take k)) (l.length - 0) [(0, .slice A l.length cap), (1, .slice B o.length cap2), (5, .int .i64 (0 : Nat))] ⟨rfl, rfl, rfl, trivial⟩ ⟨0, rfl, rfl, rfl, rfl, by omega, rfl⟩ ?_
    rintro m F ro' L' ⟨k, rfl, rfl, rfl, rfl, hk, hall⟩
    refine seq ?_
    refine seq ?_
    refine region ?_
    refine op (y (x_move rfl) rfl ?_)
    refine op (y (x_move rfl) rfl ?_)
    refine op (y (x_lenSl sz_23 rfl) rfl ?_)
    refine op (y (x_lss rfl rfl) rfl ?_)
    refine nil ?_
    refine n_then ?_
    refine cond rfl (fun h4 => ?_) (fun h4 => ?_)
    · try simp only [decide_eq_true_eq, decide_eq_false_iff_not, beq_iff_eq, bne_iff_ne, ne_eq, beq_eq_false_iff_ne, bne_eq_false_iff_eq, Bool.not_eq_true', Bool.not_eq_false', Bool.not_eq_true, Bool.not_eq_false, Decidable.not_not, Int.not_lt, Int.not_le] at h4
      refine skip ?_
      refine n_then ?_
      refine seq ?_
      refine block ?_
      refine seq ?_
      obtain ⟨bbx, offx, rfl, hcx⟩ := hl.at_ (i := k) (by omega)
      have hx := List.getElem?_eq_getElem (show k < l.length from by omega)
      have cx0 := hcx k _ hx 0 _ rfl
      obtain ⟨bbz, offz, rfl, hcz⟩ := ho.at_ (i := k) (by omega)
      have hz := List.getElem?_eq_getElem (show k < o.length from by omega)
      have cz0 := hcz k _ hz 0 _ rfl
      refine drawL (by kernel_rfl) ?_
      refine d_take 0 rfl (by kernel_rfl) (by kernel_rfl) (by kernel_rfl) (fun _ _ _ h => h) rfl (.inl rfl) (x_move rfl) (fun w hi => by first | exact hi.j | exact J.of_le (Ro.le.refl _) (fun x hx => List.mem_append_right _ hx) hi | exact J.of_le (Ro.le.refl _) (fun x hx => List.mem_append_right _ (List.mem_append_right _ hx)) hi | exact J.of_le (Ro.le.refl _) (fun x hx => absurd hx (by simp)) hi) ?_
      refine d_take 1 rfl (by kernel_rfl) (by kernel_rfl) (by kernel_rfl) (fun _ _ _ h => h) rfl (.inl rfl) (x_move rfl) (fun w hi => by first | exact hi.j | exact J.of_le (Ro.le.refl _) (fun x hx => List.mem_append_right _ hx) hi | exact J.of_le (Ro.le.refl _) (fun x hx => List.mem_append_right _ (List.mem_append_right _ hx)) hi | exact J.of_le (Ro.le.refl _) (fun x hx => absurd hx (by simp)) hi) ?_
      refine d_take 2 rfl (by kernel_rfl) (by kernel_rfl) (by kernel_rfl) (fun _ _ _ h => h) rfl (.inl rfl) (x_indexNat sz_23 rfl rfl (by omega)) (fun w hi => by first | exact hi.j | exact J.of_le (Ro.le.refl _) (fun x hx => List.mem_append_right _ hx) hi | exact J.of_le (Ro.le.refl _) (fun x hx => List.mem_append_right _ (List.mem_append_right _ hx)) hi | exact J.of_le (Ro.le.refl _) (fun x hx => absurd hx (by simp)) hi) ?_
      refine d_take 3 rfl (by kernel_rfl) (by kernel_rfl) (by kernel_rfl) (fun _ _ _ h => h) rfl (.inl rfl) (x_load1 ag_3 rfl (by first | assumption | exact Cell.own 0 rfl rfl | exact Cell.own 1 rfl rfl | exact Cell.own 2 rfl rfl | exact Cell.own 3 rfl rfl | exact Cell.own 4 rfl rfl | exact Cell.own 5 rfl rfl | exact Cell.ofRo (by assumption))) (fun w hi => by first | exact hi.j | exact J.of_le (Ro.le.refl _) (fun x hx => List.mem_append_right _ hx) hi | exact J.of_le (Ro.le.refl _) (fun x hx => List.mem_append_right _ (List.mem_append_right _ hx)) hi | exact J.of_le (Ro.le.refl _) (fun x hx => absurd hx (by simp)) hi) ?_
      refine d_take 4 rfl (by kernel_rfl) (by kernel_rfl) (by kernel_rfl) (fun _ _ _ h => h) rfl (.inl rfl) (x_move rfl) (fun w hi => by first | exact hi.j | exact J.of_le (Ro.le.refl _) (fun x hx => List.mem_append_right _ hx) hi | exact J.of_le (Ro.le.refl _) (fun x hx => List.mem_append_right _ (List.mem_append_right _ hx)) hi | exact J.of_le (Ro.le.refl _) (fun x hx => absurd hx (by simp)) hi) ?_
      refine d_take 5 rfl (by kernel_rfl) (by kernel_rfl) (by kernel_rfl) (fun _ _ _ h => h) rfl (.inl rfl) (x_move rfl) (fun w hi => by first | exact hi.j | exact J.of_le (Ro.le.refl _) (fun x hx => List.mem_append_right _ hx) hi | exact J.of_le (Ro.le.refl _) (fun x hx => List.mem_append_right _ (List.mem_append_right _ hx)) hi | exact J.of_le (Ro.le.refl _) (fun x hx => absurd hx (by simp)) hi) ?_
      refine d_take 6 rfl (by kernel_rfl) (by kernel_rfl) (by kernel_rfl) (fun _ _ _ h => h) rfl (.inl rfl) (x_indexNat sz_23 rfl rfl (by omega)) (fun w hi => by first | exact hi.j | exact J.of_le (Ro.le.refl _) (fun x hx => List.mem_append_right _ hx) hi | exact J.of_le (Ro.le.refl _) (fun x hx => List.mem_append_right _ (List.mem_append_right _ hx)) hi | exact J.of_le (Ro.le.refl _) (fun x hx => absurd hx (by simp)) hi) ?_
      refine d_take 7 rfl (by kernel_rfl) (by kernel_rfl) (by kernel_rfl) (fun _ _ _ h => h) rfl (.inl rfl) (x_load1 ag_3 rfl (by first | assumption | exact Cell.own 0 rfl rfl | exact Cell.own 1 rfl rfl | exact Cell.own 2 rfl rfl | exact Cell.own 3 rfl rfl | exact Cell.own 4 rfl rfl | exact Cell.own 5 rfl rfl | exact Cell.ofRo (by assumption))) (fun w hi => by first | exact hi.j | exact J.of_le (Ro.le.refl _) (fun x hx => List.mem_append_right _ hx) hi | exact J.of_le (Ro.le.refl _) (fun x hx => List.mem_append_right _ (List.mem_append_right _ hx)) hi | exact J.of_le (Ro.le.refl _) (fun x hx => absurd hx (by simp)) hi) ?_
      refine d_take 8 rfl (by kernel_rfl) (by kernel_rfl) (by kernel_rfl) (fun _ _ _ h => h) rfl (.inl rfl) (x_eql rfl rfl) (fun w hi => by first | exact hi.j | exact J.of_le (Ro.le.refl _) (fun x hx => List.mem_append_right _ hx) hi | exact J.of_le (Ro.le.refl _) (fun x hx => List.mem_append_right _ (List.mem_append_right _ hx)) hi | exact J.of_le (Ro.le.refl _) (fun x hx => absurd hx (by simp)) hi) ?_
      refine d_take 9 rfl (by kernel_rfl) (by kernel_rfl) (by kernel_rfl) (fun _ _ _ h => h) rfl (.inl rfl) (x_assign rfl) (fun w hi => by first | exact hi.j | exact J.of_le (Ro.le.refl _) (fun x hx => List.mem_append_right _ hx) hi | exact J.of_le (Ro.le.refl _) (fun x hx => List.mem_append_right _ (List.mem_append_right _ hx)) hi | exact J.of_le (Ro.le.refl _) (fun x hx => absurd hx (by simp)) hi) ?_
      refine d_end (by kernel_rfl) ?_
      refine n_then ?_
      refine seq ?_
      refine region ?_
      refine op (y (x_move rfl) rfl ?_)
      refine op (y (x_not rfl) rfl ?_)
      refine nil ?_
      refine n_then ?_
      refine cond rfl (fun h7 => ?_) (fun h7 => ?_)
      · try simp only [decide_eq_true_eq, decide_eq_false_iff_not, beq_iff_eq, bne_iff_ne, ne_eq, beq_eq_false_iff_ne, bne_eq_false_iff_eq, Bool.not_eq_true', Bool.not_eq_false', Bool.not_eq_true, Bool.not_eq_false, Decidable.not_not, Int.not_lt, Int.not_le] at h7
        refine seq ?_
        refine region ?_
        refine op (y (x_assign rfl) rfl ?_)
        refine nil ?_
        refine n_then ?_
        refine ret ?_
        refine r_in ?_
        refine r_then ?_
        refine r_then ?_
        refine r_in ?_
        refine r_then ?_
        exact done rfl (.tmp rfl (.nil)) (Ro.le.refl _) (L) (⟨_, .refl _, .refl _⟩) (⟨by rw [decide_eq_false]; rfl; intro e; subst e; exact h7 rfl, rfl, rfl⟩)
      · try simp only [decide_eq_true_eq, decide_eq_false_iff_not, beq_iff_eq, bne_iff_ne, ne_eq, beq_eq_false_iff_ne, bne_eq_false_iff_eq, Bool.not_eq_true', Bool.not_eq_false', Bool.not_eq_true, Bool.not_eq_false, Decidable.not_not, Int.not_lt, Int.not_le] at h7
        refine skip ?_
        refine n_in ?_
        refine n_then ?_
        refine region ?_
        refine op (y (x_move rfl) rfl ?_)
        refine op (y (x_add rfl rfl _ (wr (by omega) (by omega))) rfl ?_)
        refine op (y (x_assign rfl) rfl ?_)
        refine nil ?_
        exact round (l.length - (k + 1)) [(0, .slice _ l.length cap), (1, .slice _ o.length cap2), (5, .int .i64 ((k + 1) : Nat))] (by omega) ⟨rfl, rfl, rfl, trivial⟩ ⟨k + 1, rfl, rfl, rfl, rfl, by omega, by rw [take_snoc' hx, take_snoc' hz, hall, h7]⟩
    · try simp only [decide_eq_true_eq, decide_eq_false_iff_not, beq_iff_eq, bne_iff_ne, ne_eq, beq_eq_false_iff_ne, bne_eq_false_iff_eq, Bool.not_eq_true', Bool.not_eq_false', Bool.not_eq_true, Bool.not_eq_false, Decidable.not_not, Int.not_lt, Int.not_le] at h4
      refine exit ?_
      refine e_then ?_
      refine e_then ?_
      refine e_in ?_
      refine n_then ?_
      refine seq ?_
      refine region ?_
      refine op (y (x_assign rfl) rfl ?_)
      refine nil ?_
      refine n_then ?_
      refine ret ?_
      exact done rfl (.tmp rfl (.nil)) (Ro.le.refl _) (L) (⟨_, .refl _, .refl _⟩) (⟨by rw [decide_eq_true]; rfl; rw [show k = l.length by omega, List.take_length, List.take_of_length_le (by omega)] at hall; exact hall, rfl, rfl⟩)

theorem among_c (l : List Int) (A : Option Addr) (cap : Nat) (a : Int) (ro : Ro) (L : List (List Blk)) (hl : Sl ro 1 encInt A cap l) :
    CT Try.prog 34 [.slice A l.length cap, .int .i64 a].toArray ro L (PQ (.bool (decide (a ∈ l))) ro L) := by
  have hcap : l.length ≤ 9223372036854775807 := by have := hl.1; have := hl.2.1; unfold maxLen at this; omega
  refine enter Try.func34 rfl Try.ntmps34 rfl ?_
  refine seq ?_
  refine region ?_
  refine op (y (x_assign rfl) rfl ?_)
  refine nil ?_
  refine n_then ?_
  refine seq ?_
  refine seq ?_
  refine region ?_
  refine op (y (x_assign rfl) rfl ?_)
  refine nil ?_
  refine n_then ?_
  refine block ?_
  refine loop (fun m F ro' L' => ∃ (k : Nat), (m = l.length - k) ∧ (F = [(0, .slice A l.length cap), (1, .int .i64 a), (5, .int .i64 (k : Nat))]) ∧ (ro = ro') ∧ (L = L') ∧ (k ≤ l.length) ∧ (∀ j : Nat, j < k → l[j]? ≠ some a)) (l.length - 0) [(0, .slice A l.length cap), (1, .int .i64 a), (5, .int .i64 (0 : Nat))] ⟨rfl, rfl, rfl, trivial⟩ ⟨0, rfl, rfl, rfl, rfl, by omega, by intro j hj; omega⟩ ?_
  rintro m F ro' L' ⟨k, rfl, rfl, rfl, rfl, hk, hall⟩
  refine seq ?_
  refine seq ?_
  refine region ?_
  refine op (y (x_move rfl) rfl ?_)
  refine op (y (x_move rfl) rfl ?_)
  refine op (y (x_lenSl sz_23 rfl) rfl ?_)
  refine op (y (x_lss rfl rfl) rfl ?_)
  refine nil ?_
  refine n_then ?_
  refine cond rfl (fun h2 => ?_) (fun h2 => ?_)
  · try simp only [decide_eq_true_eq, decide_eq_false_iff_not, beq_iff_eq, bne_iff_ne, ne_eq, beq_eq_false_iff_ne, bne_eq_false_iff_eq, Bool.not_eq_true', Bool.not_eq_false', Bool.not_eq_true, Bool.not_eq_false, Decidable.not_not, Int.not_lt, Int.not_le] at h2
    refine skip ?_
    refine n_then ?_
    refine seq ?_
    refine block ?_
    refine seq ?_
    obtain ⟨bbx, offx, rfl, hcx⟩ := hl.at_ (i := k) (by omega)
    have hx := List.getElem?_eq_getElem (show k < l.length from by omega)
    have cx0 := hcx k _ hx 0 _ rfl
    refine region ?_
    refine op (y (x_move rfl) rfl ?_)
    refine op (y (x_move rfl) rfl ?_)
    refine op (y (x_indexNat sz_23 rfl rfl (by omega)) rfl ?_)
    refine op (y (x_load1 ag_3 rfl (by first | assumption | exact Cell.own 0 rfl rfl | exact Cell.own 1 rfl rfl | exact Cell.own 2 rfl rfl | exact Cell.own 3 rfl rfl | exact Cell.own 4 rfl rfl | exact Cell.own 5 rfl rfl | exact Cell.ofRo (by assumption))) rfl ?_)
    refine op (y (x_move rfl) rfl ?_)
    refine op (y (x_eql rfl rfl) rfl ?_)
    refine nil ?_
    refine n_then ?_
    refine cond rfl (fun h4 => ?_) (fun h4 => ?_)
    · try simp only [decide_eq_true_eq, decide_eq_false_iff_not, beq_iff_eq, bne_iff_ne, ne_eq, beq_eq_false_iff_ne, bne_eq_false_iff_eq, Bool.not_eq_true', Bool.not_eq_false', Bool.not_eq_true, Bool.not_eq_false, Decidable.not_not, Int.not_lt, Int.not_le] at h4
      refine seq ?_
      refine region ?_
      refine op (y (x_assign rfl) rfl ?_)
      refine nil ?_
      refine n_then ?_
      refine ret ?_
      refine r_in ?_
      refine r_then ?_
      refine r_then ?_
      refine r_in ?_
      refine r_then ?_
      exact done rfl (.tmp rfl (.nil)) (Ro.le.refl _) (L) (⟨_, .refl _, .refl _⟩) (⟨by rw [decide_eq_true]; rfl; exact List.mem_of_getElem? (i := k) (by rw [hx, h4]), rfl, rfl⟩)
    · try simp only [decide_eq_true_eq, decide_eq_false_iff_not, beq_iff_eq, bne_iff_ne, ne_eq, beq_eq_false_iff_ne, bne_eq_false_iff_eq, Bool.not_eq_true', Bool.not_eq_false', Bool.not_eq_true, Bool.not_eq_false, Decidable.not_not, Int.not_lt, Int.not_le] at h4
      refine skip ?_
      refine n_in ?_
      refine n_then ?_
      refine region ?_
      refine op (y (x_move rfl) rfl ?_)
      refine op (y (x_add rfl rfl _ (wr (by omega) (by omega))) rfl ?_)
      refine op (y (x_assign rfl) rfl ?_)
      refine nil ?_
      exact round (l.length - (k + 1)) [(0, .slice _ l.length cap), (1, .int .i64 a), (5, .int .i64 ((k + 1) : Nat))] (by omega) ⟨rfl, rfl, rfl, trivial⟩ ⟨k + 1, rfl, rfl, rfl, rfl, by omega, upto (p := fun j => l[j]? ≠ some a) hall (fun e => h4 (by rw [hx] at e; simpa using e))⟩
  · try simp only [decide_eq_true_eq, decide_eq_false_iff_not, beq_iff_eq, bne_iff_ne, ne_eq, beq_eq_false_iff_ne, bne_eq_false_iff_eq, Bool.not_eq_true', Bool.not_eq_false', Bool.not_eq_true, Bool.not_eq_false, Decidable.not_not, Int.not_lt, Int.not_le] at h2
    refine exit ?_
    refine e_then ?_
    refine e_then ?_
    refine e_in ?_
    refine n_then ?_
    refine seq ?_
    refine region ?_
    refine op (y (x_assign rfl) rfl ?_)
    refine nil ?_
    refine n_then ?_
    refine ret ?_
    exact done rfl (.tmp rfl (.nil)) (Ro.le.refl _) (L) (⟨_, .refl _, .refl _⟩) (⟨by rw [decide_eq_false]; rfl; exact not_mem_of (fun j hj => hall j (by omega)), rfl, rfl⟩)

end Go.Proofs.Ytlmeblhcipkgmaa
