/- The walk of the statement on any pairs, one by one. -/
import Derived.Test.YtlmeblhcipkgmaaL3
namespace Go.Proofs.Ytlmeblhcipkgmaa
open Go Go.U
set_option maxRecDepth 20000
set_option linter.unusedSimpArgs false
set_option linter.unusedVariables false

open Go.RowKit

theorem RelPlays_c (l : List (Int × Int)) (A : Option Addr) (cap : Nat) (a b : Int) (ro : Ro) (L : List (List Blk)) (hl : Sl ro 2 encPair A cap l) (h64 : ∀ p ∈ l, I64 p.1 ∧ I64 p.2) :
    CT Try.prog 7 [.slice A l.length cap, .int .i64 a, .int .i64 b].toArray ro L (PV (.bool true) L) := by
  have hcap : l.length ≤ 9223372036854775807 := by have := hl.1; have := hl.2.1; unfold maxLen at this; omega
  refine enter Try.func7 rfl Try.ntmps7 rfl ?_
  refine seq ?_
  refine region ?_
  refine op (y (x_assign rfl) rfl ?_)
  refine nil ?_
  refine n_then ?_
  refine seq ?_
  refine region ?_
  refine op (e_call rfl fn_15 rfl rfl (First_c _ _) fun v14 ro14 L14 hle14 hp14 => ?_)
  obtain ⟨rfl, rfl⟩ := hp14
  have hl1 := hl.mono hle14
  refine op (y (x_assign rfl) rfl ?_)
  refine nil ?_
  refine n_then ?_
  refine seq ?_
  refine seq ?_
  refine region ?_
  refine op (y (x_move rfl) rfl ?_)
  refine op (y (x_not rfl) rfl ?_)
  refine nil ?_
  refine n_then ?_
  refine condF rfl ?_
  refine skip ?_
  refine n_then ?_
  refine seq ?_
  refine seq ?_
  refine region ?_
  refine op (y (x_move rfl) rfl ?_)
  refine op (y (x_lenSl sz_22 rfl) rfl ?_)
  refine op (y (x_gtr rfl rfl) rfl ?_)
  refine op (y (x_move rfl) rfl ?_)
  refine bsplit 20 rfl (fun g20 => ?_) (fun g20 => ?_)
  · try simp only [decide_eq_true_eq, decide_eq_false_iff_not, beq_iff_eq, bne_iff_ne, ne_eq, beq_eq_false_iff_ne, bne_eq_false_iff_eq, Bool.not_eq_true', Bool.not_eq_false', Bool.not_eq_true, Bool.not_eq_false, Decidable.not_not, Int.not_lt, Int.not_le] at g20
    refine opN rfl rfl rfl rfl ?_
    refine opN rfl rfl rfl rfl ?_
    refine op (y (x_pickT rfl rfl) rfl ?_)
    refine nil ?_
    refine n_then ?_
    refine condT rfl ?_
    refine seq ?_
    refine region ?_
    refine op (y (x_move rfl) rfl ?_)
    refine op (y (x_assign rfl) rfl ?_)
    refine nil ?_
    refine n_then ?_
    refine ret ?_
    refine r_then ?_
    exact done rfl (.tmp rfl (.nil)) (hle14) (L) (⟨_, .refl _, .refl _⟩) (⟨rfl, rfl⟩)
  · try simp only [decide_eq_true_eq, decide_eq_false_iff_not, beq_iff_eq, bne_iff_ne, ne_eq, beq_eq_false_iff_ne, bne_eq_false_iff_eq, Bool.not_eq_true', Bool.not_eq_false', Bool.not_eq_true, Bool.not_eq_false, Decidable.not_not, Int.not_lt, Int.not_le] at g20
    refine opG rfl rfl (y (x_move rfl) rfl ?_)
    refine opG rfl rfl (y (x_not rfl) rfl ?_)
    refine op (y (x_pickF rfl rfl) rfl ?_)
    refine nil ?_
    refine n_then ?_
    refine condF rfl ?_
    refine skip ?_
    refine n_then ?_
    refine seq ?_
    refine region ?_
    refine op (e_call rfl fn_35 rfl rfl (RNew_c _ _) fun v25 ro25 L25 hle25 hp25 => ?_)
    obtain ⟨x, R, rfl, hR, rfl, rfl⟩ := hp25
    refine op (y (x_assign rfl) rfl ?_)
    refine nil ?_
    refine n_then ?_
    refine seq ?_
    refine seq ?_
    refine region ?_
    refine op (y (x_move rfl) rfl ?_)
    refine op (y (x_ptrEqNil Try.underlying25 rfl rfl) rfl ?_)
    refine nil ?_
    refine n_then ?_
    refine condF rfl ?_
    refine skip ?_
    refine n_then ?_
    refine seq ?_
    refine region ?_
    refine op (y (x_assign rfl) rfl ?_)
    refine nil ?_
    refine n_then ?_
    refine seq ?_
    refine seq ?_
    refine region ?_
    refine op (y (x_assign rfl) rfl ?_)
    refine nil ?_
    refine n_then ?_
    refine block ?_
    refine loop (fun m F ro' L' => ∃ (k : Nat) (R : List Blk) (A2 : Option Addr) (cap2 : Nat), (m = l.length - k) ∧ (F = [(0, .slice A l.length cap), (1, .int .i64 a), (2, .int .i64 b), (7, .bool true), (8, .pointer (some ⟨x, 0, none⟩)), (9, .slice A2 (mk (l.take k)).length cap2), (10, .int .i64 (k : Nat))]) ∧ (L' = R :: L) ∧ (k ≤ l.length) ∧ (ro.le ro') ∧ (Sl ro' 2 encPair A cap l) ∧ (RelI x (mk (l.take k)) R) ∧ (Sl ro' 2 encPair A2 cap2 (mk (l.take k)))) (l.length - 0) [(0, .slice A l.length cap), (1, .int .i64 a), (2, .int .i64 b), (7, .bool true), (8, .pointer (some ⟨x, 0, none⟩)), (9, .slice none (mk (l.take 0)).length 0), (10, .int .i64 (0 : Nat))] ⟨rfl, rfl, rfl, rfl, rfl, rfl, rfl, trivial⟩ ⟨0, _, none, 0, rfl, rfl, rfl, by omega, hle14, hl1, hR, ⟨by simp [mk], by simp [maxLen], by simp [mk], fun h => absurd rfl h⟩⟩ ?_
    rintro m F ro' L' ⟨k, R, A2, cap2, rfl, rfl, rfl, hk, hle, hl, hR, hO⟩
    obtain ⟨hs1, hs2, hs3⟩ := mk_spec l k hk
    refine seq ?_
    refine seq ?_
    refine region ?_
    refine op (y (x_move rfl) rfl ?_)
    refine op (y (x_move rfl) rfl ?_)
    refine op (y (x_lenSl sz_22 rfl) rfl ?_)
    refine op (y (x_lss rfl rfl) rfl ?_)
    refine nil ?_
    refine n_then ?_
    refine cond rfl (fun h11 => ?_) (fun h11 => ?_)
    · try simp only [decide_eq_true_eq, decide_eq_false_iff_not, beq_iff_eq, bne_iff_ne, ne_eq, beq_eq_false_iff_ne, bne_eq_false_iff_eq, Bool.not_eq_true', Bool.not_eq_false', Bool.not_eq_true, Bool.not_eq_false, Decidable.not_not, Int.not_lt, Int.not_le] at h11
      refine skip ?_
      refine n_then ?_
      refine seq ?_
      refine block ?_
      refine seq ?_
      obtain ⟨bbx, offx, rfl, hcx⟩ := hl.at_ (i := k) (by omega)
      have hx := List.getElem?_eq_getElem (show k < l.length from by omega)
      have cx0 := hcx k _ hx 0 _ rfl
      have cx1 := hcx k _ hx 1 _ rfl
      have h64x := h64 _ (List.mem_of_getElem? hx)
      have hmt := mk_take hx
      refine draw ([]) (by kernel_rfl) ?_
      refine d_take 0 rfl (by kernel_rfl) (by kernel_rfl) (by kernel_rfl) (fun _ _ _ h => h) rfl (.inl rfl) (x_move rfl) (fun w hi => by first | exact hi.j | exact J.of_le (Ro.le.refl _) (fun x hx => List.mem_append_right _ hx) hi | exact J.of_le (Ro.le.refl _) (fun x hx => List.mem_append_right _ (List.mem_append_right _ hx)) hi | exact J.of_le (Ro.le.refl _) (fun x hx => absurd hx (by simp)) hi | exact J.of_le (by assumption) (fun x hx => absurd hx (by simp)) hi) ?_
      refine d_take 1 rfl (by kernel_rfl) (by kernel_rfl) (by kernel_rfl) (fun _ _ _ h => h) rfl (.inl rfl) (x_move rfl) (fun w hi => by first | exact hi.j | exact J.of_le (Ro.le.refl _) (fun x hx => List.mem_append_right _ hx) hi | exact J.of_le (Ro.le.refl _) (fun x hx => List.mem_append_right _ (List.mem_append_right _ hx)) hi | exact J.of_le (Ro.le.refl _) (fun x hx => absurd hx (by simp)) hi | exact J.of_le (by assumption) (fun x hx => absurd hx (by simp)) hi) ?_
      refine d_take 2 rfl (by kernel_rfl) (by kernel_rfl) (by kernel_rfl) (fun _ _ _ h => h) rfl (.inl rfl) (x_move rfl) (fun w hi => by first | exact hi.j | exact J.of_le (Ro.le.refl _) (fun x hx => List.mem_append_right _ hx) hi | exact J.of_le (Ro.le.refl _) (fun x hx => List.mem_append_right _ (List.mem_append_right _ hx)) hi | exact J.of_le (Ro.le.refl _) (fun x hx => absurd hx (by simp)) hi | exact J.of_le (by assumption) (fun x hx => absurd hx (by simp)) hi) ?_
      refine d_take 3 rfl (by kernel_rfl) (by kernel_rfl) (by kernel_rfl) (fun _ _ _ h => h) rfl (.inl rfl) (x_indexNat sz_22 rfl rfl (by omega)) (fun w hi => by first | exact hi.j | exact J.of_le (Ro.le.refl _) (fun x hx => List.mem_append_right _ hx) hi | exact J.of_le (Ro.le.refl _) (fun x hx => List.mem_append_right _ (List.mem_append_right _ hx)) hi | exact J.of_le (Ro.le.refl _) (fun x hx => absurd hx (by simp)) hi | exact J.of_le (by assumption) (fun x hx => absurd hx (by simp)) hi) ?_
      refine d_take 4 rfl (by kernel_rfl) (by kernel_rfl) (by kernel_rfl) (fun _ _ _ h => h) rfl (.inl rfl) (x_fieldAddr fo_40_0 rfl) (fun w hi => by first | exact hi.j | exact J.of_le (Ro.le.refl _) (fun x hx => List.mem_append_right _ hx) hi | exact J.of_le (Ro.le.refl _) (fun x hx => List.mem_append_right _ (List.mem_append_right _ hx)) hi | exact J.of_le (Ro.le.refl _) (fun x hx => absurd hx (by simp)) hi | exact J.of_le (by assumption) (fun x hx => absurd hx (by simp)) hi) ?_
      refine d_take 5 rfl (by kernel_rfl) (by kernel_rfl) (by kernel_rfl) (fun _ _ _ h => h) rfl (.inl rfl) (x_load1 ag_3 rfl (by first | assumption | exact Cell.own 0 rfl rfl | exact Cell.own 1 rfl rfl | exact Cell.own 2 rfl rfl | exact Cell.own 3 rfl rfl | exact Cell.own 4 rfl rfl | exact Cell.own 5 rfl rfl | exact Cell.ofRo (by assumption))) (fun w hi => by first | exact hi.j | exact J.of_le (Ro.le.refl _) (fun x hx => List.mem_append_right _ hx) hi | exact J.of_le (Ro.le.refl _) (fun x hx => List.mem_append_right _ (List.mem_append_right _ hx)) hi | exact J.of_le (Ro.le.refl _) (fun x hx => absurd hx (by simp)) hi | exact J.of_le (by assumption) (fun x hx => absurd hx (by simp)) hi) ?_
      refine d_take 6 rfl (by kernel_rfl) (by kernel_rfl) (by kernel_rfl) (fun _ _ _ h => h) rfl (.inl rfl) (x_move rfl) (fun w hi => by first | exact hi.j | exact J.of_le (Ro.le.refl _) (fun x hx => List.mem_append_right _ hx) hi | exact J.of_le (Ro.le.refl _) (fun x hx => List.mem_append_right _ (List.mem_append_right _ hx)) hi | exact J.of_le (Ro.le.refl _) (fun x hx => absurd hx (by simp)) hi | exact J.of_le (by assumption) (fun x hx => absurd hx (by simp)) hi) ?_
      refine d_take 7 rfl (by kernel_rfl) (by kernel_rfl) (by kernel_rfl) (fun _ _ _ h => h) rfl (.inl rfl) (x_move rfl) (fun w hi => by first | exact hi.j | exact J.of_le (Ro.le.refl _) (fun x hx => List.mem_append_right _ hx) hi | exact J.of_le (Ro.le.refl _) (fun x hx => List.mem_append_right _ (List.mem_append_right _ hx)) hi | exact J.of_le (Ro.le.refl _) (fun x hx => absurd hx (by simp)) hi | exact J.of_le (by assumption) (fun x hx => absurd hx (by simp)) hi) ?_
      refine d_take 8 rfl (by kernel_rfl) (by kernel_rfl) (by kernel_rfl) (fun _ _ _ h => h) rfl (.inl rfl) (x_indexNat sz_22 rfl rfl (by omega)) (fun w hi => by first | exact hi.j | exact J.of_le (Ro.le.refl _) (fun x hx => List.mem_append_right _ hx) hi | exact J.of_le (Ro.le.refl _) (fun x hx => List.mem_append_right _ (List.mem_append_right _ hx)) hi | exact J.of_le (Ro.le.refl _) (fun x hx => absurd hx (by simp)) hi | exact J.of_le (by assumption) (fun x hx => absurd hx (by simp)) hi) ?_
      refine d_take 9 rfl (by kernel_rfl) (by kernel_rfl) (by kernel_rfl) (fun _ _ _ h => h) rfl (.inl rfl) (x_fieldAddr fo_40_1 rfl) (fun w hi => by first | exact hi.j | exact J.of_le (Ro.le.refl _) (fun x hx => List.mem_append_right _ hx) hi | exact J.of_le (Ro.le.refl _) (fun x hx => List.mem_append_right _ (List.mem_append_right _ hx)) hi | exact J.of_le (Ro.le.refl _) (fun x hx => absurd hx (by simp)) hi | exact J.of_le (by assumption) (fun x hx => absurd hx (by simp)) hi) ?_
      refine d_take 10 rfl (by kernel_rfl) (by kernel_rfl) (by kernel_rfl) (fun _ _ _ h => h) rfl (.inl rfl) (x_load1 ag_3 rfl (by first | assumption | exact Cell.own 0 rfl rfl | exact Cell.own 1 rfl rfl | exact Cell.own 2 rfl rfl | exact Cell.own 3 rfl rfl | exact Cell.own 4 rfl rfl | exact Cell.own 5 rfl rfl | exact Cell.ofRo (by assumption))) (fun w hi => by first | exact hi.j | exact J.of_le (Ro.le.refl _) (fun x hx => List.mem_append_right _ hx) hi | exact J.of_le (Ro.le.refl _) (fun x hx => List.mem_append_right _ (List.mem_append_right _ hx)) hi | exact J.of_le (Ro.le.refl _) (fun x hx => absurd hx (by simp)) hi | exact J.of_le (by assumption) (fun x hx => absurd hx (by simp)) hi) ?_
      refine d_one 11 rfl (by kernel_rfl) (.inl rfl) (e_call rfl fn_36 rfl rfl (Has_c (mk (l.take k)) A2 cap2 _ _ _ _ hO) fun v45 ro45 L45 hle45 hp45 => ?_)
      obtain ⟨rfl, rfl, rfl⟩ := hp45
      refine d_next (fun w hi => by first | exact hi.j | exact J.of_le (Ro.le.refl _) (fun x hx => List.mem_append_right _ hx) hi | exact J.of_le (Ro.le.refl _) (fun x hx => List.mem_append_right _ (List.mem_append_right _ hx)) hi | exact J.of_le (Ro.le.refl _) (fun x hx => absurd hx (by simp)) hi | exact J.of_le (by assumption) (fun x hx => absurd hx (by simp)) hi) ?_
      refine d_take 12 rfl (by kernel_rfl) (by kernel_rfl) (by kernel_rfl) (fun _ _ _ h => h) rfl (.inl rfl) (x_not rfl) (fun w hi => by first | exact hi.j | exact J.of_le (Ro.le.refl _) (fun x hx => List.mem_append_right _ hx) hi | exact J.of_le (Ro.le.refl _) (fun x hx => List.mem_append_right _ (List.mem_append_right _ hx)) hi | exact J.of_le (Ro.le.refl _) (fun x hx => absurd hx (by simp)) hi | exact J.of_le (by assumption) (fun x hx => absurd hx (by simp)) hi) ?_
      refine d_take 13 rfl (by kernel_rfl) (by kernel_rfl) (by kernel_rfl) (fun _ _ _ h => h) rfl (.inl rfl) (x_assign rfl) (fun w hi => by first | exact hi.j | exact J.of_le (Ro.le.refl _) (fun x hx => List.mem_append_right _ hx) hi | exact J.of_le (Ro.le.refl _) (fun x hx => List.mem_append_right _ (List.mem_append_right _ hx)) hi | exact J.of_le (Ro.le.refl _) (fun x hx => absurd hx (by simp)) hi | exact J.of_le (by assumption) (fun x hx => absurd hx (by simp)) hi) ?_
      refine d_end (by kernel_rfl) ?_
      refine n_then ?_
      refine seq ?_
      refine seq ?_
      refine draw ([]) (by kernel_rfl) ?_
      refine d_take 0 rfl (by kernel_rfl) (by kernel_rfl) (by kernel_rfl) (fun _ _ _ h => h) rfl (.inl rfl) (x_move rfl) (fun w hi => by first | exact hi.j | exact J.of_le (Ro.le.refl _) (fun x hx => List.mem_append_right _ hx) hi | exact J.of_le (Ro.le.refl _) (fun x hx => List.mem_append_right _ (List.mem_append_right _ hx)) hi | exact J.of_le (Ro.le.refl _) (fun x hx => absurd hx (by simp)) hi | exact J.of_le (by assumption) (fun x hx => absurd hx (by simp)) hi) ?_
      refine d_take 1 rfl (by kernel_rfl) (by kernel_rfl) (by kernel_rfl) (fun _ _ _ h => h) rfl (.inl rfl) (x_move rfl) (fun w hi => by first | exact hi.j | exact J.of_le (Ro.le.refl _) (fun x hx => List.mem_append_right _ hx) hi | exact J.of_le (Ro.le.refl _) (fun x hx => List.mem_append_right _ (List.mem_append_right _ hx)) hi | exact J.of_le (Ro.le.refl _) (fun x hx => absurd hx (by simp)) hi | exact J.of_le (by assumption) (fun x hx => absurd hx (by simp)) hi) ?_
      refine d_take 2 rfl (by kernel_rfl) (by kernel_rfl) (by kernel_rfl) (fun _ _ _ h => h) rfl (.inl rfl) (x_move rfl) (fun w hi => by first | exact hi.j | exact J.of_le (Ro.le.refl _) (fun x hx => List.mem_append_right _ hx) hi | exact J.of_le (Ro.le.refl _) (fun x hx => List.mem_append_right _ (List.mem_append_right _ hx)) hi | exact J.of_le (Ro.le.refl _) (fun x hx => absurd hx (by simp)) hi | exact J.of_le (by assumption) (fun x hx => absurd hx (by simp)) hi) ?_
      refine d_take 3 rfl (by kernel_rfl) (by kernel_rfl) (by kernel_rfl) (fun _ _ _ h => h) rfl (.inl rfl) (x_indexNat sz_22 rfl rfl (by omega)) (fun w hi => by first | exact hi.j | exact J.of_le (Ro.le.refl _) (fun x hx => List.mem_append_right _ hx) hi | exact J.of_le (Ro.le.refl _) (fun x hx => List.mem_append_right _ (List.mem_append_right _ hx)) hi | exact J.of_le (Ro.le.refl _) (fun x hx => absurd hx (by simp)) hi | exact J.of_le (by assumption) (fun x hx => absurd hx (by simp)) hi) ?_
      refine d_take 4 rfl (by kernel_rfl) (by kernel_rfl) (by kernel_rfl) (fun _ _ _ h => h) rfl (.inl rfl) (x_fieldAddr fo_40_0 rfl) (fun w hi => by first | exact hi.j | exact J.of_le (Ro.le.refl _) (fun x hx => List.mem_append_right _ hx) hi | exact J.of_le (Ro.le.refl _) (fun x hx => List.mem_append_right _ (List.mem_append_right _ hx)) hi | exact J.of_le (Ro.le.refl _) (fun x hx => absurd hx (by simp)) hi | exact J.of_le (by assumption) (fun x hx => absurd hx (by simp)) hi) ?_
      refine d_take 5 rfl (by kernel_rfl) (by kernel_rfl) (by kernel_rfl) (fun _ _ _ h => h) rfl (.inl rfl) (x_load1 ag_3 rfl (by first | assumption | exact Cell.own 0 rfl rfl | exact Cell.own 1 rfl rfl | exact Cell.own 2 rfl rfl | exact Cell.own 3 rfl rfl | exact Cell.own 4 rfl rfl | exact Cell.own 5 rfl rfl | exact Cell.ofRo (by assumption))) (fun w hi => by first | exact hi.j | exact J.of_le (Ro.le.refl _) (fun x hx => List.mem_append_right _ hx) hi | exact J.of_le (Ro.le.refl _) (fun x hx => List.mem_append_right _ (List.mem_append_right _ hx)) hi | exact J.of_le (Ro.le.refl _) (fun x hx => absurd hx (by simp)) hi | exact J.of_le (by assumption) (fun x hx => absurd hx (by simp)) hi) ?_
      refine d_take 6 rfl (by kernel_rfl) (by kernel_rfl) (by kernel_rfl) (fun _ _ _ h => h) rfl (.inl rfl) (x_move rfl) (fun w hi => by first | exact hi.j | exact J.of_le (Ro.le.refl _) (fun x hx => List.mem_append_right _ hx) hi | exact J.of_le (Ro.le.refl _) (fun x hx => List.mem_append_right _ (List.mem_append_right _ hx)) hi | exact J.of_le (Ro.le.refl _) (fun x hx => absurd hx (by simp)) hi | exact J.of_le (by assumption) (fun x hx => absurd hx (by simp)) hi) ?_
      refine d_take 7 rfl (by kernel_rfl) (by kernel_rfl) (by kernel_rfl) (fun _ _ _ h => h) rfl (.inl rfl) (x_move rfl) (fun w hi => by first | exact hi.j | exact J.of_le (Ro.le.refl _) (fun x hx => List.mem_append_right _ hx) hi | exact J.of_le (Ro.le.refl _) (fun x hx => List.mem_append_right _ (List.mem_append_right _ hx)) hi | exact J.of_le (Ro.le.refl _) (fun x hx => absurd hx (by simp)) hi | exact J.of_le (by assumption) (fun x hx => absurd hx (by simp)) hi) ?_
      refine d_take 8 rfl (by kernel_rfl) (by kernel_rfl) (by kernel_rfl) (fun _ _ _ h => h) rfl (.inl rfl) (x_indexNat sz_22 rfl rfl (by omega)) (fun w hi => by first | exact hi.j | exact J.of_le (Ro.le.refl _) (fun x hx => List.mem_append_right _ hx) hi | exact J.of_le (Ro.le.refl _) (fun x hx => List.mem_append_right _ (List.mem_append_right _ hx)) hi | exact J.of_le (Ro.le.refl _) (fun x hx => absurd hx (by simp)) hi | exact J.of_le (by assumption) (fun x hx => absurd hx (by simp)) hi) ?_
      refine d_take 9 rfl (by kernel_rfl) (by kernel_rfl) (by kernel_rfl) (fun _ _ _ h => h) rfl (.inl rfl) (x_fieldAddr fo_40_1 rfl) (fun w hi => by first | exact hi.j | exact J.of_le (Ro.le.refl _) (fun x hx => List.mem_append_right _ hx) hi | exact J.of_le (Ro.le.refl _) (fun x hx => List.mem_append_right _ (List.mem_append_right _ hx)) hi | exact J.of_le (Ro.le.refl _) (fun x hx => absurd hx (by simp)) hi | exact J.of_le (by assumption) (fun x hx => absurd hx (by simp)) hi) ?_
      refine d_take 10 rfl (by kernel_rfl) (by kernel_rfl) (by kernel_rfl) (fun _ _ _ h => h) rfl (.inl rfl) (x_load1 ag_3 rfl (by first | assumption | exact Cell.own 0 rfl rfl | exact Cell.own 1 rfl rfl | exact Cell.own 2 rfl rfl | exact Cell.own 3 rfl rfl | exact Cell.own 4 rfl rfl | exact Cell.own 5 rfl rfl | exact Cell.ofRo (by assumption))) (fun w hi => by first | exact hi.j | exact J.of_le (Ro.le.refl _) (fun x hx => List.mem_append_right _ hx) hi | exact J.of_le (Ro.le.refl _) (fun x hx => List.mem_append_right _ (List.mem_append_right _ hx)) hi | exact J.of_le (Ro.le.refl _) (fun x hx => absurd hx (by simp)) hi | exact J.of_le (by assumption) (fun x hx => absurd hx (by simp)) hi) ?_
      refine d_take 12 rfl (by kernel_rfl) (by kernel_rfl) (by kernel_rfl) (fun _ _ _ h => h) rfl (.inl rfl) (x_move rfl) (fun w hi => by first | exact hi.j | exact J.of_le (Ro.le.refl _) (fun x hx => List.mem_append_right _ hx) hi | exact J.of_le (Ro.le.refl _) (fun x hx => List.mem_append_right _ (List.mem_append_right _ hx)) hi | exact J.of_le (Ro.le.refl _) (fun x hx => absurd hx (by simp)) hi | exact J.of_le (by assumption) (fun x hx => absurd hx (by simp)) hi) ?_
      refine d_one 11 rfl (by kernel_rfl) (.inl rfl) (e_call rfl fn_33 rfl rfl (RHas_c x _ R _ _ hR (List.mem_cons_self) _ _) fun v58 ro58 L58 hle58 hp58 => ?_)
      obtain ⟨rfl, rfl, rfl⟩ := hp58
      refine d_next (fun w hi => by first | exact hi.j | exact J.of_le (Ro.le.refl _) (fun x hx => List.mem_append_right _ hx) hi | exact J.of_le (Ro.le.refl _) (fun x hx => List.mem_append_right _ (List.mem_append_right _ hx)) hi | exact J.of_le (Ro.le.refl _) (fun x hx => absurd hx (by simp)) hi | exact J.of_le (by assumption) (fun x hx => absurd hx (by simp)) hi) ?_
      refine d_take 13 rfl (by kernel_rfl) (by kernel_rfl) (by kernel_rfl) (fun _ _ _ h => h) rfl (.inl rfl) ((x_beql Try.underlying4 rfl rfl).as (v' := .bool false) (by cases decide (((l[k]).1, (l[k]).2) ∈ mk (l.take k)) <;> rfl)) (fun w hi => by first | exact hi.j | exact J.of_le (Ro.le.refl _) (fun x hx => List.mem_append_right _ hx) hi | exact J.of_le (Ro.le.refl _) (fun x hx => List.mem_append_right _ (List.mem_append_right _ hx)) hi | exact J.of_le (Ro.le.refl _) (fun x hx => absurd hx (by simp)) hi | exact J.of_le (by assumption) (fun x hx => absurd hx (by simp)) hi) ?_
      refine d_take 14 rfl (by kernel_rfl) (by kernel_rfl) (by kernel_rfl) (fun _ _ _ h => h) rfl (.inl rfl) (x_move rfl) (fun w hi => by first | exact hi.j | exact J.of_le (Ro.le.refl _) (fun x hx => List.mem_append_right _ hx) hi | exact J.of_le (Ro.le.refl _) (fun x hx => List.mem_append_right _ (List.mem_append_right _ hx)) hi | exact J.of_le (Ro.le.refl _) (fun x hx => absurd hx (by simp)) hi | exact J.of_le (by assumption) (fun x hx => absurd hx (by simp)) hi) ?_
      refine d_take 15 rfl (by kernel_rfl) (by kernel_rfl) (by kernel_rfl) (fun _ _ _ h => h) rfl (.inr ⟨_, _, _, rfl, rfl, rfl⟩) (x_move rfl) (fun w hi => by first | exact hi.j | exact J.of_le (Ro.le.refl _) (fun x hx => List.mem_append_right _ hx) hi | exact J.of_le (Ro.le.refl _) (fun x hx => List.mem_append_right _ (List.mem_append_right _ hx)) hi | exact J.of_le (Ro.le.refl _) (fun x hx => absurd hx (by simp)) hi | exact J.of_le (by assumption) (fun x hx => absurd hx (by simp)) hi) ?_
      refine d_take 16 rfl (by kernel_rfl) (by kernel_rfl) (by kernel_rfl) (fun _ _ _ h => h) rfl (.inr ⟨_, _, _, rfl, rfl, rfl⟩) (x_move rfl) (fun w hi => by first | exact hi.j | exact J.of_le (Ro.le.refl _) (fun x hx => List.mem_append_right _ hx) hi | exact J.of_le (Ro.le.refl _) (fun x hx => List.mem_append_right _ (List.mem_append_right _ hx)) hi | exact J.of_le (Ro.le.refl _) (fun x hx => absurd hx (by simp)) hi | exact J.of_le (by assumption) (fun x hx => absurd hx (by simp)) hi) ?_
      refine d_take 17 rfl (by kernel_rfl) (by kernel_rfl) (by kernel_rfl) (fun _ _ _ h => h) rfl (.inr ⟨_, _, _, rfl, rfl, rfl⟩) (x_move rfl) (fun w hi => by first | exact hi.j | exact J.of_le (Ro.le.refl _) (fun x hx => List.mem_append_right _ hx) hi | exact J.of_le (Ro.le.refl _) (fun x hx => List.mem_append_right _ (List.mem_append_right _ hx)) hi | exact J.of_le (Ro.le.refl _) (fun x hx => absurd hx (by simp)) hi | exact J.of_le (by assumption) (fun x hx => absurd hx (by simp)) hi) ?_
      refine d_take 18 rfl (by kernel_rfl) (by kernel_rfl) (by kernel_rfl) (fun _ _ _ h => h) rfl (.inr ⟨_, _, _, rfl, rfl, rfl⟩) (x_indexNat sz_22 rfl rfl (by omega)) (fun w hi => by first | exact hi.j | exact J.of_le (Ro.le.refl _) (fun x hx => List.mem_append_right _ hx) hi | exact J.of_le (Ro.le.refl _) (fun x hx => List.mem_append_right _ (List.mem_append_right _ hx)) hi | exact J.of_le (Ro.le.refl _) (fun x hx => absurd hx (by simp)) hi | exact J.of_le (by assumption) (fun x hx => absurd hx (by simp)) hi) ?_
      refine d_take 19 rfl (by kernel_rfl) (by kernel_rfl) (by kernel_rfl) (fun _ _ _ h => h) rfl (.inr ⟨_, _, _, rfl, rfl, rfl⟩) (x_fieldAddr fo_40_0 rfl) (fun w hi => by first | exact hi.j | exact J.of_le (Ro.le.refl _) (fun x hx => List.mem_append_right _ hx) hi | exact J.of_le (Ro.le.refl _) (fun x hx => List.mem_append_right _ (List.mem_append_right _ hx)) hi | exact J.of_le (Ro.le.refl _) (fun x hx => absurd hx (by simp)) hi | exact J.of_le (by assumption) (fun x hx => absurd hx (by simp)) hi) ?_
      refine d_take 20 rfl (by kernel_rfl) (by kernel_rfl) (by kernel_rfl) (fun _ _ _ h => h) rfl (.inr ⟨_, _, _, rfl, rfl, rfl⟩) (x_load1 ag_3 rfl (by first | assumption | exact Cell.own 0 rfl rfl | exact Cell.own 1 rfl rfl | exact Cell.own 2 rfl rfl | exact Cell.own 3 rfl rfl | exact Cell.own 4 rfl rfl | exact Cell.own 5 rfl rfl | exact Cell.ofRo (by assumption))) (fun w hi => by first | exact hi.j | exact J.of_le (Ro.le.refl _) (fun x hx => List.mem_append_right _ hx) hi | exact J.of_le (Ro.le.refl _) (fun x hx => List.mem_append_right _ (List.mem_append_right _ hx)) hi | exact J.of_le (Ro.le.refl _) (fun x hx => absurd hx (by simp)) hi | exact J.of_le (by assumption) (fun x hx => absurd hx (by simp)) hi) ?_
      refine d_take 21 rfl (by kernel_rfl) (by kernel_rfl) (by kernel_rfl) (fun _ _ _ h => h) rfl (.inr ⟨_, _, _, rfl, rfl, rfl⟩) (x_move rfl) (fun w hi => by first | exact hi.j | exact J.of_le (Ro.le.refl _) (fun x hx => List.mem_append_right _ hx) hi | exact J.of_le (Ro.le.refl _) (fun x hx => List.mem_append_right _ (List.mem_append_right _ hx)) hi | exact J.of_le (Ro.le.refl _) (fun x hx => absurd hx (by simp)) hi | exact J.of_le (by assumption) (fun x hx => absurd hx (by simp)) hi) ?_
      refine d_take 22 rfl (by kernel_rfl) (by kernel_rfl) (by kernel_rfl) (fun _ _ _ h => h) rfl (.inr ⟨_, _, _, rfl, rfl, rfl⟩) (x_move rfl) (fun w hi => by first | exact hi.j | exact J.of_le (Ro.le.refl _) (fun x hx => List.mem_append_right _ hx) hi | exact J.of_le (Ro.le.refl _) (fun x hx => List.mem_append_right _ (List.mem_append_right _ hx)) hi | exact J.of_le (Ro.le.refl _) (fun x hx => absurd hx (by simp)) hi | exact J.of_le (by assumption) (fun x hx => absurd hx (by simp)) hi) ?_
      refine d_take 23 rfl (by kernel_rfl) (by kernel_rfl) (by kernel_rfl) (fun _ _ _ h => h) rfl (.inr ⟨_, _, _, rfl, rfl, rfl⟩) (x_indexNat sz_22 rfl rfl (by omega)) (fun w hi => by first | exact hi.j | exact J.of_le (Ro.le.refl _) (fun x hx => List.mem_append_right _ hx) hi | exact J.of_le (Ro.le.refl _) (fun x hx => List.mem_append_right _ (List.mem_append_right _ hx)) hi | exact J.of_le (Ro.le.refl _) (fun x hx => absurd hx (by simp)) hi | exact J.of_le (by assumption) (fun x hx => absurd hx (by simp)) hi) ?_
      refine d_take 24 rfl (by kernel_rfl) (by kernel_rfl) (by kernel_rfl) (fun _ _ _ h => h) rfl (.inr ⟨_, _, _, rfl, rfl, rfl⟩) (x_fieldAddr fo_40_1 rfl) (fun w hi => by first | exact hi.j | exact J.of_le (Ro.le.refl _) (fun x hx => List.mem_append_right _ hx) hi | exact J.of_le (Ro.le.refl _) (fun x hx => List.mem_append_right _ (List.mem_append_right _ hx)) hi | exact J.of_le (Ro.le.refl _) (fun x hx => absurd hx (by simp)) hi | exact J.of_le (by assumption) (fun x hx => absurd hx (by simp)) hi) ?_
      refine d_take 25 rfl (by kernel_rfl) (by kernel_rfl) (by kernel_rfl) (fun _ _ _ h => h) rfl (.inr ⟨_, _, _, rfl, rfl, rfl⟩) (x_load1 ag_3 rfl (by first | assumption | exact Cell.own 0 rfl rfl | exact Cell.own 1 rfl rfl | exact Cell.own 2 rfl rfl | exact Cell.own 3 rfl rfl | exact Cell.own 4 rfl rfl | exact Cell.own 5 rfl rfl | exact Cell.ofRo (by assumption))) (fun w hi => by first | exact hi.j | exact J.of_le (Ro.le.refl _) (fun x hx => List.mem_append_right _ hx) hi | exact J.of_le (Ro.le.refl _) (fun x hx => List.mem_append_right _ (List.mem_append_right _ hx)) hi | exact J.of_le (Ro.le.refl _) (fun x hx => absurd hx (by simp)) hi | exact J.of_le (by assumption) (fun x hx => absurd hx (by simp)) hi) ?_
      refine d_take 27 rfl (by kernel_rfl) (by kernel_rfl) (by kernel_rfl) (fun _ _ _ h => h) rfl (.inr ⟨_, _, _, rfl, rfl, rfl⟩) (x_move rfl) (fun w hi => by first | exact hi.j | exact J.of_le (Ro.le.refl _) (fun x hx => List.mem_append_right _ hx) hi | exact J.of_le (Ro.le.refl _) (fun x hx => List.mem_append_right _ (List.mem_append_right _ hx)) hi | exact J.of_le (Ro.le.refl _) (fun x hx => absurd hx (by simp)) hi | exact J.of_le (by assumption) (fun x hx => absurd hx (by simp)) hi) ?_
      refine d_one 26 rfl (by kernel_rfl) (.inr ⟨_, _, _, rfl, rfl, rfl⟩) (e_call rfl fn_37 rfl rfl (RAdd_c x _ _ _ _ hR _ _ h64x.1 h64x.2) fun v73 ro73 L73 hle73 hp73 => ?_)
      obtain ⟨rfl, R2, hR2, rfl, rfl⟩ := hp73
      have hR3 := hR2.perm (putP_perm _ _)
      rw [← hmt] at hR3
      refine d_next (fun w hi => by first | exact hi.j | exact J.of_le (Ro.le.refl _) (fun x hx => List.mem_append_right _ hx) hi | exact J.of_le (Ro.le.refl _) (fun x hx => List.mem_append_right _ (List.mem_append_right _ hx)) hi | exact J.of_le (Ro.le.refl _) (fun x hx => absurd hx (by simp)) hi | exact J.of_le (by assumption) (fun x hx => absurd hx (by simp)) hi) ?_
      refine d_take 28 rfl (by kernel_rfl) (by kernel_rfl) (by kernel_rfl) (fun _ _ _ h => h) rfl (.inr ⟨_, _, _, rfl, rfl, rfl⟩) ((x_bneq Try.underlying4 rfl rfl).as (v' := .bool false) (by cases decide (((l[k]).1, (l[k]).2) ∈ mk (l.take k)) <;> rfl)) (fun w hi => by first | exact hi.j | exact J.of_le (Ro.le.refl _) (fun x hx => List.mem_append_right _ hx) hi | exact J.of_le (Ro.le.refl _) (fun x hx => List.mem_append_right _ (List.mem_append_right _ hx)) hi | exact J.of_le (Ro.le.refl _) (fun x hx => absurd hx (by simp)) hi | exact J.of_le (by assumption) (fun x hx => absurd hx (by simp)) hi) ?_
      refine d_take 29 rfl (by kernel_rfl) (by kernel_rfl) (by kernel_rfl) (fun _ _ _ h => h) rfl (.inl rfl) (x_pickF rfl rfl) (fun w hi => by first | exact hi.j | exact J.of_le (Ro.le.refl _) (fun x hx => List.mem_append_right _ hx) hi | exact J.of_le (Ro.le.refl _) (fun x hx => List.mem_append_right _ (List.mem_append_right _ hx)) hi | exact J.of_le (Ro.le.refl _) (fun x hx => absurd hx (by simp)) hi | exact J.of_le (by assumption) (fun x hx => absurd hx (by simp)) hi) ?_
      refine d_end (by kernel_rfl) ?_
      refine n_then ?_
      refine condF rfl ?_
      refine skip ?_
      refine n_then ?_
      refine draw ([]) (by kernel_rfl) ?_
      refine d_take 0 rfl (by kernel_rfl) (by kernel_rfl) (by kernel_rfl) (fun _ _ _ h => h) rfl (.inl rfl) (x_move rfl) (fun w hi => by first | exact hi.j | exact J.of_le (Ro.le.refl _) (fun x hx => List.mem_append_right _ hx) hi | exact J.of_le (Ro.le.refl _) (fun x hx => List.mem_append_right _ (List.mem_append_right _ hx)) hi | exact J.of_le (Ro.le.refl _) (fun x hx => absurd hx (by simp)) hi | exact J.of_le (by assumption) (fun x hx => absurd hx (by simp)) hi) ?_
      refine d_take 1 rfl (by kernel_rfl) (by kernel_rfl) (by kernel_rfl) (fun _ _ _ h => h) rfl (.inl rfl) (x_move rfl) (fun w hi => by first | exact hi.j | exact J.of_le (Ro.le.refl _) (fun x hx => List.mem_append_right _ hx) hi | exact J.of_le (Ro.le.refl _) (fun x hx => List.mem_append_right _ (List.mem_append_right _ hx)) hi | exact J.of_le (Ro.le.refl _) (fun x hx => absurd hx (by simp)) hi | exact J.of_le (by assumption) (fun x hx => absurd hx (by simp)) hi) ?_
      refine d_take 2 rfl (by kernel_rfl) (by kernel_rfl) (by kernel_rfl) (fun _ _ _ h => h) rfl (.inl rfl) (x_move rfl) (fun w hi => by first | exact hi.j | exact J.of_le (Ro.le.refl _) (fun x hx => List.mem_append_right _ hx) hi | exact J.of_le (Ro.le.refl _) (fun x hx => List.mem_append_right _ (List.mem_append_right _ hx)) hi | exact J.of_le (Ro.le.refl _) (fun x hx => absurd hx (by simp)) hi | exact J.of_le (by assumption) (fun x hx => absurd hx (by simp)) hi) ?_
      refine d_take 3 rfl (by kernel_rfl) (by kernel_rfl) (by kernel_rfl) (fun _ _ _ h => h) rfl (.inl rfl) (x_indexNat sz_22 rfl rfl (by omega)) (fun w hi => by first | exact hi.j | exact J.of_le (Ro.le.refl _) (fun x hx => List.mem_append_right _ hx) hi | exact J.of_le (Ro.le.refl _) (fun x hx => List.mem_append_right _ (List.mem_append_right _ hx)) hi | exact J.of_le (Ro.le.refl _) (fun x hx => absurd hx (by simp)) hi | exact J.of_le (by assumption) (fun x hx => absurd hx (by simp)) hi) ?_
      refine d_take 4 rfl (by kernel_rfl) (by kernel_rfl) (by kernel_rfl) (fun _ _ _ h => h) rfl (.inl rfl) (x_fieldAddr fo_40_0 rfl) (fun w hi => by first | exact hi.j | exact J.of_le (Ro.le.refl _) (fun x hx => List.mem_append_right _ hx) hi | exact J.of_le (Ro.le.refl _) (fun x hx => List.mem_append_right _ (List.mem_append_right _ hx)) hi | exact J.of_le (Ro.le.refl _) (fun x hx => absurd hx (by simp)) hi | exact J.of_le (by assumption) (fun x hx => absurd hx (by simp)) hi) ?_
      refine d_take 5 rfl (by kernel_rfl) (by kernel_rfl) (by kernel_rfl) (fun _ _ _ h => h) rfl (.inl rfl) (x_load1 ag_3 rfl (by first | assumption | exact Cell.own 0 rfl rfl | exact Cell.own 1 rfl rfl | exact Cell.own 2 rfl rfl | exact Cell.own 3 rfl rfl | exact Cell.own 4 rfl rfl | exact Cell.own 5 rfl rfl | exact Cell.ofRo (by assumption))) (fun w hi => by first | exact hi.j | exact J.of_le (Ro.le.refl _) (fun x hx => List.mem_append_right _ hx) hi | exact J.of_le (Ro.le.refl _) (fun x hx => List.mem_append_right _ (List.mem_append_right _ hx)) hi | exact J.of_le (Ro.le.refl _) (fun x hx => absurd hx (by simp)) hi | exact J.of_le (by assumption) (fun x hx => absurd hx (by simp)) hi) ?_
      refine d_take 6 rfl (by kernel_rfl) (by kernel_rfl) (by kernel_rfl) (fun _ _ _ h => h) rfl (.inl rfl) (x_move rfl) (fun w hi => by first | exact hi.j | exact J.of_le (Ro.le.refl _) (fun x hx => List.mem_append_right _ hx) hi | exact J.of_le (Ro.le.refl _) (fun x hx => List.mem_append_right _ (List.mem_append_right _ hx)) hi | exact J.of_le (Ro.le.refl _) (fun x hx => absurd hx (by simp)) hi | exact J.of_le (by assumption) (fun x hx => absurd hx (by simp)) hi) ?_
      refine d_take 7 rfl (by kernel_rfl) (by kernel_rfl) (by kernel_rfl) (fun _ _ _ h => h) rfl (.inl rfl) (x_move rfl) (fun w hi => by first | exact hi.j | exact J.of_le (Ro.le.refl _) (fun x hx => List.mem_append_right _ hx) hi | exact J.of_le (Ro.le.refl _) (fun x hx => List.mem_append_right _ (List.mem_append_right _ hx)) hi | exact J.of_le (Ro.le.refl _) (fun x hx => absurd hx (by simp)) hi | exact J.of_le (by assumption) (fun x hx => absurd hx (by simp)) hi) ?_
      refine d_take 8 rfl (by kernel_rfl) (by kernel_rfl) (by kernel_rfl) (fun _ _ _ h => h) rfl (.inl rfl) (x_indexNat sz_22 rfl rfl (by omega)) (fun w hi => by first | exact hi.j | exact J.of_le (Ro.le.refl _) (fun x hx => List.mem_append_right _ hx) hi | exact J.of_le (Ro.le.refl _) (fun x hx => List.mem_append_right _ (List.mem_append_right _ hx)) hi | exact J.of_le (Ro.le.refl _) (fun x hx => absurd hx (by simp)) hi | exact J.of_le (by assumption) (fun x hx => absurd hx (by simp)) hi) ?_
      refine d_take 9 rfl (by kernel_rfl) (by kernel_rfl) (by kernel_rfl) (fun _ _ _ h => h) rfl (.inl rfl) (x_fieldAddr fo_40_1 rfl) (fun w hi => by first | exact hi.j | exact J.of_le (Ro.le.refl _) (fun x hx => List.mem_append_right _ hx) hi | exact J.of_le (Ro.le.refl _) (fun x hx => List.mem_append_right _ (List.mem_append_right _ hx)) hi | exact J.of_le (Ro.le.refl _) (fun x hx => absurd hx (by simp)) hi | exact J.of_le (by assumption) (fun x hx => absurd hx (by simp)) hi) ?_
      refine d_take 10 rfl (by kernel_rfl) (by kernel_rfl) (by kernel_rfl) (fun _ _ _ h => h) rfl (.inl rfl) (x_load1 ag_3 rfl (by first | assumption | exact Cell.own 0 rfl rfl | exact Cell.own 1 rfl rfl | exact Cell.own 2 rfl rfl | exact Cell.own 3 rfl rfl | exact Cell.own 4 rfl rfl | exact Cell.own 5 rfl rfl | exact Cell.ofRo (by assumption))) (fun w hi => by first | exact hi.j | exact J.of_le (Ro.le.refl _) (fun x hx => List.mem_append_right _ hx) hi | exact J.of_le (Ro.le.refl _) (fun x hx => List.mem_append_right _ (List.mem_append_right _ hx)) hi | exact J.of_le (Ro.le.refl _) (fun x hx => absurd hx (by simp)) hi | exact J.of_le (by assumption) (fun x hx => absurd hx (by simp)) hi) ?_
      refine d_one 11 rfl (by kernel_rfl) (.inl rfl) (e_call rfl fn_38 rfl rfl (Put_c _ A2 cap2 _ _ _ _ hO (by omega)) fun v88 ro88 L88 hle88 hp88 => ?_)
      obtain ⟨A3, cap3, rfl, hO3, rfl⟩ := hp88
      rw [← hmt] at hO3 ⊢
      refine d_next (fun w hi => by first | exact hi.j | exact J.of_le (Ro.le.refl _) (fun x hx => List.mem_append_right _ hx) hi | exact J.of_le (Ro.le.refl _) (fun x hx => List.mem_append_right _ (List.mem_append_right _ hx)) hi | exact J.of_le (Ro.le.refl _) (fun x hx => absurd hx (by simp)) hi | exact J.of_le (by assumption) (fun x hx => absurd hx (by simp)) hi) ?_
      refine d_take 12 rfl (by kernel_rfl) (by kernel_rfl) (by kernel_rfl) (fun _ _ _ h => h) rfl (.inl rfl) (x_assign rfl) (fun w hi => by first | exact hi.j | exact J.of_le (Ro.le.refl _) (fun x hx => List.mem_append_right _ hx) hi | exact J.of_le (Ro.le.refl _) (fun x hx => List.mem_append_right _ (List.mem_append_right _ hx)) hi | exact J.of_le (Ro.le.refl _) (fun x hx => absurd hx (by simp)) hi | exact J.of_le (by assumption) (fun x hx => absurd hx (by simp)) hi) ?_
      refine d_end (by kernel_rfl) ?_
      refine n_in ?_
      refine n_then ?_
      refine region ?_
      refine op (y (x_move rfl) rfl ?_)
      refine op (y (x_add rfl rfl _ (wr (by omega) (by omega))) rfl ?_)
      refine op (y (x_assign rfl) rfl ?_)
      refine nil ?_
      exact round (l.length - (k + 1)) [(0, .slice _ l.length cap), (1, .int .i64 a), (2, .int .i64 b), (7, .bool true), (8, .pointer (some ⟨x, 0, none⟩)), (9, .slice _ (mk (l.take (k + 1))).length _), (10, .int .i64 ((k + 1) : Nat))] (by omega) ⟨rfl, rfl, rfl, rfl, rfl, rfl, rfl, trivial⟩ ⟨k + 1, _, _, _, rfl, rfl, rfl, by omega, hle.trans hle88, hl.mono hle88, hR3, hO3⟩
    · try simp only [decide_eq_true_eq, decide_eq_false_iff_not, beq_iff_eq, bne_iff_ne, ne_eq, beq_eq_false_iff_ne, bne_eq_false_iff_eq, Bool.not_eq_true', Bool.not_eq_false', Bool.not_eq_true, Bool.not_eq_false, Decidable.not_not, Int.not_lt, Int.not_le] at h11
      obtain rfl : k = l.length := by omega
      rw [List.take_length] at *
      have hml : (mk l).length ≤ 1000 := by omega
      refine exit ?_
      refine e_then ?_
      refine e_then ?_
      refine e_in ?_
      refine n_then ?_
      refine seq ?_
      refine region ?_
      refine op (y (x_move rfl) rfl ?_)
      refine op (y (x_move rfl) rfl ?_)
      refine op (e_call rfl fn_40 rfl rfl (RAhead_c x _ R _ _ hR (by simp) (by omega) b) fun v91 ro91 L91 hle91 hp91 => ?_)
      obtain ⟨A9, cap9, R9, rfl, hO9, rfl, rfl⟩ := hp91
      refine ufreeze fun ro91 hle91 hR91 => ?_
      have hS9 := OwnS.sl hO9 (fun _ _ => rfl) hR91
      refine op (y (x_move rfl) rfl ?_)
      refine op (y (x_move rfl) rfl ?_)
      refine op (e_call rfl fn_41 rfl rfl (AheadR_c (mk l) A2 cap2 b _ _ (hO.mono hle91) (by omega)) fun v94 ro94 L94 hle94 hp94 => ?_)
      obtain ⟨A10, cap10, rfl, hO10, rfl⟩ := hp94
      refine op (e_call rfl fn_39 rfl rfl (SameInts_c _ A9 cap9 _ A10 cap10 _ _ (hS9.mono hle94) hO10) fun v95 ro95 L95 hle95 hp95 => ?_)
      obtain ⟨rfl, rfl, rfl⟩ := hp95
      rw [decide_eq_true rfl]
      refine op (y (x_assign rfl) rfl ?_)
      refine nil ?_
      refine n_then ?_
      refine seq ?_
      refine region ?_
      refine op (y (x_move rfl) rfl ?_)
      refine op (y (x_move rfl) rfl ?_)
      refine op (e_call rfl fn_42 rfl rfl (RBehind_c x _ R _ _ hR (by simp) (by omega) a) fun v98 ro98 L98 hle98 hp98 => ?_)
      obtain ⟨A11, cap11, R11, rfl, hO11, rfl, rfl⟩ := hp98
      refine ufreeze fun ro98 hle98 hR98 => ?_
      have hS11 := OwnS.sl hO11 (fun _ _ => rfl) hR98
      refine op (y (x_move rfl) rfl ?_)
      refine op (y (x_move rfl) rfl ?_)
      refine op (e_call rfl fn_43 rfl rfl (BehindR_c (mk l) A2 cap2 a _ _ (((hO.mono hle91).mono hle94).mono hle98) (by omega)) fun v101 ro101 L101 hle101 hp101 => ?_)
      obtain ⟨A12, cap12, rfl, hO12, rfl⟩ := hp101
      refine op (e_call rfl fn_39 rfl rfl (SameInts_c _ A11 cap11 _ A12 cap12 _ _ (hS11.mono hle101) hO12) fun v102 ro102 L102 hle102 hp102 => ?_)
      obtain ⟨rfl, rfl, rfl⟩ := hp102
      rw [decide_eq_true rfl]
      have hm6 := (((hO.mono hle91).mono hle94).mono hle98).mono hle101
      refine op (y (x_assign rfl) rfl ?_)
      refine nil ?_
      refine n_then ?_
      refine seq ?_
      refine region ?_
      refine op (y (x_move rfl) rfl ?_)
      refine op (y (x_move rfl) rfl ?_)
      refine op (e_call rfl fn_20 rfl rfl (Is_c x (mk l) R (mk l) A2 cap2 _ _ hR (by simp) hm6 hs1 (.refl _) (by omega)) fun v105 ro105 L105 hle105 hp105 => ?_)
      obtain ⟨rfl, rfl⟩ := hp105
      refine op (y (x_move rfl) rfl ?_)
      refine opG rfl rfl (y (x_move rfl) rfl ?_)
      refine op (y (x_pickT rfl rfl) rfl ?_)
      refine op (y (x_move rfl) rfl ?_)
      refine opG rfl rfl (y (x_move rfl) rfl ?_)
      refine op (y (x_pickT rfl rfl) rfl ?_)
      refine op (y (x_move rfl) rfl ?_)
      refine opG rfl rfl (y (x_move rfl) rfl ?_)
      refine opG rfl rfl (y (x_move rfl) rfl ?_)
      refine opG rfl rfl (y (x_move rfl) rfl ?_)
      refine opG rfl rfl (e_call rfl fn_33 rfl rfl (RHas_c x _ R _ _ hR (List.mem_cons_self) a b) fun v116 ro116 L116 hle116 hp116 => ?_)
      obtain ⟨rfl, rfl, rfl⟩ := hp116
      refine opG rfl rfl (y (x_move rfl) rfl ?_)
      refine opG rfl rfl (y (x_move rfl) rfl ?_)
      refine opG rfl rfl (y (x_move rfl) rfl ?_)
      refine opG rfl rfl (e_call rfl fn_36 rfl rfl (Has_c (mk l) A2 cap2 a b _ _ (hm6.mono hle105)) fun v120 ro120 L120 hle120 hp120 => ?_)
      obtain ⟨rfl, rfl, rfl⟩ := hp120
      refine opG rfl rfl (y ((x_beql Try.underlying4 rfl rfl).as (v' := .bool true) (by simp)) rfl ?_)
      refine op (y (x_pickT rfl rfl) rfl ?_)
      refine op (y (x_assign rfl) rfl ?_)
      refine nil ?_
      refine n_then ?_
      refine ret ?_
      refine drop0 ?_
      exact done rfl (.tmp rfl (.nil)) ((hle.trans (hle91.trans hle94)).trans ((hle98.trans hle101).trans hle105)) (L) (⟨_, .refl _, .refl _⟩) (⟨rfl, rfl⟩)

end Go.Proofs.Ytlmeblhcipkgmaa
