/- The walk of the statement on orders that fit. -/
import Derived.Test.YtlmeblhcipkgmaaL3
namespace Go.Proofs.Ytlmeblhcipkgmaa
open Go Go.U
set_option maxRecDepth 20000
set_option linter.unusedSimpArgs false
set_option linter.unusedVariables false

open Go.RowKit
def FitP (S : List (Int × Int)) (o : List Int) : Prop := ∀ i : Nat, ∀ p, o[i]? = some p → ∀ k : Nat, i ≤ k → ∀ q, o[k]? = some q → (q, p) ∉ S
theorem fit_lt {S : List (Int × Int)} {o : List Int} (h : FitP S o) (hin : ∀ p ∈ S, p.1 ∈ o ∧ p.2 ∈ o) {q p : Int} (t : TG S q p) : ∀ k i : Nat, o[k]? = some q → o[i]? = some p → k < i := by
  have one : ∀ q p, (q, p) ∈ S → ∀ k i : Nat, o[k]? = some q → o[i]? = some p → k < i := fun q p hm k i hk hi => by
    rcases Nat.lt_or_ge k i with h1 | h1
    · exact h1
    · exact absurd hm (h i p hi k h1 q hk)
  induction t with
  | one hm => exact one _ _ hm
  | @step b c t hm ih =>
    intro k i hk hi
    obtain ⟨j, hj, e⟩ := List.getElem_of_mem (hin _ hm).1
    have h1 := ih k j hk (by rw [List.getElem?_eq_getElem hj, e])
    have h2 := one _ _ hm j i (by rw [List.getElem?_eq_getElem hj, e]) hi
    omega
theorem fit_clo {S C : List (Int × Int)} {o : List Int} (hin : ∀ p ∈ S, p.1 ∈ o ∧ p.2 ∈ o) (hfin : ∀ p, p ∈ C ↔ TG S p.1 p.2) : FitP S o ↔ FitP C o :=
  ⟨fun h i p hi k hik q hk hm => by have := fit_lt h hin ((hfin (q, p)).1 hm) k i hk hi; omega,
   fun h i p hi k hik q hk hm => h i p hi k hik q hk ((hfin (q, p)).2 (.one hm))⟩
theorem fit_no {S : List (Int × Int)} {o : List Int} (h : FitP S o) (hin : ∀ p ∈ S, p.1 ∈ o ∧ p.2 ∈ o) : ¬ ∃ a, TG S a a := fun ⟨a, t⟩ => by
  obtain ⟨b, hb⟩ := t.fst
  obtain ⟨j, hj, e⟩ := List.getElem_of_mem (hin _ hb).1
  have := fit_lt h hin t j j (by rw [List.getElem?_eq_getElem hj, e]) (by rw [List.getElem?_eq_getElem hj, e])
  omega

theorem RelFits_c (l : List (Int × Int)) (A : Option Addr) (cap : Nat) (o : List Int) (B : Option Addr) (cap2 : Nat) (ro : Ro) (L : List (List Blk)) (hl : Sl ro 2 encPair A cap l) (ho : Sl ro 1 encInt B cap2 o) (h64 : ∀ p ∈ l, I64 p.1 ∧ I64 p.2) :
    CT Try.prog 6 [.slice A l.length cap, .slice B o.length cap2].toArray ro L (PV (.bool true) L) := by
  have hcap : l.length ≤ 9223372036854775807 := by have := hl.1; have := hl.2.1; unfold maxLen at this; omega
  have hcap2 : o.length ≤ 9223372036854775807 := by have := ho.1; have := ho.2.1; unfold maxLen at this; omega
  refine enter Try.func6 rfl Try.ntmps6 rfl ?_
  refine seq ?_
  refine region ?_
  refine op (y (x_assign rfl) rfl ?_)
  refine nil ?_
  refine n_then ?_
  refine seq ?_
  refine region ?_
  refine op (e_call rfl fn_15 rfl rfl (First_c _ _) fun v11 ro11 L11 hle11 hp11 => ?_)
  obtain ⟨rfl, rfl⟩ := hp11
  have hl1 := hl.mono hle11
  have ho1 := ho.mono hle11
  refine op (y (x_assign rfl) rfl ?_)
  refine nil ?_
  refine n_then ?_
  refine seq ?_
  refine seq ?_
  refine region ?_
  refine op (y (x_move rfl) rfl ?_)
  refine op (y (x_not rfl) rfl ?_)
  refine nil ?_
  refine n_then ?_
  refine condF rfl ?_
  refine skip ?_
  refine n_then ?_
  refine seq ?_
  refine seq ?_
  refine region ?_
  refine op (y (x_move rfl) rfl ?_)
  refine op (y (x_lenSl sz_22 rfl) rfl ?_)
  refine op (y (x_gtr rfl rfl) rfl ?_)
  refine op (y (x_move rfl) rfl ?_)
  refine bsplit 17 rfl (fun g17 => ?_) (fun g17 => ?_)
  · try simp only [decide_eq_true_eq, decide_eq_false_iff_not, beq_iff_eq, bne_iff_ne, ne_eq, beq_eq_false_iff_ne, bne_eq_false_iff_eq, Bool.not_eq_true', Bool.not_eq_false', Bool.not_eq_true, Bool.not_eq_false, Decidable.not_not, Int.not_lt, Int.not_le] at g17
    refine opN rfl rfl rfl rfl ?_
    refine opN rfl rfl rfl rfl ?_
    refine opN rfl rfl rfl rfl ?_
    refine op (y (x_pickT rfl rfl) rfl ?_)
    refine op (y (x_move rfl) rfl ?_)
    refine opN rfl rfl rfl rfl ?_
    refine opN rfl rfl rfl rfl ?_
    refine op (y (x_pickT rfl rfl) rfl ?_)
    refine nil ?_
    refine n_then ?_
    refine condT rfl ?_
    refine seq ?_
    refine region ?_
    refine op (y (x_move rfl) rfl ?_)
    refine op (y (x_assign rfl) rfl ?_)
    refine nil ?_
    refine n_then ?_
    refine ret ?_
    refine r_then ?_
    exact done rfl (.tmp rfl (.nil)) (hle11) (L) (⟨_, .refl _, .refl _⟩) (⟨rfl, rfl⟩)
  · try simp only [decide_eq_true_eq, decide_eq_false_iff_not, beq_iff_eq, bne_iff_ne, ne_eq, beq_eq_false_iff_ne, bne_eq_false_iff_eq, Bool.not_eq_true', Bool.not_eq_false', Bool.not_eq_true, Bool.not_eq_false, Decidable.not_not, Int.not_lt, Int.not_le] at g17
    refine opG rfl rfl (y (x_move rfl) rfl ?_)
    refine opG rfl rfl (y (x_lenSl sz_23 rfl) rfl ?_)
    refine opG rfl rfl (y (x_gtr rfl rfl) rfl ?_)
    refine op (y (x_pickF rfl rfl) rfl ?_)
    refine op (y (x_move rfl) rfl ?_)
    refine bsplit 22 rfl (fun g22 => ?_) (fun g22 => ?_)
    · try simp only [decide_eq_true_eq, decide_eq_false_iff_not, beq_iff_eq, bne_iff_ne, ne_eq, beq_eq_false_iff_ne, bne_eq_false_iff_eq, Bool.not_eq_true', Bool.not_eq_false', Bool.not_eq_true, Bool.not_eq_false, Decidable.not_not, Int.not_lt, Int.not_le] at g22
      refine opN rfl rfl rfl rfl ?_
      refine opN rfl rfl rfl rfl ?_
      refine op (y (x_pickT rfl rfl) rfl ?_)
      refine nil ?_
      refine n_then ?_
      refine condT rfl ?_
      refine seq ?_
      refine region ?_
      refine op (y (x_move rfl) rfl ?_)
      refine op (y (x_assign rfl) rfl ?_)
      refine nil ?_
      refine n_then ?_
      refine ret ?_
      refine r_then ?_
      exact done rfl (.tmp rfl (.nil)) (hle11) (L) (⟨_, .refl _, .refl _⟩) (⟨rfl, rfl⟩)
    · try simp only [decide_eq_true_eq, decide_eq_false_iff_not, beq_iff_eq, bne_iff_ne, ne_eq, beq_eq_false_iff_ne, bne_eq_false_iff_eq, Bool.not_eq_true', Bool.not_eq_false', Bool.not_eq_true, Bool.not_eq_false, Decidable.not_not, Int.not_lt, Int.not_le] at g22
      refine opG rfl rfl (y (x_move rfl) rfl ?_)
      refine opG rfl rfl (y (x_not rfl) rfl ?_)
      refine op (y (x_pickF rfl rfl) rfl ?_)
      refine nil ?_
      refine n_then ?_
      refine condF rfl ?_
      refine skip ?_
      refine n_then ?_
      refine seq ?_
      refine region ?_
      refine op (y (x_move rfl) rfl ?_)
      refine op (e_call rfl fn_16 rfl rfl (Made_c l A cap _ _ hl1 (by omega) h64) fun v29 ro29 L29 hle29 hp29 => ?_)
      obtain ⟨x, R, A2, cap22, rfl, hR, hm, hLL⟩ := hp29
      subst hLL
      obtain ⟨hs1, hs2, hs3⟩ := mk_spec l l.length (Nat.le_refl _)
      rw [List.take_length] at hs1 hs2 hs3
      have hml : (mk l).length ≤ 60 := by omega
      have ho2 := ho1.mono hle29
      refine op (y (x_move rfl) rfl ?_)
      refine op (y (x_extract rfl rfl) rfl ?_)
      refine op (y (x_extract rfl rfl) rfl ?_)
      refine op (y (x_assign rfl) rfl ?_)
      refine op (y (x_assign rfl) rfl ?_)
      refine nil ?_
      refine n_then ?_
      refine seq ?_
      refine seq ?_
      refine region ?_
      refine op (y (x_move rfl) rfl ?_)
      refine op (y (x_ptrEqNil Try.underlying25 rfl rfl) rfl ?_)
      refine nil ?_
      refine n_then ?_
      refine condF rfl ?_
      refine skip ?_
      refine n_then ?_
      refine seq ?_
      refine seq ?_
      refine region ?_
      refine op (y (x_assign rfl) rfl ?_)
      refine nil ?_
      refine n_then ?_
      refine block ?_
      refine loop (fun m F ro' L' => ∃ (k : Nat), (m = (mk l).length - k) ∧ (F = [(1, .slice B o.length cap2), (5, .bool true), (6, .pointer (some ⟨x, 0, none⟩)), (7, .slice A2 (mk l).length cap22), (8, .int .i64 (k : Nat))]) ∧ (ro29 = ro') ∧ (L' = R :: L) ∧ (k ≤ (mk l).length) ∧ (∀ j : Nat, j < k → ∀ p, (mk l)[j]? = some p → p.1 ∈ o ∧ p.2 ∈ o)) ((mk l).length - 0) [(1, .slice B o.length cap2), (5, .bool true), (6, .pointer (some ⟨x, 0, none⟩)), (7, .slice A2 (mk l).length cap22), (8, .int .i64 (0 : Nat))] ⟨rfl, rfl, rfl, rfl, rfl, trivial⟩ ⟨0, rfl, rfl, rfl, rfl, by omega, by intro j hj; omega⟩ ?_
      rintro m F ro' L' ⟨k, rfl, rfl, rfl, rfl, hk, hall⟩
      refine seq ?_
      refine seq ?_
      refine region ?_
      refine op (y (x_move rfl) rfl ?_)
      refine op (y (x_move rfl) rfl ?_)
      refine op (y (x_lenSl sz_26 rfl) rfl ?_)
      refine op (y (x_lss rfl rfl) rfl ?_)
      refine nil ?_
      refine n_then ?_
      refine cond rfl (fun h10 => ?_) (fun h10 => ?_)
      · try simp only [decide_eq_true_eq, decide_eq_false_iff_not, beq_iff_eq, bne_iff_ne, ne_eq, beq_eq_false_iff_ne, bne_eq_false_iff_eq, Bool.not_eq_true', Bool.not_eq_false', Bool.not_eq_true, Bool.not_eq_false, Decidable.not_not, Int.not_lt, Int.not_le] at h10
        refine skip ?_
        refine n_then ?_
        refine seq ?_
        refine block ?_
        refine seq ?_
        obtain ⟨bbx, offx, rfl, hcx⟩ := hm.at_ (i := k) (by omega)
        have hx := List.getElem?_eq_getElem (show k < (mk l).length from by omega)
        have cx0 := hcx k _ hx 0 _ rfl
        have cx1 := hcx k _ hx 1 _ rfl
        refine region ?_
        refine op (y (x_move rfl) rfl ?_)
        refine op (y (x_move rfl) rfl ?_)
        refine op (y (x_move rfl) rfl ?_)
        refine op (y (x_indexNat sz_26 rfl rfl (by omega)) rfl ?_)
        refine op (y (x_fieldAddr fo_46_0 rfl) rfl ?_)
        refine op (y (x_load1 ag_3 rfl (by first | assumption | exact Cell.own 0 rfl rfl | exact Cell.own 1 rfl rfl | exact Cell.own 2 rfl rfl | exact Cell.own 3 rfl rfl | exact Cell.own 4 rfl rfl | exact Cell.own 5 rfl rfl | exact Cell.ofRo (by assumption))) rfl ?_)
        refine op (e_call rfl fn_34 rfl rfl (among_c o B cap2 _ _ _ ho2) fun v46 ro46 L46 hle46 hp46 => ?_)
        obtain ⟨rfl, rfl, rfl⟩ := hp46
        refine op (y (x_not rfl) rfl ?_)
        refine op (y (x_move rfl) rfl ?_)
        refine bsplit 48 rfl (fun g48 => ?_) (fun g48 => ?_)
        · try simp only [decide_eq_true_eq, decide_eq_false_iff_not, beq_iff_eq, bne_iff_ne, ne_eq, beq_eq_false_iff_ne, bne_eq_false_iff_eq, Bool.not_eq_true', Bool.not_eq_false', Bool.not_eq_true, Bool.not_eq_false, Decidable.not_not, Int.not_lt, Int.not_le] at g48
          refine opN rfl rfl rfl rfl ?_
          refine opN rfl rfl rfl rfl ?_
          refine opN rfl rfl rfl rfl ?_
          refine opN rfl rfl rfl rfl ?_
          refine opN rfl rfl rfl rfl ?_
          refine opN rfl rfl rfl rfl ?_
          refine opN rfl rfl rfl rfl ?_
          refine opN rfl rfl rfl rfl ?_
          refine op (y (x_pickT rfl rfl) rfl ?_)
          refine nil ?_
          refine n_then ?_
          refine condT rfl ?_
          refine seq ?_
          refine region ?_
          refine op (y (x_assign rfl) rfl ?_)
          refine nil ?_
          refine n_then ?_
          refine ret ?_
          refine r_in ?_
          refine r_then ?_
          refine r_then ?_
          refine r_in ?_
          refine r_then ?_
          refine drop0 ?_
          exact done rfl (.tmp rfl (.nil)) (hle11.trans hle29) (L) (⟨_, .refl _, .refl _⟩) (⟨rfl, rfl⟩)
        · try simp only [decide_eq_true_eq, decide_eq_false_iff_not, beq_iff_eq, bne_iff_ne, ne_eq, beq_eq_false_iff_ne, bne_eq_false_iff_eq, Bool.not_eq_true', Bool.not_eq_false', Bool.not_eq_true, Bool.not_eq_false, Decidable.not_not, Int.not_lt, Int.not_le] at g48
          refine opG rfl rfl (y (x_move rfl) rfl ?_)
          refine opG rfl rfl (y (x_move rfl) rfl ?_)
          refine opG rfl rfl (y (x_move rfl) rfl ?_)
          refine opG rfl rfl (y (x_indexNat sz_26 rfl rfl (by omega)) rfl ?_)
          refine opG rfl rfl (y (x_fieldAddr fo_46_1 rfl) rfl ?_)
          refine opG rfl rfl (y (x_load1 ag_3 rfl (by first | assumption | exact Cell.own 0 rfl rfl | exact Cell.own 1 rfl rfl | exact Cell.own 2 rfl rfl | exact Cell.own 3 rfl rfl | exact Cell.own 4 rfl rfl | exact Cell.own 5 rfl rfl | exact Cell.ofRo (by assumption))) rfl ?_)
          refine opG rfl rfl (e_call rfl fn_34 rfl rfl (among_c o B cap2 _ _ _ ho2) fun v55 ro55 L55 hle55 hp55 => ?_)
          obtain ⟨rfl, rfl, rfl⟩ := hp55
          refine opG rfl rfl (y (x_not rfl) rfl ?_)
          refine op (y (x_pickF rfl rfl) rfl ?_)
          refine nil ?_
          refine n_then ?_
          refine cond rfl (fun h12 => ?_) (fun h12 => ?_)
          · try simp only [decide_eq_true_eq, decide_eq_false_iff_not, beq_iff_eq, bne_iff_ne, ne_eq, beq_eq_false_iff_ne, bne_eq_false_iff_eq, Bool.not_eq_true', Bool.not_eq_false', Bool.not_eq_true, Bool.not_eq_false, Decidable.not_not, Int.not_lt, Int.not_le] at h12
            refine seq ?_
            refine region ?_
            refine op (y (x_assign rfl) rfl ?_)
            refine nil ?_
            refine n_then ?_
            refine ret ?_
            refine r_in ?_
            refine r_then ?_
            refine r_then ?_
            refine r_in ?_
            refine r_then ?_
            refine drop0 ?_
            exact done rfl (.tmp rfl (.nil)) (hle11.trans hle29) (L) (⟨_, .refl _, .refl _⟩) (⟨rfl, rfl⟩)
          · try simp only [decide_eq_true_eq, decide_eq_false_iff_not, beq_iff_eq, bne_iff_ne, ne_eq, beq_eq_false_iff_ne, bne_eq_false_iff_eq, Bool.not_eq_true', Bool.not_eq_false', Bool.not_eq_true, Bool.not_eq_false, Decidable.not_not, Int.not_lt, Int.not_le] at h12
            refine skip ?_
            refine n_in ?_
            refine n_then ?_
            refine region ?_
            refine op (y (x_move rfl) rfl ?_)
            refine op (y (x_add rfl rfl _ (wr (by omega) (by omega))) rfl ?_)
            refine op (y (x_assign rfl) rfl ?_)
            refine nil ?_
            exact round ((mk l).length - (k + 1)) [(1, .slice B o.length cap2), (5, .bool true), (6, .pointer (some ⟨x, 0, none⟩)), (7, .slice _ (mk l).length cap22), (8, .int .i64 ((k + 1) : Nat))] (by omega) ⟨rfl, rfl, rfl, rfl, rfl, trivial⟩ ⟨k + 1, rfl, rfl, rfl, rfl, by omega, upto (p := fun j => ∀ p, (mk l)[j]? = some p → p.1 ∈ o ∧ p.2 ∈ o) hall (fun p e => by rw [hx] at e; cases e; simp_all)⟩
      · try simp only [decide_eq_true_eq, decide_eq_false_iff_not, beq_iff_eq, bne_iff_ne, ne_eq, beq_eq_false_iff_ne, bne_eq_false_iff_eq, Bool.not_eq_true', Bool.not_eq_false', Bool.not_eq_true, Bool.not_eq_false, Decidable.not_not, Int.not_lt, Int.not_le] at h10
        have hin : ∀ p ∈ mk l, p.1 ∈ o ∧ p.2 ∈ o := fun p hp => by
          obtain ⟨j, hj, e⟩ := List.getElem_of_mem hp
          exact hall j (by omega) p (by rw [List.getElem?_eq_getElem hj, e])
        refine exit ?_
        refine e_then ?_
        refine e_then ?_
        refine e_in ?_
        refine n_then ?_
        refine seq ?_
        refine region ?_
        refine op (y (x_move rfl) rfl ?_)
        refine op (y (x_move rfl) rfl ?_)
        refine op (e_call rfl fn_19 rfl rfl (RFits_c x (mk l) R _ _ hR (by simp) o B cap2 ho2) fun v60 ro60 L60 hle60 hp60 => ?_)
        obtain ⟨b60, rfl, hb60, rfl⟩ := hp60
        have ho3 := ho2.mono hle60
        refine op (y (x_assign rfl) rfl ?_)
        refine nil ?_
        refine n_then ?_
        refine seq ?_
        refine region ?_
        refine op (y (x_move rfl) rfl ?_)
        refine op (e_call rfl fn_17 rfl rfl (RClosure_c x (mk l) R _ _ hR (List.mem_cons_self) (by omega)) fun v62 ro62 L62 hle62 hp62 => ?_)
        obtain ⟨x2, C, R2, rfl, hC, hfin, hCl, rfl, hLL⟩ := hp62
        subst hLL
        refine op (y (x_assign rfl) rfl ?_)
        refine nil ?_
        refine n_then ?_
        refine seq ?_
        refine region ?_
        refine op (y (x_move rfl) rfl ?_)
        refine op (y (x_ptrNeNil Try.underlying25 rfl rfl) rfl ?_)
        refine op (y (x_move rfl) rfl ?_)
        refine opG rfl rfl (y (x_move rfl) rfl ?_)
        refine opG rfl rfl (y (x_move rfl) rfl ?_)
        refine opG rfl rfl (y (x_move rfl) rfl ?_)
        refine opG rfl rfl (e_call rfl fn_19 rfl rfl (RFits_c x2 C R2 _ _ hC (by simp) o B cap2 ho3) fun v69 ro69 L69 hle69 hp69 => ?_)
        obtain ⟨b69, rfl, hb69, rfl⟩ := hp69
        refine opG rfl rfl (y ((x_beql Try.underlying4 rfl rfl).as (v' := .bool true) (by rw [bool_eq hb60 hb69 (fit_clo hin hfin)])) rfl ?_)
        refine op (y (x_pickT rfl rfl) rfl ?_)
        refine op (y (x_move rfl) rfl ?_)
        refine opG rfl rfl (y (x_move rfl) rfl ?_)
        refine opG rfl rfl (y (x_move rfl) rfl ?_)
        refine bsplit 74 rfl (fun g74 => ?_) (fun g74 => ?_)
        · try simp only [decide_eq_true_eq, decide_eq_false_iff_not, beq_iff_eq, bne_iff_ne, ne_eq, beq_eq_false_iff_ne, bne_eq_false_iff_eq, Bool.not_eq_true', Bool.not_eq_false', Bool.not_eq_true, Bool.not_eq_false, Decidable.not_not, Int.not_lt, Int.not_le] at g74
          refine opG rfl rfl (y (x_move rfl) rfl ?_)
          refine opG rfl rfl (e_call rfl fn_22 rfl rfl (RCircle_c x (mk l) R _ _ hR (by simp) (by omega)) fun v76 ro76 L76 hle76 hp76 => ?_)
          obtain ⟨b76, rfl, hb76, rfl⟩ := hp76
          obtain rfl : b76 = false := by
            cases b76 with
            | false => rfl
            | true => exact absurd (hb76.1 rfl) (fit_no (hb60.1 (by first | exact g74 | exact g73)) hin)
          refine opG rfl rfl (y (x_pickT rfl rfl) rfl ?_)
          refine opG rfl rfl (y (x_not rfl) rfl ?_)
          refine op (y (x_pickT rfl rfl) rfl ?_)
          refine op (y (x_assign rfl) rfl ?_)
          refine nil ?_
          refine n_then ?_
          refine ret ?_
          refine drop0 ?_
          refine drop0 ?_
          exact done rfl (.tmp rfl (.nil)) (by first | exact ((hle11.trans hle29).trans (hle60.trans hle62)).trans (hle69.trans hle76) | exact ((hle11.trans hle29).trans (hle60.trans hle62)).trans hle69) (L) (⟨_, .refl _, .refl _⟩) (⟨rfl, rfl⟩)
        · try simp only [decide_eq_true_eq, decide_eq_false_iff_not, beq_iff_eq, bne_iff_ne, ne_eq, beq_eq_false_iff_ne, bne_eq_false_iff_eq, Bool.not_eq_true', Bool.not_eq_false', Bool.not_eq_true, Bool.not_eq_false, Decidable.not_not, Int.not_lt, Int.not_le] at g74
          refine opN rfl rfl rfl rfl ?_
          refine opN rfl rfl rfl rfl ?_
          refine opG rfl rfl (y (x_pickF rfl rfl) rfl ?_)
          refine opG rfl rfl (y (x_not rfl) rfl ?_)
          refine op (y (x_pickT rfl rfl) rfl ?_)
          refine op (y (x_assign rfl) rfl ?_)
          refine nil ?_
          refine n_then ?_
          refine ret ?_
          refine drop0 ?_
          refine drop0 ?_
          exact done rfl (.tmp rfl (.nil)) (by first | exact ((hle11.trans hle29).trans (hle60.trans hle62)).trans (hle69.trans hle76) | exact ((hle11.trans hle29).trans (hle60.trans hle62)).trans hle69) (L) (⟨_, .refl _, .refl _⟩) (⟨rfl, rfl⟩)

end Go.Proofs.Ytlmeblhcipkgmaa
