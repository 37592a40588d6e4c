/- The walks of the references of graphs, the first part. -/
import Derived.Test.YtlmeblhcipkgmaaL1
import Derived.Test.YtlmeblhcipkgmaaU17
import Derived.Test.YtlmeblhcipkgmaaU20
namespace Go.Proofs.Ytlmeblhcipkgmaa
open Go Go.U
set_option maxRecDepth 20000
set_option linter.unusedSimpArgs false
set_option linter.unusedVariables false

abbrev Ed := Int × Int × Int
def encEdge (e : Ed) : List Value := [.int .i64 e.1, .int .i64 e.2.1, .int .i64 e.2.2]
/-- a graph by value -/
def gv (A : Option Addr) (n cap : Nat) (B : Option Addr) (m cap2 : Nat) : Value := .agg [.slice A n cap, .slice B m cap2].toArray
def lessE (x z : Ed) : Bool := decide (x.1 < z.1) || (x.1 == z.1 && (decide (x.2.1 < z.2.1) || (x.2.1 == z.2.1 && decide (x.2.2 < z.2.2))))

theorem Gless_c (x z : Ed) (ro : Ro) (L : List (List Blk)) :
    CT Try.prog 95 [.agg (encEdge x).toArray, .agg (encEdge z).toArray].toArray ro L (PQ (.bool (lessE x z)) ro L) := by
  refine enter Try.func95 rfl Try.ntmps95 rfl ?_
  refine seq ?_
  refine region ?_
  refine op (e_box rfl rfl rfl fun b2 => ?_)
  refine op (e_box rfl rfl rfl fun b3 => ?_)
  refine op (y (x_assign rfl) rfl ?_)
  refine nil ?_
  refine n_then ?_
  refine seq ?_
  refine seq ?_
  refine region ?_
  refine op (y (x_fieldAddr fo_87_0 rfl) rfl ?_)
  refine op (y (x_load1 ag_3 rfl (by first | assumption | exact Cell.own 0 rfl rfl | exact Cell.own 1 rfl rfl | exact Cell.own 2 rfl rfl | exact Cell.own 3 rfl rfl | exact Cell.own 4 rfl rfl | exact Cell.own 5 rfl rfl | exact Cell.ofRo (by assumption))) rfl ?_)
  refine op (y (x_fieldAddr fo_87_0 rfl) rfl ?_)
  refine op (y (x_load1 ag_3 rfl (by first | assumption | exact Cell.own 0 rfl rfl | exact Cell.own 1 rfl rfl | exact Cell.own 2 rfl rfl | exact Cell.own 3 rfl rfl | exact Cell.own 4 rfl rfl | exact Cell.own 5 rfl rfl | exact Cell.ofRo (by assumption))) rfl ?_)
  refine op (y (x_neq rfl rfl) rfl ?_)
  refine nil ?_
  refine n_then ?_
  refine cond rfl (fun h1 => ?_) (fun h1 => ?_)
  · try simp only [decide_eq_true_eq, decide_eq_false_iff_not, beq_iff_eq, bne_iff_ne, ne_eq, beq_eq_false_iff_ne, bne_eq_false_iff_eq, Bool.not_eq_true', Bool.not_eq_false', Bool.not_eq_true, Bool.not_eq_false, Decidable.not_not, Int.not_lt, Int.not_le] at h1
    refine seq ?_
    refine region ?_
    refine op (y (x_fieldAddr fo_87_0 rfl) rfl ?_)
    refine op (y (x_load1 ag_3 rfl (by first | assumption | exact Cell.own 0 rfl rfl | exact Cell.own 1 rfl rfl | exact Cell.own 2 rfl rfl | exact Cell.own 3 rfl rfl | exact Cell.own 4 rfl rfl | exact Cell.own 5 rfl rfl | exact Cell.ofRo (by assumption))) rfl ?_)
    refine op (y (x_fieldAddr fo_87_0 rfl) rfl ?_)
    refine op (y (x_load1 ag_3 rfl (by first | assumption | exact Cell.own 0 rfl rfl | exact Cell.own 1 rfl rfl | exact Cell.own 2 rfl rfl | exact Cell.own 3 rfl rfl | exact Cell.own 4 rfl rfl | exact Cell.own 5 rfl rfl | exact Cell.ofRo (by assumption))) rfl ?_)
    refine op (y (x_lss rfl rfl) rfl ?_)
    refine op (y (x_assign rfl) rfl ?_)
    refine nil ?_
    refine n_then ?_
    refine ret ?_
    refine r_then ?_
    refine drop0 ?_
    refine drop0 ?_
    exact done rfl (.tmp rfl (.nil)) (Ro.le.refl _) (L) (⟨_, .refl _, .refl _⟩) (⟨by simp [lessE, tupled, h1], rfl, rfl⟩)
  · try simp only [decide_eq_true_eq, decide_eq_false_iff_not, beq_iff_eq, bne_iff_ne, ne_eq, beq_eq_false_iff_ne, bne_eq_false_iff_eq, Bool.not_eq_true', Bool.not_eq_false', Bool.not_eq_true, Bool.not_eq_false, Decidable.not_not, Int.not_lt, Int.not_le] at h1
    refine skip ?_
    refine n_then ?_
    refine seq ?_
    refine seq ?_
    refine region ?_
    refine op (y (x_fieldAddr fo_87_1 rfl) rfl ?_)
    refine op (y (x_load1 ag_3 rfl (by first | assumption | exact Cell.own 0 rfl rfl | exact Cell.own 1 rfl rfl | exact Cell.own 2 rfl rfl | exact Cell.own 3 rfl rfl | exact Cell.own 4 rfl rfl | exact Cell.own 5 rfl rfl | exact Cell.ofRo (by assumption))) rfl ?_)
    refine op (y (x_fieldAddr fo_87_1 rfl) rfl ?_)
    refine op (y (x_load1 ag_3 rfl (by first | assumption | exact Cell.own 0 rfl rfl | exact Cell.own 1 rfl rfl | exact Cell.own 2 rfl rfl | exact Cell.own 3 rfl rfl | exact Cell.own 4 rfl rfl | exact Cell.own 5 rfl rfl | exact Cell.ofRo (by assumption))) rfl ?_)
    refine op (y (x_neq rfl rfl) rfl ?_)
    refine nil ?_
    refine n_then ?_
    refine cond rfl (fun h3 => ?_) (fun h3 => ?_)
    · try simp only [decide_eq_true_eq, decide_eq_false_iff_not, beq_iff_eq, bne_iff_ne, ne_eq, beq_eq_false_iff_ne, bne_eq_false_iff_eq, Bool.not_eq_true', Bool.not_eq_false', Bool.not_eq_true, Bool.not_eq_false, Decidable.not_not, Int.not_lt, Int.not_le] at h3
      refine seq ?_
      refine region ?_
      refine op (y (x_fieldAddr fo_87_1 rfl) rfl ?_)
      refine op (y (x_load1 ag_3 rfl (by first | assumption | exact Cell.own 0 rfl rfl | exact Cell.own 1 rfl rfl | exact Cell.own 2 rfl rfl | exact Cell.own 3 rfl rfl | exact Cell.own 4 rfl rfl | exact Cell.own 5 rfl rfl | exact Cell.ofRo (by assumption))) rfl ?_)
      refine op (y (x_fieldAddr fo_87_1 rfl) rfl ?_)
      refine op (y (x_load1 ag_3 rfl (by first | assumption | exact Cell.own 0 rfl rfl | exact Cell.own 1 rfl rfl | exact Cell.own 2 rfl rfl | exact Cell.own 3 rfl rfl | exact Cell.own 4 rfl rfl | exact Cell.own 5 rfl rfl | exact Cell.ofRo (by assumption))) rfl ?_)
      refine op (y (x_lss rfl rfl) rfl ?_)
      refine op (y (x_assign rfl) rfl ?_)
      refine nil ?_
      refine n_then ?_
      refine ret ?_
      refine r_then ?_
      refine drop0 ?_
      refine drop0 ?_
      exact done rfl (.tmp rfl (.nil)) (Ro.le.refl _) (L) (⟨_, .refl _, .refl _⟩) (⟨by simp [lessE, tupled, h1, h3], rfl, rfl⟩)
    · try simp only [decide_eq_true_eq, decide_eq_false_iff_not, beq_iff_eq, bne_iff_ne, ne_eq, beq_eq_false_iff_ne, bne_eq_false_iff_eq, Bool.not_eq_true', Bool.not_eq_false', Bool.not_eq_true, Bool.not_eq_false, Decidable.not_not, Int.not_lt, Int.not_le] at h3
      refine skip ?_
      refine n_then ?_
      refine seq ?_
      refine region ?_
      refine op (y (x_fieldAddr fo_87_2 rfl) rfl ?_)
      refine op (y (x_load1 ag_3 rfl (by first | assumption | exact Cell.own 0 rfl rfl | exact Cell.own 1 rfl rfl | exact Cell.own 2 rfl rfl | exact Cell.own 3 rfl rfl | exact Cell.own 4 rfl rfl | exact Cell.own 5 rfl rfl | exact Cell.ofRo (by assumption))) rfl ?_)
      refine op (y (x_fieldAddr fo_87_2 rfl) rfl ?_)
      refine op (y (x_load1 ag_3 rfl (by first | assumption | exact Cell.own 0 rfl rfl | exact Cell.own 1 rfl rfl | exact Cell.own 2 rfl rfl | exact Cell.own 3 rfl rfl | exact Cell.own 4 rfl rfl | exact Cell.own 5 rfl rfl | exact Cell.ofRo (by assumption))) rfl ?_)
      refine op (y (x_lss rfl rfl) rfl ?_)
      refine op (y (x_assign rfl) rfl ?_)
      refine nil ?_
      refine n_then ?_
      refine ret ?_
      refine drop0 ?_
      refine drop0 ?_
      exact done rfl (.tmp rfl (.nil)) (Ro.le.refl _) (L) (⟨_, .refl _, .refl _⟩) (⟨by simp [lessE, tupled, h1, h3], rfl, rfl⟩)

theorem GHas_c (nd : List Int) (ed : List Ed) (A : Option Addr) (cap : Nat) (B : Option Addr) (cap2 : Nat) (ro : Ro) (L : List (List Blk)) (hA : Sl ro 1 encInt A cap nd) (hB : Sl ro 3 encEdge B cap2 ed) (a b c : Int) :
    CT Try.prog 56 [gv A nd.length cap B ed.length cap2, .int .i64 a, .int .i64 b, .int .i64 c].toArray ro L (PQ (.bool (decide ((a, b, c) ∈ ed))) ro L) := by
  have hcapn : nd.length ≤ 9223372036854775807 := by have := hA.1; have := hA.2.1; unfold maxLen at this; omega
  have hcape : ed.length ≤ 9223372036854775807 := by have := hB.1; have := hB.2.1; unfold maxLen at this; omega
  refine enter Try.func56 rfl Try.ntmps56 rfl ?_
  refine seq ?_
  refine region ?_
  refine op (e_box rfl rfl rfl fun b4 => ?_)
  refine op (y (x_assign rfl) rfl ?_)
  refine nil ?_
  refine n_then ?_
  refine seq ?_
  refine seq ?_
  refine region ?_
  refine op (y (x_assign rfl) rfl ?_)
  refine nil ?_
  refine n_then ?_
  refine block ?_
  refine loop (fun m F ro' L' => ∃ (k : Nat), (m = ed.length - k) ∧ (F = [(4, .pointer (some ⟨b4, 0, none⟩)), (1, .int .i64 a), (2, .int .i64 b), (3, .int .i64 c), (9, .int .i64 (k : Nat))]) ∧ (ro = ro') ∧ (L' = [(b4, .cells [.slice A nd.length cap, .slice B ed.length cap2].toArray 63 (0, 0))] :: L) ∧ (k ≤ ed.length) ∧ (∀ j : Nat, j < k → ed[j]? ≠ some (a, b, c))) (ed.length - 0) [(4, .pointer (some ⟨b4, 0, none⟩)), (1, .int .i64 a), (2, .int .i64 b), (3, .int .i64 c), (9, .int .i64 (0 : Nat))] ⟨rfl, rfl, rfl, rfl, rfl, trivial⟩ ⟨0, rfl, rfl, rfl, rfl, by omega, by intro j hj; omega⟩ ?_
  rintro m F ro' L' ⟨k, rfl, rfl, rfl, rfl, hk, hall⟩
  refine seq ?_
  refine seq ?_
  refine region ?_
  refine op (y (x_move rfl) rfl ?_)
  refine op (y (x_fieldAddr fo_63_1 rfl) rfl ?_)
  refine op (y (x_load1 ag_61 rfl (by first | assumption | exact Cell.own 0 rfl rfl | exact Cell.own 1 rfl rfl | exact Cell.own 2 rfl rfl | exact Cell.own 3 rfl rfl | exact Cell.own 4 rfl rfl | exact Cell.own 5 rfl rfl | exact Cell.ofRo (by assumption))) rfl ?_)
  refine op (y (x_lenSl sz_61 rfl) rfl ?_)
  refine op (y (x_lss rfl rfl) rfl ?_)
  refine nil ?_
  refine n_then ?_
  refine cond rfl (fun h2 => ?_) (fun h2 => ?_)
  · try simp only [decide_eq_true_eq, decide_eq_false_iff_not, beq_iff_eq, bne_iff_ne, ne_eq, beq_eq_false_iff_ne, bne_eq_false_iff_eq, Bool.not_eq_true', Bool.not_eq_false', Bool.not_eq_true, Bool.not_eq_false, Decidable.not_not, Int.not_lt, Int.not_le] at h2
    refine skip ?_
    refine n_then ?_
    refine seq ?_
    refine block ?_
    refine seq ?_
    obtain ⟨bbx, offx, rfl, hcx⟩ := hB.at_ (i := k) (by omega)
    have hx := List.getElem?_eq_getElem (show k < ed.length from by omega)
    have cx0 := hcx k _ hx 0 _ rfl
    have cx1 := hcx k _ hx 1 _ rfl
    have cx2 := hcx k _ hx 2 _ rfl
    refine region ?_
    refine op (y (x_fieldAddr fo_63_1 rfl) rfl ?_)
    refine op (y (x_load1 ag_61 rfl (by first | assumption | exact Cell.own 0 rfl rfl | exact Cell.own 1 rfl rfl | exact Cell.own 2 rfl rfl | exact Cell.own 3 rfl rfl | exact Cell.own 4 rfl rfl | exact Cell.own 5 rfl rfl | exact Cell.ofRo (by assumption))) rfl ?_)
    refine op (y (x_move rfl) rfl ?_)
    refine op (y (x_indexNat sz_61 rfl rfl (by omega)) rfl ?_)
    refine op (y (x_fieldAddr fo_87_0 rfl) rfl ?_)
    refine op (y (x_load1 ag_3 rfl (by first | assumption | exact Cell.own 0 rfl rfl | exact Cell.own 1 rfl rfl | exact Cell.own 2 rfl rfl | exact Cell.own 3 rfl rfl | exact Cell.own 4 rfl rfl | exact Cell.own 5 rfl rfl | exact Cell.ofRo (by assumption))) rfl ?_)
    refine op (y (x_move rfl) rfl ?_)
    refine op (y (x_eql rfl rfl) rfl ?_)
    refine op (y (x_move rfl) rfl ?_)
    refine bsplit 25 rfl (fun g25 => ?_) (fun g25 => ?_)
    · try simp only [decide_eq_true_eq, decide_eq_false_iff_not, beq_iff_eq, bne_iff_ne, ne_eq, beq_eq_false_iff_ne, bne_eq_false_iff_eq, Bool.not_eq_true', Bool.not_eq_false', Bool.not_eq_true, Bool.not_eq_false, Decidable.not_not, Int.not_lt, Int.not_le] at g25
      refine opG rfl rfl (y (x_fieldAddr fo_63_1 rfl) rfl ?_)
      refine opG rfl rfl (y (x_load1 ag_61 rfl (by first | assumption | exact Cell.own 0 rfl rfl | exact Cell.own 1 rfl rfl | exact Cell.own 2 rfl rfl | exact Cell.own 3 rfl rfl | exact Cell.own 4 rfl rfl | exact Cell.own 5 rfl rfl | exact Cell.ofRo (by assumption))) rfl ?_)
      refine opG rfl rfl (y (x_move rfl) rfl ?_)
      refine opG rfl rfl (y (x_indexNat sz_61 rfl rfl (by omega)) rfl ?_)
      refine opG rfl rfl (y (x_fieldAddr fo_87_1 rfl) rfl ?_)
      refine opG rfl rfl (y (x_load1 ag_3 rfl (by first | assumption | exact Cell.own 0 rfl rfl | exact Cell.own 1 rfl rfl | exact Cell.own 2 rfl rfl | exact Cell.own 3 rfl rfl | exact Cell.own 4 rfl rfl | exact Cell.own 5 rfl rfl | exact Cell.ofRo (by assumption))) rfl ?_)
      refine opG rfl rfl (y (x_move rfl) rfl ?_)
      refine opG rfl rfl (y (x_eql rfl rfl) rfl ?_)
      refine op (y (x_pickT rfl rfl) rfl ?_)
      refine op (y (x_move rfl) rfl ?_)
      refine bsplit 35 rfl (fun g35 => ?_) (fun g35 => ?_)
      · try simp only [decide_eq_true_eq, decide_eq_false_iff_not, beq_iff_eq, bne_iff_ne, ne_eq, beq_eq_false_iff_ne, bne_eq_false_iff_eq, Bool.not_eq_true', Bool.not_eq_false', Bool.not_eq_true, Bool.not_eq_false, Decidable.not_not, Int.not_lt, Int.not_le] at g35
        refine opG rfl rfl (y (x_fieldAddr fo_63_1 rfl) rfl ?_)
        refine opG rfl rfl (y (x_load1 ag_61 rfl (by first | assumption | exact Cell.own 0 rfl rfl | exact Cell.own 1 rfl rfl | exact Cell.own 2 rfl rfl | exact Cell.own 3 rfl rfl | exact Cell.own 4 rfl rfl | exact Cell.own 5 rfl rfl | exact Cell.ofRo (by assumption))) rfl ?_)
        refine opG rfl rfl (y (x_move rfl) rfl ?_)
        refine opG rfl rfl (y (x_indexNat sz_61 rfl rfl (by omega)) rfl ?_)
        refine opG rfl rfl (y (x_fieldAddr fo_87_2 rfl) rfl ?_)
        refine opG rfl rfl (y (x_load1 ag_3 rfl (by first | assumption | exact Cell.own 0 rfl rfl | exact Cell.own 1 rfl rfl | exact Cell.own 2 rfl rfl | exact Cell.own 3 rfl rfl | exact Cell.own 4 rfl rfl | exact Cell.own 5 rfl rfl | exact Cell.ofRo (by assumption))) rfl ?_)
        refine opG rfl rfl (y (x_move rfl) rfl ?_)
        refine opG rfl rfl (y (x_eql rfl rfl) rfl ?_)
        refine op (y (x_pickT rfl rfl) rfl ?_)
        refine nil ?_
        refine n_then ?_
        refine cond rfl (fun h4 => ?_) (fun h4 => ?_)
        · try simp only [decide_eq_true_eq, decide_eq_false_iff_not, beq_iff_eq, bne_iff_ne, ne_eq, beq_eq_false_iff_ne, bne_eq_false_iff_eq, Bool.not_eq_true', Bool.not_eq_false', Bool.not_eq_true, Bool.not_eq_false, Decidable.not_not, Int.not_lt, Int.not_le] at h4
          refine seq ?_
          refine region ?_
          refine op (y (x_assign rfl) rfl ?_)
          refine nil ?_
          refine n_then ?_
          refine ret ?_
          refine r_in ?_
          refine r_then ?_
          refine r_then ?_
          refine r_in ?_
          refine r_then ?_
          refine drop0 ?_
          exact done rfl (.tmp rfl (.nil)) (Ro.le.refl _) (L) (⟨_, .refl _, .refl _⟩) (⟨by rw [decide_eq_true]; rfl; exact List.mem_of_getElem? (i := k) (by rw [hx, ← g25, ← g35, ← h4]), rfl, rfl⟩)
        · try simp only [decide_eq_true_eq, decide_eq_false_iff_not, beq_iff_eq, bne_iff_ne, ne_eq, beq_eq_false_iff_ne, bne_eq_false_iff_eq, Bool.not_eq_true', Bool.not_eq_false', Bool.not_eq_true, Bool.not_eq_false, Decidable.not_not, Int.not_lt, Int.not_le] at h4
          refine skip ?_
          refine n_in ?_
          refine n_then ?_
          refine region ?_
          refine op (y (x_move rfl) rfl ?_)
          refine op (y (x_add rfl rfl _ (wr (by omega) (by omega))) rfl ?_)
          refine op (y (x_assign rfl) rfl ?_)
          refine nil ?_
          exact round (ed.length - (k + 1)) [(4, .pointer (some ⟨b4, 0, none⟩)), (1, .int .i64 a), (2, .int .i64 b), (3, .int .i64 c), (9, .int .i64 ((k + 1) : Nat))] (by omega) ⟨rfl, rfl, rfl, rfl, rfl, trivial⟩ ⟨k + 1, rfl, rfl, rfl, rfl, by omega, upto (p := fun j => ed[j]? ≠ some (a, b, c)) hall (fun e => by rw [hx] at e; simp only [Option.some.injEq] at e; simp_all)⟩
      · try simp only [decide_eq_true_eq, decide_eq_false_iff_not, beq_iff_eq, bne_iff_ne, ne_eq, beq_eq_false_iff_ne, bne_eq_false_iff_eq, Bool.not_eq_true', Bool.not_eq_false', Bool.not_eq_true, Bool.not_eq_false, Decidable.not_not, Int.not_lt, Int.not_le] at g35
        refine opN rfl rfl rfl rfl ?_
        refine opN rfl rfl rfl rfl ?_
        refine opN rfl rfl rfl rfl ?_
        refine opN rfl rfl rfl rfl ?_
        refine opN rfl rfl rfl rfl ?_
        refine opN rfl rfl rfl rfl ?_
        refine opN rfl rfl rfl rfl ?_
        refine opN rfl rfl rfl rfl ?_
        refine op (y (x_pickF rfl rfl) rfl ?_)
        refine nil ?_
        refine n_then ?_
        refine condF rfl ?_
        refine skip ?_
        refine n_in ?_
        refine n_then ?_
        refine region ?_
        refine op (y (x_move rfl) rfl ?_)
        refine op (y (x_add rfl rfl _ (wr (by omega) (by omega))) rfl ?_)
        refine op (y (x_assign rfl) rfl ?_)
        refine nil ?_
        exact round (ed.length - (k + 1)) [(4, .pointer (some ⟨b4, 0, none⟩)), (1, .int .i64 a), (2, .int .i64 b), (3, .int .i64 c), (9, .int .i64 ((k + 1) : Nat))] (by omega) ⟨rfl, rfl, rfl, rfl, rfl, trivial⟩ ⟨k + 1, rfl, rfl, rfl, rfl, by omega, upto (p := fun j => ed[j]? ≠ some (a, b, c)) hall (fun e => by rw [hx] at e; simp only [Option.some.injEq] at e; simp_all)⟩
    · try simp only [decide_eq_true_eq, decide_eq_false_iff_not, beq_iff_eq, bne_iff_ne, ne_eq, beq_eq_false_iff_ne, bne_eq_false_iff_eq, Bool.not_eq_true', Bool.not_eq_false', Bool.not_eq_true, Bool.not_eq_false, Decidable.not_not, Int.not_lt, Int.not_le] at g25
      refine opN rfl rfl rfl rfl ?_
      refine opN rfl rfl rfl rfl ?_
      refine opN rfl rfl rfl rfl ?_
      refine opN rfl rfl rfl rfl ?_
      refine opN rfl rfl rfl rfl ?_
      refine opN rfl rfl rfl rfl ?_
      refine opN rfl rfl rfl rfl ?_
      refine opN rfl rfl rfl rfl ?_
      refine op (y (x_pickF rfl rfl) rfl ?_)
      refine op (y (x_move rfl) rfl ?_)
      refine opN rfl rfl rfl rfl ?_
      refine opN rfl rfl rfl rfl ?_
      refine opN rfl rfl rfl rfl ?_
      refine opN rfl rfl rfl rfl ?_
      refine opN rfl rfl rfl rfl ?_
      refine opN rfl rfl rfl rfl ?_
      refine opN rfl rfl rfl rfl ?_
      refine opN rfl rfl rfl rfl ?_
      refine op (y (x_pickF rfl rfl) rfl ?_)
      refine nil ?_
      refine n_then ?_
      refine condF rfl ?_
      refine skip ?_
      refine n_in ?_
      refine n_then ?_
      refine region ?_
      refine op (y (x_move rfl) rfl ?_)
      refine op (y (x_add rfl rfl _ (wr (by omega) (by omega))) rfl ?_)
      refine op (y (x_assign rfl) rfl ?_)
      refine nil ?_
      exact round (ed.length - (k + 1)) [(4, .pointer (some ⟨b4, 0, none⟩)), (1, .int .i64 a), (2, .int .i64 b), (3, .int .i64 c), (9, .int .i64 ((k + 1) : Nat))] (by omega) ⟨rfl, rfl, rfl, rfl, rfl, trivial⟩ ⟨k + 1, rfl, rfl, rfl, rfl, by omega, upto (p := fun j => ed[j]? ≠ some (a, b, c)) hall (fun e => by rw [hx] at e; simp only [Option.some.injEq] at e; simp_all)⟩
  · try simp only [decide_eq_true_eq, decide_eq_false_iff_not, beq_iff_eq, bne_iff_ne, ne_eq, beq_eq_false_iff_ne, bne_eq_false_iff_eq, Bool.not_eq_true', Bool.not_eq_false', Bool.not_eq_true, Bool.not_eq_false, Decidable.not_not, Int.not_lt, Int.not_le] at h2
    refine exit ?_
    refine e_then ?_
    refine e_then ?_
    refine e_in ?_
    refine n_then ?_
    refine seq ?_
    refine region ?_
    refine op (y (x_assign rfl) rfl ?_)
    refine nil ?_
    refine n_then ?_
    refine ret ?_
    refine drop0 ?_
    exact done rfl (.tmp rfl (.nil)) (Ro.le.refl _) (L) (⟨_, .refl _, .refl _⟩) (⟨by rw [decide_eq_false]; rfl; exact not_mem_of fun j hj => hall j (by omega), rfl, rfl⟩)

theorem GHasNode_c (nd : List Int) (ed : List Ed) (A : Option Addr) (cap : Nat) (B : Option Addr) (cap2 : Nat) (ro : Ro) (L : List (List Blk)) (hA : Sl ro 1 encInt A cap nd) (hB : Sl ro 3 encEdge B cap2 ed) (a : Int) :
    CT Try.prog 60 [gv A nd.length cap B ed.length cap2, .int .i64 a].toArray ro L (PQ (.bool (decide (a ∈ nd))) ro L) := by
  have hcapn : nd.length ≤ 9223372036854775807 := by have := hA.1; have := hA.2.1; unfold maxLen at this; omega
  have hcape : ed.length ≤ 9223372036854775807 := by have := hB.1; have := hB.2.1; unfold maxLen at this; omega
  refine enter Try.func60 rfl Try.ntmps60 rfl ?_
  refine seq ?_
  refine region ?_
  refine op (e_box rfl rfl rfl fun b2 => ?_)
  refine op (y (x_assign rfl) rfl ?_)
  refine nil ?_
  refine n_then ?_
  refine seq ?_
  refine seq ?_
  refine region ?_
  refine op (y (x_assign rfl) rfl ?_)
  refine nil ?_
  refine n_then ?_
  refine block ?_
  refine loop (fun m F ro' L' => ∃ (k : Nat), (m = nd.length - k) ∧ (F = [(2, .pointer (some ⟨b2, 0, none⟩)), (1, .int .i64 a), (5, .int .i64 (k : Nat))]) ∧ (ro = ro') ∧ (L' = [(b2, .cells [.slice A nd.length cap, .slice B ed.length cap2].toArray 63 (0, 0))] :: L) ∧ (k ≤ nd.length) ∧ (∀ j : Nat, j < k → nd[j]? ≠ some a)) (nd.length - 0) [(2, .pointer (some ⟨b2, 0, none⟩)), (1, .int .i64 a), (5, .int .i64 (0 : Nat))] ⟨rfl, rfl, rfl, trivial⟩ ⟨0, rfl, rfl, rfl, rfl, by omega, by intro j hj; omega⟩ ?_
  rintro m F ro' L' ⟨k, rfl, rfl, rfl, rfl, hk, hall⟩
  refine seq ?_
  refine seq ?_
  refine region ?_
  refine op (y (x_move rfl) rfl ?_)
  refine op (y (x_fieldAddr fo_63_0 rfl) rfl ?_)
  refine op (y (x_load1 ag_23 rfl (by first | assumption | exact Cell.own 0 rfl rfl | exact Cell.own 1 rfl rfl | exact Cell.own 2 rfl rfl | exact Cell.own 3 rfl rfl | exact Cell.own 4 rfl rfl | exact Cell.own 5 rfl rfl | exact Cell.ofRo (by assumption))) rfl ?_)
  refine op (y (x_lenSl sz_23 rfl) rfl ?_)
  refine op (y (x_lss rfl rfl) rfl ?_)
  refine nil ?_
  refine n_then ?_
  refine cond rfl (fun h2 => ?_) (fun h2 => ?_)
  · try simp only [decide_eq_true_eq, decide_eq_false_iff_not, beq_iff_eq, bne_iff_ne, ne_eq, beq_eq_false_iff_ne, bne_eq_false_iff_eq, Bool.not_eq_true', Bool.not_eq_false', Bool.not_eq_true, Bool.not_eq_false, Decidable.not_not, Int.not_lt, Int.not_le] at h2
    refine skip ?_
    refine n_then ?_
    refine seq ?_
    refine block ?_
    refine seq ?_
    obtain ⟨bbx, offx, rfl, hcx⟩ := hA.at_ (i := k) (by omega)
    have hx := List.getElem?_eq_getElem (show k < nd.length from by omega)
    have cx0 := hcx k _ hx 0 _ rfl
    refine region ?_
    refine op (y (x_fieldAddr fo_63_0 rfl) rfl ?_)
    refine op (y (x_load1 ag_23 rfl (by first | assumption | exact Cell.own 0 rfl rfl | exact Cell.own 1 rfl rfl | exact Cell.own 2 rfl rfl | exact Cell.own 3 rfl rfl | exact Cell.own 4 rfl rfl | exact Cell.own 5 rfl rfl | exact Cell.ofRo (by assumption))) rfl ?_)
    refine op (y (x_move rfl) rfl ?_)
    refine op (y (x_indexNat sz_23 rfl rfl (by omega)) rfl ?_)
    refine op (y (x_load1 ag_3 rfl (by first | assumption | exact Cell.own 0 rfl rfl | exact Cell.own 1 rfl rfl | exact Cell.own 2 rfl rfl | exact Cell.own 3 rfl rfl | exact Cell.own 4 rfl rfl | exact Cell.own 5 rfl rfl | exact Cell.ofRo (by assumption))) rfl ?_)
    refine op (y (x_move rfl) rfl ?_)
    refine op (y (x_eql rfl rfl) rfl ?_)
    refine nil ?_
    refine n_then ?_
    refine cond rfl (fun h4 => ?_) (fun h4 => ?_)
    · try simp only [decide_eq_true_eq, decide_eq_false_iff_not, beq_iff_eq, bne_iff_ne, ne_eq, beq_eq_false_iff_ne, bne_eq_false_iff_eq, Bool.not_eq_true', Bool.not_eq_false', Bool.not_eq_true, Bool.not_eq_false, Decidable.not_not, Int.not_lt, Int.not_le] at h4
      refine seq ?_
      refine region ?_
      refine op (y (x_assign rfl) rfl ?_)
      refine nil ?_
      refine n_then ?_
      refine ret ?_
      refine r_in ?_
      refine r_then ?_
      refine r_then ?_
      refine r_in ?_
      refine r_then ?_
      refine drop0 ?_
      exact done rfl (.tmp rfl (.nil)) (Ro.le.refl _) (L) (⟨_, .refl _, .refl _⟩) (⟨by rw [decide_eq_true]; rfl; exact List.mem_of_getElem? (i := k) (by rw [hx, h4]), rfl, rfl⟩)
    · try simp only [decide_eq_true_eq, decide_eq_false_iff_not, beq_iff_eq, bne_iff_ne, ne_eq, beq_eq_false_iff_ne, bne_eq_false_iff_eq, Bool.not_eq_true', Bool.not_eq_false', Bool.not_eq_true, Bool.not_eq_false, Decidable.not_not, Int.not_lt, Int.not_le] at h4
      refine skip ?_
      refine n_in ?_
      refine n_then ?_
      refine region ?_
      refine op (y (x_move rfl) rfl ?_)
      refine op (y (x_add rfl rfl _ (wr (by omega) (by omega))) rfl ?_)
      refine op (y (x_assign rfl) rfl ?_)
      refine nil ?_
      exact round (nd.length - (k + 1)) [(2, .pointer (some ⟨b2, 0, none⟩)), (1, .int .i64 a), (5, .int .i64 ((k + 1) : Nat))] (by omega) ⟨rfl, rfl, rfl, trivial⟩ ⟨k + 1, rfl, rfl, rfl, rfl, by omega, upto (p := fun j => nd[j]? ≠ some a) hall (fun e => h4 (by rw [hx] at e; simpa using e))⟩
  · try simp only [decide_eq_true_eq, decide_eq_false_iff_not, beq_iff_eq, bne_iff_ne, ne_eq, beq_eq_false_iff_ne, bne_eq_false_iff_eq, Bool.not_eq_true', Bool.not_eq_false', Bool.not_eq_true, Bool.not_eq_false, Decidable.not_not, Int.not_lt, Int.not_le] at h2
    refine exit ?_
    refine e_then ?_
    refine e_then ?_
    refine e_in ?_
    refine n_then ?_
    refine seq ?_
    refine region ?_
    refine op (y (x_assign rfl) rfl ?_)
    refine nil ?_
    refine n_then ?_
    refine ret ?_
    refine drop0 ?_
    exact done rfl (.tmp rfl (.nil)) (Ro.le.refl _) (L) (⟨_, .refl _, .refl _⟩) (⟨by rw [decide_eq_false]; rfl; exact not_mem_of fun j hj => hall j (by omega), rfl, rfl⟩)

theorem Gin_c (l : List Int) (A : Option Addr) (cap : Nat) (a : Int) (ro : Ro) (L : List (List Blk)) (hl : Sl ro 1 encInt A cap l) :
    CT Try.prog 99 [.slice A l.length cap, .int .i64 a].toArray ro L (PQ (.bool (decide (a ∈ l))) ro L) := by
  have hcap : l.length ≤ 9223372036854775807 := by have := hl.1; have := hl.2.1; unfold maxLen at this; omega
  refine enter Try.func99 rfl Try.ntmps99 rfl ?_
  refine seq ?_
  refine region ?_
  refine op (y (x_assign rfl) rfl ?_)
  refine nil ?_
  refine n_then ?_
  refine seq ?_
  refine seq ?_
  refine region ?_
  refine op (y (x_assign rfl) rfl ?_)
  refine nil ?_
  refine n_then ?_
  refine block ?_
  refine loop (fun m F ro' L' => ∃ (k : Nat), (m = l.length - k) ∧ (F = [(0, .slice A l.length cap), (1, .int .i64 a), (5, .int .i64 (k : Nat))]) ∧ (ro = ro') ∧ (L = L') ∧ (k ≤ l.length) ∧ (∀ j : Nat, j < k → l[j]? ≠ some a)) (l.length - 0) [(0, .slice A l.length cap), (1, .int .i64 a), (5, .int .i64 (0 : Nat))] ⟨rfl, rfl, rfl, trivial⟩ ⟨0, rfl, rfl, rfl, rfl, by omega, by intro j hj; omega⟩ ?_
  rintro m F ro' L' ⟨k, rfl, rfl, rfl, rfl, hk, hall⟩
  refine seq ?_
  refine seq ?_
  refine region ?_
  refine op (y (x_move rfl) rfl ?_)
  refine op (y (x_move rfl) rfl ?_)
  refine op (y (x_lenSl sz_23 rfl) rfl ?_)
  refine op (y (x_lss rfl rfl) rfl ?_)
  refine nil ?_
  refine n_then ?_
  refine cond rfl (fun h2 => ?_) (fun h2 => ?_)
  · try simp only [decide_eq_true_eq, decide_eq_false_iff_not, beq_iff_eq, bne_iff_ne, ne_eq, beq_eq_false_iff_ne, bne_eq_false_iff_eq, Bool.not_eq_true', Bool.not_eq_false', Bool.not_eq_true, Bool.not_eq_false, Decidable.not_not, Int.not_lt, Int.not_le] at h2
    refine skip ?_
    refine n_then ?_
    refine seq ?_
    refine block ?_
    refine seq ?_
    obtain ⟨bbx, offx, rfl, hcx⟩ := hl.at_ (i := k) (by omega)
    have hx := List.getElem?_eq_getElem (show k < l.length from by omega)
    have cx0 := hcx k _ hx 0 _ rfl
    refine region ?_
    refine op (y (x_move rfl) rfl ?_)
    refine op (y (x_move rfl) rfl ?_)
    refine op (y (x_indexNat sz_23 rfl rfl (by omega)) rfl ?_)
    refine op (y (x_load1 ag_3 rfl (by first | assumption | exact Cell.own 0 rfl rfl | exact Cell.own 1 rfl rfl | exact Cell.own 2 rfl rfl | exact Cell.own 3 rfl rfl | exact Cell.own 4 rfl rfl | exact Cell.own 5 rfl rfl | exact Cell.ofRo (by assumption))) rfl ?_)
    refine op (y (x_move rfl) rfl ?_)
    refine op (y (x_eql rfl rfl) rfl ?_)
    refine nil ?_
    refine n_then ?_
    refine cond rfl (fun h4 => ?_) (fun h4 => ?_)
    · try simp only [decide_eq_true_eq, decide_eq_false_iff_not, beq_iff_eq, bne_iff_ne, ne_eq, beq_eq_false_iff_ne, bne_eq_false_iff_eq, Bool.not_eq_true', Bool.not_eq_false', Bool.not_eq_true, Bool.not_eq_false, Decidable.not_not, Int.not_lt, Int.not_le] at h4
      refine seq ?_
      refine region ?_
      refine op (y (x_assign rfl) rfl ?_)
      refine nil ?_
      refine n_then ?_
      refine ret ?_
      refine r_in ?_
      refine r_then ?_
      refine r_then ?_
      refine r_in ?_
      refine r_then ?_
      exact done rfl (.tmp rfl (.nil)) (Ro.le.refl _) (L) (⟨_, .refl _, .refl _⟩) (⟨by rw [decide_eq_true]; rfl; exact List.mem_of_getElem? (i := k) (by rw [hx, h4]), rfl, rfl⟩)
    · try simp only [decide_eq_true_eq, decide_eq_false_iff_not, beq_iff_eq, bne_iff_ne, ne_eq, beq_eq_false_iff_ne, bne_eq_false_iff_eq, Bool.not_eq_true', Bool.not_eq_false', Bool.not_eq_true, Bool.not_eq_false, Decidable.not_not, Int.not_lt, Int.not_le] at h4
      refine skip ?_
      refine n_in ?_
      refine n_then ?_
      refine region ?_
      refine op (y (x_move rfl) rfl ?_)
      refine op (y (x_add rfl rfl _ (wr (by omega) (by omega))) rfl ?_)
      refine op (y (x_assign rfl) rfl ?_)
      refine nil ?_
      exact round (l.length - (k + 1)) [(0, .slice _ l.length cap), (1, .int .i64 a), (5, .int .i64 ((k + 1) : Nat))] (by omega) ⟨rfl, rfl, rfl, trivial⟩ ⟨k + 1, rfl, rfl, rfl, rfl, by omega, upto (p := fun j => l[j]? ≠ some a) hall (fun e => h4 (by rw [hx] at e; simpa using e))⟩
  · try simp only [decide_eq_true_eq, decide_eq_false_iff_not, beq_iff_eq, bne_iff_ne, ne_eq, beq_eq_false_iff_ne, bne_eq_false_iff_eq, Bool.not_eq_true', Bool.not_eq_false', Bool.not_eq_true, Bool.not_eq_false, Decidable.not_not, Int.not_lt, Int.not_le] at h2
    refine exit ?_
    refine e_then ?_
    refine e_then ?_
    refine e_in ?_
    refine n_then ?_
    refine seq ?_
    refine region ?_
    refine op (y (x_assign rfl) rfl ?_)
    refine nil ?_
    refine n_then ?_
    refine ret ?_
    exact done rfl (.tmp rfl (.nil)) (Ro.le.refl _) (L) (⟨_, .refl _, .refl _⟩) (⟨by rw [decide_eq_false]; rfl; exact not_mem_of (fun j hj => hall j (by omega)), rfl, rfl⟩)

/-- a graph comes back -/
def PG (nd : List Int) (ed : List Ed) (L : List (List Blk)) : Value → Ro → List (List Blk) → Prop := fun v ro' L' => ∃ A cap B cap2, v = gv A nd.length cap B ed.length cap2 ∧ Sl ro' 1 encInt A cap nd ∧ Sl ro' 3 encEdge B cap2 ed ∧ L = L'

theorem GNode_c (nd : List Int) (ed : List Ed) (A : Option Addr) (cap : Nat) (B : Option Addr) (cap2 : Nat) (ro : Ro) (L : List (List Blk)) (hA : Sl ro 1 encInt A cap nd) (hB : Sl ro 3 encEdge B cap2 ed) (a : Int) (hn : nd.length ≤ 1000000) :
    CT Try.prog 62 [gv A nd.length cap B ed.length cap2, .int .i64 a].toArray ro L (PG (putI nd a) ed L) := by
  have hcapn : nd.length ≤ 9223372036854775807 := by have := hA.1; have := hA.2.1; unfold maxLen at this; omega
  have hcape : ed.length ≤ 9223372036854775807 := by have := hB.1; have := hB.2.1; unfold maxLen at this; omega
  refine enter Try.func62 rfl Try.ntmps62 rfl ?_
  refine seq ?_
  refine region ?_
  refine op (e_box rfl rfl rfl fun b2 => ?_)
  refine op (e_alloc rfl zc_63 rfl fun b4 => ?_)
  refine nil ?_
  refine n_then ?_
  refine seq ?_
  refine region ?_
  refine op (y (x_fieldAddr fo_63_0 rfl) rfl ?_)
  refine op (y (x_load1 ag_23 rfl (by first | assumption | exact Cell.own 0 rfl rfl | exact Cell.own 1 rfl rfl | exact Cell.own 2 rfl rfl | exact Cell.own 3 rfl rfl | exact Cell.own 4 rfl rfl | exact Cell.own 5 rfl rfl | exact Cell.ofRo (by assumption))) rfl ?_)
  refine op (y (x_move rfl) rfl ?_)
  refine op (e_call rfl fn_86 rfl rfl (PutInt_c nd A cap a _ _ hA hn) fun v8 ro8 L8 hle8 hp8 => ?_)
  obtain ⟨A3, cap3, rfl, hO3, hLL⟩ := hp8
  subst hLL
  refine op (y (x_fieldAddr fo_63_0 rfl) rfl ?_)
  first | refine op (e_store 0 rfl rfl ts_23 rfl rfl rfl rfl rfl rfl ?_) | refine op (e_store 1 rfl rfl ts_23 rfl rfl rfl rfl rfl rfl ?_) | refine op (e_store 2 rfl rfl ts_23 rfl rfl rfl rfl rfl rfl ?_) | refine op (e_store 3 rfl rfl ts_23 rfl rfl rfl rfl rfl rfl ?_) | refine op (e_store 4 rfl rfl ts_23 rfl rfl rfl rfl rfl rfl ?_) | refine op (e_store 5 rfl rfl ts_23 rfl rfl rfl rfl rfl rfl ?_)
  refine nil ?_
  refine n_then ?_
  refine seq ?_
  refine region ?_
  refine op (y (x_loadOwn 1 [.slice A3 (putI nd a).length cap3, .slice B ed.length cap2] ag_63 rfl rfl rfl rfl) rfl ?_)
  first | refine op (e_store 0 rfl rfl ts_63 rfl rfl rfl rfl rfl rfl ?_) | refine op (e_store 1 rfl rfl ts_63 rfl rfl rfl rfl rfl rfl ?_) | refine op (e_store 2 rfl rfl ts_63 rfl rfl rfl rfl rfl rfl ?_) | refine op (e_store 3 rfl rfl ts_63 rfl rfl rfl rfl rfl rfl ?_) | refine op (e_store 4 rfl rfl ts_63 rfl rfl rfl rfl rfl rfl ?_) | refine op (e_store 5 rfl rfl ts_63 rfl rfl rfl rfl rfl rfl ?_)
  refine nil ?_
  refine n_then ?_
  refine ret ?_
  exact done rfl (.cellN ag_63 rfl rfl (CellsAt.own 0 0 2 _ rfl rfl) (.nil)) (hle8) (L) (⟨_, .refl _, List.sublist_append_of_sublist_right (List.sublist_append_right _ _)⟩) (⟨A3, cap3, B, cap2, rfl, hO3, hB.mono hle8, rfl⟩)

end Go.Proofs.Ytlmeblhcipkgmaa
namespace Go.Proofs.Ytlmeblhcipkgmaa
open Go Go.U
set_option maxRecDepth 20000
set_option linter.unusedSimpArgs false
set_option linter.unusedVariables false

def prE (ed : List Ed) : List (Int × Int) := mk (ed.map (fun e => (e.1, e.2.1)))
theorem prE_take {l : List Ed} {k : Nat} {e : Ed} (h : l[k]? = some e) : prE (l.take (k + 1)) = putP (prE (l.take k)) (e.1, e.2.1) := by
  unfold prE
  rw [take_snoc' h, List.map_append]
  exact mk_snoc _ _
theorem prE_spec (l : List Ed) : SP (prE l) ∧ (prE l).length ≤ l.length ∧ ∀ a b, (a, b) ∈ prE l ↔ ∃ c, (a, b, c) ∈ l := by
  obtain ⟨h1, h2, h3⟩ := mk_spec (l.map (fun e => (e.1, e.2.1))) _ (Nat.le_refl _)
  rw [List.take_length] at h1 h2 h3
  refine ⟨h1, by rw [List.length_map] at h2; exact h2, fun a b => ?_⟩
  unfold prE
  rw [h3, List.mem_map]
  constructor
  · rintro ⟨⟨x, y, c⟩, hm, e⟩
    simp only [Prod.mk.injEq] at e
    obtain ⟨rfl, rfl⟩ := e
    exact ⟨c, hm⟩
  · rintro ⟨c, hm⟩
    exact ⟨_, hm, rfl⟩
def kindsR (ed : List Ed) (a b : Int) : List Int := ((ed.filter (fun e => decide (e.1 = a) && decide (e.2.1 = b))).map (·.2.2)).foldl putI []
theorem kindsR_snoc (ed : List Ed) (a b : Int) (e : Ed) : kindsR (ed ++ [e]) a b = if e.1 = a ∧ e.2.1 = b then putI (kindsR ed a b) e.2.2 else kindsR ed a b := by
  unfold kindsR
  split <;> rename_i h <;> simp [h]
theorem foldI_spec (m : List Int) : (m.foldl putI []).Pairwise (· < ·) ∧ ∀ x, x ∈ m.foldl putI [] ↔ x ∈ m := by
  have key : ∀ (m acc : List Int), acc.Pairwise (· < ·) → (m.foldl putI acc).Pairwise (· < ·) ∧ ∀ x, x ∈ m.foldl putI acc ↔ x ∈ acc ∨ x ∈ m := by
    intro m
    induction m with
    | nil => intro acc h; simp [h]
    | cons a m ih =>
      intro acc h
      obtain ⟨h1, h2⟩ := ih _ (putI_sorted (n := a) h)
      refine ⟨h1, fun x => ?_⟩
      rw [List.foldl_cons, h2, mem_putI]
      simp only [List.mem_cons]
      grind
  obtain ⟨h1, h2⟩ := key m [] (by simp)
  exact ⟨h1, fun x => by rw [h2]; simp⟩
theorem kindsR_spec (ed : List Ed) (a b : Int) : (kindsR ed a b).Pairwise (· < ·) ∧ ∀ c, c ∈ kindsR ed a b ↔ (a, b, c) ∈ ed := by
  obtain ⟨h1, h2⟩ := foldI_spec ((ed.filter (fun e => decide (e.1 = a) && decide (e.2.1 = b))).map (·.2.2))
  refine ⟨h1, fun c => ?_⟩
  unfold kindsR
  rw [h2]
  simp
theorem kindsR_len (ed : List Ed) (a b : Int) : (kindsR ed a b).length ≤ ed.length := by
  have h := nodup_le (nodup_lt (kindsR_spec ed a b).1) (m := ed.map (·.2.2)) (fun c hc => List.mem_map.2 ⟨_, ((kindsR_spec ed a b).2 c).1 hc, rfl⟩)
  simpa using h

theorem Gpairs_c (nd : List Int) (ed : List Ed) (A : Option Addr) (cap : Nat) (B : Option Addr) (cap2 : Nat) (ro : Ro) (L : List (List Blk)) (hA : Sl ro 1 encInt A cap nd) (hB : Sl ro 3 encEdge B cap2 ed) (hn : ed.length ≤ 1000000) :
    CT Try.prog 96 [gv A nd.length cap B ed.length cap2].toArray ro L (PS 2 encPair (prE ed) L) := by
  have hcapn : nd.length ≤ 9223372036854775807 := by have := hA.1; have := hA.2.1; unfold maxLen at this; omega
  have hcape : ed.length ≤ 9223372036854775807 := by have := hB.1; have := hB.2.1; unfold maxLen at this; omega
  refine enter Try.func96 rfl Try.ntmps96 rfl ?_
  refine seq ?_
  refine region ?_
  refine op (e_box rfl rfl rfl fun b1 => ?_)
  refine op (y (x_assign rfl) rfl ?_)
  refine nil ?_
  refine n_then ?_
  refine seq ?_
  refine region ?_
  refine op (y (x_assign rfl) rfl ?_)
  refine nil ?_
  refine n_then ?_
  refine seq ?_
  refine seq ?_
  refine region ?_
  refine op (y (x_assign rfl) rfl ?_)
  refine nil ?_
  refine n_then ?_
  refine block ?_
  refine loop (fun m F ro' L' => ∃ (k : Nat) (A2 : Option Addr) (cap3 : Nat), (m = ed.length - k) ∧ (F = [(1, .pointer (some ⟨b1, 0, none⟩)), (3, .slice A2 (prE (ed.take k)).length cap3), (4, .int .i64 (k : Nat))]) ∧ (L' = [(b1, .cells [.slice A nd.length cap, .slice B ed.length cap2].toArray 63 (0, 0))] :: L) ∧ (k ≤ ed.length) ∧ (ro.le ro') ∧ (Sl ro' 3 encEdge B cap2 ed) ∧ (Sl ro' 2 encPair A2 cap3 (prE (ed.take k)))) (ed.length - 0) [(1, .pointer (some ⟨b1, 0, none⟩)), (3, .slice none (prE (ed.take 0)).length 0), (4, .int .i64 (0 : Nat))] ⟨rfl, rfl, rfl, trivial⟩ ⟨0, none, 0, rfl, rfl, rfl, by omega, Ro.le.refl _, hB, ⟨by simp [prE, mk], by simp [maxLen], by simp [prE, mk], fun h => absurd rfl h⟩⟩ ?_
  rintro m F ro' L' ⟨k, A2, cap3, rfl, rfl, rfl, hk, hle, hB, hO⟩
  refine seq ?_
  refine seq ?_
  refine region ?_
  refine op (y (x_move rfl) rfl ?_)
  refine op (y (x_fieldAddr fo_63_1 rfl) rfl ?_)
  refine op (y (x_load1 ag_61 rfl (by first | assumption | exact Cell.own 0 rfl rfl | exact Cell.own 1 rfl rfl | exact Cell.own 2 rfl rfl | exact Cell.own 3 rfl rfl | exact Cell.own 4 rfl rfl | exact Cell.own 5 rfl rfl | exact Cell.ofRo (by assumption))) rfl ?_)
  refine op (y (x_lenSl sz_61 rfl) rfl ?_)
  refine op (y (x_lss rfl rfl) rfl ?_)
  refine nil ?_
  refine n_then ?_
  refine cond rfl (fun h3 => ?_) (fun h3 => ?_)
  · try simp only [decide_eq_true_eq, decide_eq_false_iff_not, beq_iff_eq, bne_iff_ne, ne_eq, beq_eq_false_iff_ne, bne_eq_false_iff_eq, Bool.not_eq_true', Bool.not_eq_false', Bool.not_eq_true, Bool.not_eq_false, Decidable.not_not, Int.not_lt, Int.not_le] at h3
    refine skip ?_
    refine n_then ?_
    refine seq ?_
    refine block ?_
    obtain ⟨bbx, offx, rfl, hcx⟩ := hB.at_ (i := k) (by omega)
    have hx := List.getElem?_eq_getElem (show k < ed.length from by omega)
    have cx0 := hcx k _ hx 0 _ rfl
    have cx1 := hcx k _ hx 1 _ rfl
    have hpt := prE_take hx
    have hpl := (prE_spec (ed.take k)).2.1
    have htl : (ed.take k).length ≤ k := by rw [List.length_take]; omega
    refine drawL (by kernel_rfl) ?_
    refine d_take 0 rfl (by kernel_rfl) (by kernel_rfl) (by kernel_rfl) (fun _ _ _ h => h) rfl (.inl rfl) (x_move rfl) (fun w hi => J.of_le (by first | exact Ro.le.refl _ | assumption) (fun x hx => hx) hi) ?_
    refine d_take 1 rfl (by kernel_rfl) (by kernel_rfl) (by kernel_rfl) (fun _ _ _ h => h) rfl (.inl rfl) (x_fieldAddr fo_63_1 rfl) (fun w hi => J.of_le (by first | exact Ro.le.refl _ | assumption) (fun x hx => hx) hi) ?_
    refine d_take 2 rfl (by kernel_rfl) (by kernel_rfl) (by kernel_rfl) (fun _ _ _ h => h) rfl (.inl rfl) (x_load1 ag_61 rfl (by first | assumption | exact Cell.own 0 rfl rfl | exact Cell.own 1 rfl rfl | exact Cell.own 2 rfl rfl | exact Cell.own 3 rfl rfl | exact Cell.own 4 rfl rfl | exact Cell.own 5 rfl rfl | exact Cell.ofRo (by assumption))) (fun w hi => J.of_le (by first | exact Ro.le.refl _ | assumption) (fun x hx => hx) hi) ?_
    refine d_take 3 rfl (by kernel_rfl) (by kernel_rfl) (by kernel_rfl) (fun _ _ _ h => h) rfl (.inl rfl) (x_move rfl) (fun w hi => J.of_le (by first | exact Ro.le.refl _ | assumption) (fun x hx => hx) hi) ?_
    refine d_take 4 rfl (by kernel_rfl) (by kernel_rfl) (by kernel_rfl) (fun _ _ _ h => h) rfl (.inl rfl) (x_indexNat sz_61 rfl rfl (by omega)) (fun w hi => J.of_le (by first | exact Ro.le.refl _ | assumption) (fun x hx => hx) hi) ?_
    refine d_take 5 rfl (by kernel_rfl) (by kernel_rfl) (by kernel_rfl) (fun _ _ _ h => h) rfl (.inl rfl) (x_fieldAddr fo_87_0 rfl) (fun w hi => J.of_le (by first | exact Ro.le.refl _ | assumption) (fun x hx => hx) hi) ?_
    refine d_take 6 rfl (by kernel_rfl) (by kernel_rfl) (by kernel_rfl) (fun _ _ _ h => h) rfl (.inl rfl) (x_load1 ag_3 rfl (by first | assumption | exact Cell.own 0 rfl rfl | exact Cell.own 1 rfl rfl | exact Cell.own 2 rfl rfl | exact Cell.own 3 rfl rfl | exact Cell.own 4 rfl rfl | exact Cell.own 5 rfl rfl | exact Cell.ofRo (by assumption))) (fun w hi => J.of_le (by first | exact Ro.le.refl _ | assumption) (fun x hx => hx) hi) ?_
    refine d_take 7 rfl (by kernel_rfl) (by kernel_rfl) (by kernel_rfl) (fun _ _ _ h => h) rfl (.inl rfl) (x_fieldAddr fo_63_1 rfl) (fun w hi => J.of_le (by first | exact Ro.le.refl _ | assumption) (fun x hx => hx) hi) ?_
    refine d_take 8 rfl (by kernel_rfl) (by kernel_rfl) (by kernel_rfl) (fun _ _ _ h => h) rfl (.inl rfl) (x_load1 ag_61 rfl (by first | assumption | exact Cell.own 0 rfl rfl | exact Cell.own 1 rfl rfl | exact Cell.own 2 rfl rfl | exact Cell.own 3 rfl rfl | exact Cell.own 4 rfl rfl | exact Cell.own 5 rfl rfl | exact Cell.ofRo (by assumption))) (fun w hi => J.of_le (by first | exact Ro.le.refl _ | assumption) (fun x hx => hx) hi) ?_
    refine d_take 9 rfl (by kernel_rfl) (by kernel_rfl) (by kernel_rfl) (fun _ _ _ h => h) rfl (.inl rfl) (x_move rfl) (fun w hi => J.of_le (by first | exact Ro.le.refl _ | assumption) (fun x hx => hx) hi) ?_
    refine d_take 10 rfl (by kernel_rfl) (by kernel_rfl) (by kernel_rfl) (fun _ _ _ h => h) rfl (.inl rfl) (x_indexNat sz_61 rfl rfl (by omega)) (fun w hi => J.of_le (by first | exact Ro.le.refl _ | assumption) (fun x hx => hx) hi) ?_
    refine d_take 11 rfl (by kernel_rfl) (by kernel_rfl) (by kernel_rfl) (fun _ _ _ h => h) rfl (.inl rfl) (x_fieldAddr fo_87_1 rfl) (fun w hi => J.of_le (by first | exact Ro.le.refl _ | assumption) (fun x hx => hx) hi) ?_
    refine d_take 12 rfl (by kernel_rfl) (by kernel_rfl) (by kernel_rfl) (fun _ _ _ h => h) rfl (.inl rfl) (x_load1 ag_3 rfl (by first | assumption | exact Cell.own 0 rfl rfl | exact Cell.own 1 rfl rfl | exact Cell.own 2 rfl rfl | exact Cell.own 3 rfl rfl | exact Cell.own 4 rfl rfl | exact Cell.own 5 rfl rfl | exact Cell.ofRo (by assumption))) (fun w hi => J.of_le (by first | exact Ro.le.refl _ | assumption) (fun x hx => hx) hi) ?_
    refine d_one 13 rfl (by kernel_rfl) (.inl rfl) (e_call rfl fn_38 rfl rfl (Put_c _ A2 cap3 _ _ _ _ hO (by omega)) fun v25 ro25 L25 hle25 hp25 => ?_)
    obtain ⟨A3, cap4, rfl, hO3, hLL⟩ := hp25
    subst hLL
    rw [← hpt] at hO3 ⊢
    refine d_next (fun w hi => J.of_le (by first | exact Ro.le.refl _ | assumption) (fun x hx => hx) hi) ?_
    refine d_take 14 rfl (by kernel_rfl) (by kernel_rfl) (by kernel_rfl) (fun _ _ _ h => h) rfl (.inl rfl) (x_assign rfl) (fun w hi => J.of_le (by first | exact Ro.le.refl _ | assumption) (fun x hx => hx) hi) ?_
    refine d_end (by kernel_rfl) ?_
    refine n_in ?_
    refine n_then ?_
    refine region ?_
    refine op (y (x_move rfl) rfl ?_)
    refine op (y (x_add rfl rfl _ (wr (by omega) (by omega))) rfl ?_)
    refine op (y (x_assign rfl) rfl ?_)
    refine nil ?_
    exact round (ed.length - (k + 1)) [(1, .pointer (some ⟨b1, 0, none⟩)), (3, .slice _ (prE (ed.take (k + 1))).length _), (4, .int .i64 ((k + 1) : Nat))] (by omega) ⟨rfl, rfl, rfl, trivial⟩ ⟨k + 1, _, _, rfl, rfl, rfl, by omega, hle.trans hle25, hB.mono hle25, hO3⟩
  · try simp only [decide_eq_true_eq, decide_eq_false_iff_not, beq_iff_eq, bne_iff_ne, ne_eq, beq_eq_false_iff_ne, bne_eq_false_iff_eq, Bool.not_eq_true', Bool.not_eq_false', Bool.not_eq_true, Bool.not_eq_false, Decidable.not_not, Int.not_lt, Int.not_le] at h3
    refine exit ?_
    refine e_then ?_
    refine e_then ?_
    refine e_in ?_
    refine n_then ?_
    refine seq ?_
    refine region ?_
    refine op (y (x_move rfl) rfl ?_)
    refine op (y (x_assign rfl) rfl ?_)
    refine nil ?_
    refine n_then ?_
    refine ret ?_
    obtain rfl : k = ed.length := by omega
    rw [List.take_length] at *
    refine drop0 ?_
    exact done rfl (.tmp rfl (.nil)) (hle) (L) (⟨_, .refl _, .refl _⟩) (⟨A2, cap3, rfl, hO, rfl⟩)

theorem GOut_c (nd : List Int) (ed : List Ed) (A : Option Addr) (cap : Nat) (B : Option Addr) (cap2 : Nat) (ro : Ro) (L : List (List Blk)) (hA : Sl ro 1 encInt A cap nd) (hB : Sl ro 3 encEdge B cap2 ed) (a : Int) (hn : ed.length ≤ 1000000) :
    CT Try.prog 64 [gv A nd.length cap B ed.length cap2, .int .i64 a].toArray ro L (PS 1 encInt (BehindR (prE ed) a) L) := by
  have hcapn : nd.length ≤ 9223372036854775807 := by have := hA.1; have := hA.2.1; unfold maxLen at this; omega
  have hcape : ed.length ≤ 9223372036854775807 := by have := hB.1; have := hB.2.1; unfold maxLen at this; omega
  refine enter Try.func64 rfl Try.ntmps64 rfl ?_
  refine seq ?_
  refine region ?_
  refine op (e_box rfl rfl rfl fun b2 => ?_)
  refine op (y (x_assign rfl) rfl ?_)
  refine nil ?_
  refine n_then ?_
  refine seq ?_
  refine region ?_
  refine op (y (x_loadOwn 0 [.slice A nd.length cap, .slice B ed.length cap2] ag_63 rfl rfl rfl rfl) rfl ?_)
  refine op (e_call rfl fn_96 rfl rfl (Gpairs_c nd ed A cap B cap2 _ _ hA hB hn) fun v6 ro6 L6 hle6 hp6 => ?_)
  obtain ⟨A3, cap3, rfl, hO3, hLL⟩ := hp6
  subst hLL
  refine op (y (x_move rfl) rfl ?_)
  refine op (e_call rfl fn_43 rfl rfl (BehindR_c (prE ed) A3 cap3 a _ _ hO3 (by have := (prE_spec ed).2.1; omega)) fun v8 ro8 L8 hle8 hp8 => ?_)
  obtain ⟨A4, cap4, rfl, hO4, hLL⟩ := hp8
  subst hLL
  refine op (y (x_assign rfl) rfl ?_)
  refine nil ?_
  refine n_then ?_
  refine ret ?_
  refine drop0 ?_
  exact done rfl (.tmp rfl (.nil)) (hle6.trans hle8) (L) (⟨_, .refl _, .refl _⟩) (⟨A4, cap4, rfl, hO4, rfl⟩)

theorem GReach_c (nd : List Int) (ed : List Ed) (A : Option Addr) (cap : Nat) (B : Option Addr) (cap2 : Nat) (ro : Ro) (L : List (List Blk)) (hA : Sl ro 1 encInt A cap nd) (hB : Sl ro 3 encEdge B cap2 ed) (a : Int) (hn : ed.length ≤ 1000000) :
    CT Try.prog 66 [gv A nd.length cap B ed.length cap2, .int .i64 a].toArray ro L (PR (prE ed) a L) := by
  have hcapn : nd.length ≤ 9223372036854775807 := by have := hA.1; have := hA.2.1; unfold maxLen at this; omega
  have hcape : ed.length ≤ 9223372036854775807 := by have := hB.1; have := hB.2.1; unfold maxLen at this; omega
  refine enter Try.func66 rfl Try.ntmps66 rfl ?_
  refine seq ?_
  refine region ?_
  refine op (e_box rfl rfl rfl fun b2 => ?_)
  refine op (y (x_assign rfl) rfl ?_)
  refine nil ?_
  refine n_then ?_
  refine seq ?_
  refine region ?_
  refine op (y (x_loadOwn 0 [.slice A nd.length cap, .slice B ed.length cap2] ag_63 rfl rfl rfl rfl) rfl ?_)
  refine op (e_call rfl fn_96 rfl rfl (Gpairs_c nd ed A cap B cap2 _ _ hA hB hn) fun v6 ro6 L6 hle6 hp6 => ?_)
  obtain ⟨A3, cap3, rfl, hO3, hLL⟩ := hp6
  subst hLL
  refine op (y (x_move rfl) rfl ?_)
  refine op (e_call rfl fn_78 rfl rfl (Reach_c (prE ed) A3 cap3 a _ _ hO3 (by have := (prE_spec ed).2.1; omega)) fun v8 ro8 L8 hle8 hp8 => ?_)
  obtain ⟨to, hto, A4, cap4, rfl, hO4, hLL⟩ := hp8
  subst hLL
  refine op (y (x_assign rfl) rfl ?_)
  refine nil ?_
  refine n_then ?_
  refine ret ?_
  refine drop0 ?_
  exact done rfl (.tmp rfl (.nil)) (hle6.trans hle8) (L) (⟨_, .refl _, .refl _⟩) (⟨to, hto, A4, cap4, rfl, hO4, rfl⟩)

theorem GKinds_c (nd : List Int) (ed : List Ed) (A : Option Addr) (cap : Nat) (B : Option Addr) (cap2 : Nat) (ro : Ro) (L : List (List Blk)) (hA : Sl ro 1 encInt A cap nd) (hB : Sl ro 3 encEdge B cap2 ed) (a b : Int) (hn : ed.length ≤ 1000000) :
    CT Try.prog 63 [gv A nd.length cap B ed.length cap2, .int .i64 a, .int .i64 b].toArray ro L (PS 1 encInt (kindsR ed a b) L) := by
  have hcapn : nd.length ≤ 9223372036854775807 := by have := hA.1; have := hA.2.1; unfold maxLen at this; omega
  have hcape : ed.length ≤ 9223372036854775807 := by have := hB.1; have := hB.2.1; unfold maxLen at this; omega
  refine enter Try.func63 rfl Try.ntmps63 rfl ?_
  refine seq ?_
  refine region ?_
  refine op (e_box rfl rfl rfl fun b3 => ?_)
  refine op (y (x_assign rfl) rfl ?_)
  refine nil ?_
  refine n_then ?_
  refine seq ?_
  refine region ?_
  refine op (y (x_assign rfl) rfl ?_)
  refine nil ?_
  refine n_then ?_
  refine seq ?_
  refine seq ?_
  refine region ?_
  refine op (y (x_assign rfl) rfl ?_)
  refine nil ?_
  refine n_then ?_
  refine block ?_
  refine loop (fun m F ro' L' => ∃ (k : Nat) (A2 : Option Addr) (cap3 : Nat), (m = ed.length - k) ∧ (F = [(3, .pointer (some ⟨b3, 0, none⟩)), (1, .int .i64 a), (2, .int .i64 b), (7, .slice A2 (kindsR (ed.take k) a b).length cap3), (8, .int .i64 (k : Nat))]) ∧ (L' = [(b3, .cells [.slice A nd.length cap, .slice B ed.length cap2].toArray 63 (0, 0))] :: L) ∧ (k ≤ ed.length) ∧ (ro.le ro') ∧ (Sl ro' 3 encEdge B cap2 ed) ∧ (Sl ro' 1 encInt A2 cap3 (kindsR (ed.take k) a b))) (ed.length - 0) [(3, .pointer (some ⟨b3, 0, none⟩)), (1, .int .i64 a), (2, .int .i64 b), (7, .slice none (kindsR (ed.take 0) a b).length 0), (8, .int .i64 (0 : Nat))] ⟨rfl, rfl, rfl, rfl, rfl, trivial⟩ ⟨0, none, 0, rfl, rfl, rfl, by omega, Ro.le.refl _, hB, ⟨by simp [kindsR], by simp [maxLen], by simp [kindsR], fun h => absurd rfl h⟩⟩ ?_
  rintro m F ro' L' ⟨k, A2, cap3, rfl, rfl, rfl, hk, hle, hB, hO⟩
  refine seq ?_
  refine seq ?_
  refine region ?_
  refine op (y (x_move rfl) rfl ?_)
  refine op (y (x_fieldAddr fo_63_1 rfl) rfl ?_)
  refine op (y (x_load1 ag_61 rfl (by first | assumption | exact Cell.own 0 rfl rfl | exact Cell.own 1 rfl rfl | exact Cell.own 2 rfl rfl | exact Cell.own 3 rfl rfl | exact Cell.own 4 rfl rfl | exact Cell.own 5 rfl rfl | exact Cell.ofRo (by assumption))) rfl ?_)
  refine op (y (x_lenSl sz_61 rfl) rfl ?_)
  refine op (y (x_lss rfl rfl) rfl ?_)
  refine nil ?_
  refine n_then ?_
  refine cond rfl (fun h3 => ?_) (fun h3 => ?_)
  · try simp only [decide_eq_true_eq, decide_eq_false_iff_not, beq_iff_eq, bne_iff_ne, ne_eq, beq_eq_false_iff_ne, bne_eq_false_iff_eq, Bool.not_eq_true', Bool.not_eq_false', Bool.not_eq_true, Bool.not_eq_false, Decidable.not_not, Int.not_lt, Int.not_le] at h3
    refine skip ?_
    refine n_then ?_
    refine seqM (fun F ro' L' => ∃ (A2 : Option Addr) (cap3 : Nat) , (F = [(3, .pointer (some ⟨b3, 0, none⟩)), (1, .int .i64 a), (2, .int .i64 b), (7, .slice A2 (kindsR (ed.take (k + 1)) a b).length cap3), (8, .int .i64 (k : Nat))]) ∧ (L' = [(b3, .cells [.slice A nd.length cap, .slice B ed.length cap2].toArray 63 (0, 0))] :: L) ∧ (k < ed.length) ∧ (ro.le ro') ∧ (Sl ro' 3 encEdge B cap2 ed) ∧ (Sl ro' 1 encInt A2 cap3 (kindsR (ed.take (k + 1)) a b))) ?_ ?_
    · skip
      refine block ?_
      refine seq ?_
      obtain ⟨bbx, offx, rfl, hcx⟩ := hB.at_ (i := k) (by omega)
      have hx := List.getElem?_eq_getElem (show k < ed.length from by omega)
      have cx0 := hcx k _ hx 0 _ rfl
      have cx1 := hcx k _ hx 1 _ rfl
      have cx2 := hcx k _ hx 2 _ rfl
      have hsn := kindsR_snoc (ed.take k) a b ed[k]
      rw [← take_snoc' hx] at hsn
      have hkl := kindsR_len (ed.take k) a b
      have htl : (ed.take k).length ≤ k := by rw [List.length_take]; omega
      refine region ?_
      refine op (y (x_fieldAddr fo_63_1 rfl) rfl ?_)
      refine op (y (x_load1 ag_61 rfl (by first | assumption | exact Cell.own 0 rfl rfl | exact Cell.own 1 rfl rfl | exact Cell.own 2 rfl rfl | exact Cell.own 3 rfl rfl | exact Cell.own 4 rfl rfl | exact Cell.own 5 rfl rfl | exact Cell.ofRo (by assumption))) rfl ?_)
      refine op (y (x_move rfl) rfl ?_)
      refine op (y (x_indexNat sz_61 rfl rfl (by omega)) rfl ?_)
      refine op (y (x_fieldAddr fo_87_0 rfl) rfl ?_)
      refine op (y (x_load1 ag_3 rfl (by first | assumption | exact Cell.own 0 rfl rfl | exact Cell.own 1 rfl rfl | exact Cell.own 2 rfl rfl | exact Cell.own 3 rfl rfl | exact Cell.own 4 rfl rfl | exact Cell.own 5 rfl rfl | exact Cell.ofRo (by assumption))) rfl ?_)
      refine op (y (x_move rfl) rfl ?_)
      refine op (y (x_eql rfl rfl) rfl ?_)
      refine op (y (x_move rfl) rfl ?_)
      refine bsplit 24 rfl (fun g24 => ?_) (fun g24 => ?_)
      · try simp only [decide_eq_true_eq, decide_eq_false_iff_not, beq_iff_eq, bne_iff_ne, ne_eq, beq_eq_false_iff_ne, bne_eq_false_iff_eq, Bool.not_eq_true', Bool.not_eq_false', Bool.not_eq_true, Bool.not_eq_false, Decidable.not_not, Int.not_lt, Int.not_le] at g24
        refine opG rfl rfl (y (x_fieldAddr fo_63_1 rfl) rfl ?_)
        refine opG rfl rfl (y (x_load1 ag_61 rfl (by first | assumption | exact Cell.own 0 rfl rfl | exact Cell.own 1 rfl rfl | exact Cell.own 2 rfl rfl | exact Cell.own 3 rfl rfl | exact Cell.own 4 rfl rfl | exact Cell.own 5 rfl rfl | exact Cell.ofRo (by assumption))) rfl ?_)
        refine opG rfl rfl (y (x_move rfl) rfl ?_)
        refine opG rfl rfl (y (x_indexNat sz_61 rfl rfl (by omega)) rfl ?_)
        refine opG rfl rfl (y (x_fieldAddr fo_87_1 rfl) rfl ?_)
        refine opG rfl rfl (y (x_load1 ag_3 rfl (by first | assumption | exact Cell.own 0 rfl rfl | exact Cell.own 1 rfl rfl | exact Cell.own 2 rfl rfl | exact Cell.own 3 rfl rfl | exact Cell.own 4 rfl rfl | exact Cell.own 5 rfl rfl | exact Cell.ofRo (by assumption))) rfl ?_)
        refine opG rfl rfl (y (x_move rfl) rfl ?_)
        refine opG rfl rfl (y (x_eql rfl rfl) rfl ?_)
        refine op (y (x_pickT rfl rfl) rfl ?_)
        refine nil ?_
        refine n_then ?_
        refine cond rfl (fun h5 => ?_) (fun h5 => ?_)
        · try simp only [decide_eq_true_eq, decide_eq_false_iff_not, beq_iff_eq, bne_iff_ne, ne_eq, beq_eq_false_iff_ne, bne_eq_false_iff_eq, Bool.not_eq_true', Bool.not_eq_false', Bool.not_eq_true, Bool.not_eq_false, Decidable.not_not, Int.not_lt, Int.not_le] at h5
          refine region ?_
          refine op (y (x_move rfl) rfl ?_)
          refine op (y (x_fieldAddr fo_63_1 rfl) rfl ?_)
          refine op (y (x_load1 ag_61 rfl (by first | assumption | exact Cell.own 0 rfl rfl | exact Cell.own 1 rfl rfl | exact Cell.own 2 rfl rfl | exact Cell.own 3 rfl rfl | exact Cell.own 4 rfl rfl | exact Cell.own 5 rfl rfl | exact Cell.ofRo (by assumption))) rfl ?_)
          refine op (y (x_move rfl) rfl ?_)
          refine op (y (x_indexNat sz_61 rfl rfl (by omega)) rfl ?_)
          refine op (y (x_fieldAddr fo_87_2 rfl) rfl ?_)
          refine op (y (x_load1 ag_3 rfl (by first | assumption | exact Cell.own 0 rfl rfl | exact Cell.own 1 rfl rfl | exact Cell.own 2 rfl rfl | exact Cell.own 3 rfl rfl | exact Cell.own 4 rfl rfl | exact Cell.own 5 rfl rfl | exact Cell.ofRo (by assumption))) rfl ?_)
          refine op (e_call rfl fn_86 rfl rfl (PutInt_c _ A2 cap3 _ _ _ hO (by omega)) fun v41 ro41 L41 hle41 hp41 => ?_)
          obtain ⟨A3, cap4, rfl, hO3, hLL⟩ := hp41
          subst hLL
          rw [if_pos ⟨by first | exact g24 | exact g23, h5⟩] at hsn
          rw [← hsn] at hO3 ⊢
          refine op (y (x_assign rfl) rfl ?_)
          refine nil ?_
          refine n_in ?_
          exact mid [(3, .pointer (some ⟨b3, 0, none⟩)), (1, .int .i64 a), (2, .int .i64 b), (7, .slice _ (kindsR (ed.take (k + 1)) a b).length _), (8, .int .i64 (k : Nat))] ⟨rfl, rfl, rfl, rfl, rfl, trivial⟩ ⟨_, _, rfl, rfl, by omega, hle.trans hle41, hB.mono hle41, hO3⟩
        · try simp only [decide_eq_true_eq, decide_eq_false_iff_not, beq_iff_eq, bne_iff_ne, ne_eq, beq_eq_false_iff_ne, bne_eq_false_iff_eq, Bool.not_eq_true', Bool.not_eq_false', Bool.not_eq_true, Bool.not_eq_false, Decidable.not_not, Int.not_lt, Int.not_le] at h5
          refine skip ?_
          refine n_in ?_
          have hne : ¬ ((ed[k]).1 = a ∧ (ed[k]).2.1 = b) := fun ⟨e1, e2⟩ => by first | exact h5 e2 | (first | exact g24 e1 | exact g23 e1) | simp_all
          rw [if_neg hne] at hsn
          rw [← hsn] at hO ⊢
          exact mid [(3, .pointer (some ⟨b3, 0, none⟩)), (1, .int .i64 a), (2, .int .i64 b), (7, .slice _ (kindsR (ed.take (k + 1)) a b).length _), (8, .int .i64 (k : Nat))] ⟨rfl, rfl, rfl, rfl, rfl, trivial⟩ ⟨_, _, rfl, rfl, by omega, hle, hB, hO⟩
      · try simp only [decide_eq_true_eq, decide_eq_false_iff_not, beq_iff_eq, bne_iff_ne, ne_eq, beq_eq_false_iff_ne, bne_eq_false_iff_eq, Bool.not_eq_true', Bool.not_eq_false', Bool.not_eq_true, Bool.not_eq_false, Decidable.not_not, Int.not_lt, Int.not_le] at g24
        refine opN rfl rfl rfl rfl ?_
        refine opN rfl rfl rfl rfl ?_
        refine opN rfl rfl rfl rfl ?_
        refine opN rfl rfl rfl rfl ?_
        refine opN rfl rfl rfl rfl ?_
        refine opN rfl rfl rfl rfl ?_
        refine opN rfl rfl rfl rfl ?_
        refine opN rfl rfl rfl rfl ?_
        refine op (y (x_pickF rfl rfl) rfl ?_)
        refine nil ?_
        refine n_then ?_
        refine condF rfl ?_
        refine skip ?_
        refine n_in ?_
        have hne : ¬ ((ed[k]).1 = a ∧ (ed[k]).2.1 = b) := fun ⟨e1, e2⟩ => by first | exact h5 e2 | (first | exact g24 e1 | exact g23 e1) | simp_all
        rw [if_neg hne] at hsn
        rw [← hsn] at hO ⊢
        exact mid [(3, .pointer (some ⟨b3, 0, none⟩)), (1, .int .i64 a), (2, .int .i64 b), (7, .slice _ (kindsR (ed.take (k + 1)) a b).length _), (8, .int .i64 (k : Nat))] ⟨rfl, rfl, rfl, rfl, rfl, trivial⟩ ⟨_, _, rfl, rfl, by omega, hle, hB, hO⟩
    · rintro F ro' L' ⟨A2, cap3, rfl, rfl, hk2, hle, hB, hO⟩
      refine region ?_
      refine op (y (x_move rfl) rfl ?_)
      refine op (y (x_add rfl rfl _ (wr (by omega) (by omega))) rfl ?_)
      refine op (y (x_assign rfl) rfl ?_)
      refine nil ?_
      exact round (ed.length - (k + 1)) [(3, .pointer (some ⟨b3, 0, none⟩)), (1, .int .i64 a), (2, .int .i64 b), (7, .slice _ (kindsR (ed.take (k + 1)) a b).length _), (8, .int .i64 ((k + 1) : Nat))] (by omega) ⟨rfl, rfl, rfl, rfl, rfl, trivial⟩ ⟨k + 1, _, _, rfl, rfl, rfl, by omega, hle, hB, hO⟩
  · try simp only [decide_eq_true_eq, decide_eq_false_iff_not, beq_iff_eq, bne_iff_ne, ne_eq, beq_eq_false_iff_ne, bne_eq_false_iff_eq, Bool.not_eq_true', Bool.not_eq_false', Bool.not_eq_true, Bool.not_eq_false, Decidable.not_not, Int.not_lt, Int.not_le] at h3
    refine exit ?_
    refine e_then ?_
    refine e_then ?_
    refine e_in ?_
    refine n_then ?_
    refine seq ?_
    refine region ?_
    refine op (y (x_move rfl) rfl ?_)
    refine op (y (x_assign rfl) rfl ?_)
    refine nil ?_
    refine n_then ?_
    refine ret ?_
    obtain rfl : k = ed.length := by omega
    rw [List.take_length] at *
    refine drop0 ?_
    exact done rfl (.tmp rfl (.nil)) (hle) (L) (⟨_, .refl _, .refl _⟩) (⟨A2, cap3, rfl, hO, rfl⟩)

end Go.Proofs.Ytlmeblhcipkgmaa
namespace Go.Proofs.Ytlmeblhcipkgmaa
open Go Go.U
set_option maxRecDepth 20000
set_option linter.unusedSimpArgs false
set_option linter.unusedVariables false

theorem putI_le (l : List Int) (n : Int) : (putI l n).length ≤ l.length + 1 := by
  unfold putI
  split
  · omega
  · have := td_len (fun x => decide (x < n)) l
    simp only [List.length_append, List.length_cons]
    omega
def stE (x : Ed) (s : List Ed × Bool) (e : Ed) : List Ed × Bool := if (!s.2 && lessE x e) = true then (s.1 ++ [x] ++ [e], true) else (s.1 ++ [e], s.2)
def foE (x : Ed) (l : List Ed) : List Ed × Bool := l.foldl (stE x) ([], false)
theorem foE_take {x : Ed} {l : List Ed} {k : Nat} {e : Ed} (h : l[k]? = some e) : foE x (l.take (k + 1)) = stE x (foE x (l.take k)) e := by
  unfold foE
  rw [take_snoc' h, List.foldl_append]
  rfl
def insE (x : Ed) (l : List Ed) : List Ed := if (foE x l).2 then (foE x l).1 else (foE x l).1 ++ [x]
def putE (l : List Ed) (x : Ed) : List Ed := if x ∈ l then l else insE x l
theorem stE_len (x : Ed) (s : List Ed × Bool) (e : Ed) : (stE x s e).1.length + (if (stE x s e).2 then 0 else 1) = s.1.length + 1 + (if s.2 then 0 else 1) := by
  unfold stE
  split
  · rename_i h
    have h2 : s.2 = false := by
      cases hs : s.2 with
      | false => rfl
      | true => rw [hs] at h; simp at h
    simp [h2]
  · simp only [List.length_append, List.length_singleton]
theorem foE_len (x : Ed) (l : List Ed) : (foE x l).1.length + (if (foE x l).2 then 0 else 1) = l.length + 1 := by
  have key : ∀ (l : List Ed) (s : List Ed × Bool), (l.foldl (stE x) s).1.length + (if (l.foldl (stE x) s).2 then 0 else 1) = s.1.length + l.length + (if s.2 then 0 else 1) := by
    intro l
    induction l with
    | nil => intro s; rfl
    | cons e l ih =>
      intro s
      rw [List.foldl_cons, ih, List.length_cons]
      have := stE_len x s e
      omega
  exact (key l ([], false)).trans (by simp)
theorem foE_le (x : Ed) (l : List Ed) : (foE x l).1.length ≤ l.length + 1 := by have := foE_len x l; omega

theorem GEdge_c (nd : List Int) (ed : List Ed) (A : Option Addr) (cap : Nat) (B : Option Addr) (cap2 : Nat) (ro : Ro) (L : List (List Blk)) (hA : Sl ro 1 encInt A cap nd) (hB : Sl ro 3 encEdge B cap2 ed) (a b c : Int) (hn : nd.length ≤ 100000) (hne : ed.length ≤ 100000) :
    CT Try.prog 59 [gv A nd.length cap B ed.length cap2, .int .i64 a, .int .i64 b, .int .i64 c].toArray ro L (PG (putI (putI nd a) b) (putE ed (a, b, c)) L) := by
  have hcapn : nd.length ≤ 9223372036854775807 := by have := hA.1; have := hA.2.1; unfold maxLen at this; omega
  have hcape : ed.length ≤ 9223372036854775807 := by have := hB.1; have := hB.2.1; unfold maxLen at this; omega
  refine enter Try.func59 rfl Try.ntmps59 rfl ?_
  refine seq ?_
  refine region ?_
  refine op (e_box rfl rfl rfl fun b4 => ?_)
  refine op (e_alloc rfl zc_63 rfl fun b8 => ?_)
  refine nil ?_
  refine n_then ?_
  refine seq ?_
  refine region ?_
  refine op (y (x_loadOwn 1 [.slice A nd.length cap, .slice B ed.length cap2] ag_63 rfl rfl rfl rfl) rfl ?_)
  refine op (y (x_move rfl) rfl ?_)
  refine op (e_call rfl fn_62 rfl rfl (GNode_c nd ed A cap B cap2 _ _ hA hB a (by omega)) fun v15 ro15 L15 hle15 hp15 => ?_)
  obtain ⟨A1, cap1, B1, cap21, rfl, hA1, hB1, hLL⟩ := hp15
  subst hLL
  have hpl1 : (putI nd a).length ≤ nd.length + 1 := putI_le nd a
  refine op (y (x_move rfl) rfl ?_)
  refine op (e_call rfl fn_62 rfl rfl (GNode_c (putI nd a) ed A1 cap1 B1 cap21 _ _ hA1 hB1 b (by omega)) fun v17 ro17 L17 hle17 hp17 => ?_)
  obtain ⟨A2, cap3, B, cap2, rfl, hA2, hB2, hLL⟩ := hp17
  subst hLL
  have hpl2 : (putI (putI nd a) b).length ≤ (putI nd a).length + 1 := putI_le _ b
  generalize putI (putI nd a) b = nd2 at *
  first | refine op (e_store 0 rfl rfl ts_63 rfl rfl rfl rfl rfl rfl ?_) | refine op (e_store 1 rfl rfl ts_63 rfl rfl rfl rfl rfl rfl ?_) | refine op (e_store 2 rfl rfl ts_63 rfl rfl rfl rfl rfl rfl ?_) | refine op (e_store 3 rfl rfl ts_63 rfl rfl rfl rfl rfl rfl ?_) | refine op (e_store 4 rfl rfl ts_63 rfl rfl rfl rfl rfl rfl ?_) | refine op (e_store 5 rfl rfl ts_63 rfl rfl rfl rfl rfl rfl ?_)
  refine nil ?_
  refine n_then ?_
  refine seq ?_
  refine seq ?_
  refine region ?_
  refine op (y (x_loadOwn 1 [.slice A2 nd2.length cap3, .slice B ed.length cap2] ag_63 rfl rfl rfl rfl) rfl ?_)
  refine op (y (x_move rfl) rfl ?_)
  refine op (y (x_move rfl) rfl ?_)
  refine op (y (x_move rfl) rfl ?_)
  refine op (e_call rfl fn_56 rfl rfl (GHas_c nd2 ed A2 cap3 B cap2 _ _ hA2 hB2 a b c) fun v22 ro22 L22 hle22 hp22 => ?_)
  obtain ⟨rfl, hro22, hLL⟩ := hp22
  subst hLL
  subst hro22
  refine nil ?_
  refine n_then ?_
  refine cond rfl (fun h2 => ?_) (fun h2 => ?_)
  · try simp only [decide_eq_true_eq, decide_eq_false_iff_not, beq_iff_eq, bne_iff_ne, ne_eq, beq_eq_false_iff_ne, bne_eq_false_iff_eq, Bool.not_eq_true', Bool.not_eq_false', Bool.not_eq_true, Bool.not_eq_false, Decidable.not_not, Int.not_lt, Int.not_le] at h2
    refine seq ?_
    refine region ?_
    refine op (y (x_loadOwn 1 [.slice A2 nd2.length cap3, .slice B ed.length cap2] ag_63 rfl rfl rfl rfl) rfl ?_)
    first | refine op (e_store 0 rfl rfl ts_63 rfl rfl rfl rfl rfl rfl ?_) | refine op (e_store 1 rfl rfl ts_63 rfl rfl rfl rfl rfl rfl ?_) | refine op (e_store 2 rfl rfl ts_63 rfl rfl rfl rfl rfl rfl ?_) | refine op (e_store 3 rfl rfl ts_63 rfl rfl rfl rfl rfl rfl ?_) | refine op (e_store 4 rfl rfl ts_63 rfl rfl rfl rfl rfl rfl ?_) | refine op (e_store 5 rfl rfl ts_63 rfl rfl rfl rfl rfl rfl ?_)
    refine nil ?_
    refine n_then ?_
    refine ret ?_
    refine r_then ?_
    exact done rfl (.cellN ag_63 rfl rfl (CellsAt.own 0 0 2 _ rfl rfl) (.nil)) (hle15.trans hle17) (L) (⟨_, .refl _, List.sublist_append_of_sublist_right (List.sublist_append_right _ _)⟩) (⟨A2, cap3, B, cap2, by rw [putE, if_pos h2]; rfl, hA2, by rw [putE, if_pos h2]; exact hB2, rfl⟩)
  · try simp only [decide_eq_true_eq, decide_eq_false_iff_not, beq_iff_eq, bne_iff_ne, ne_eq, beq_eq_false_iff_ne, bne_eq_false_iff_eq, Bool.not_eq_true', Bool.not_eq_false', Bool.not_eq_true, Bool.not_eq_false, Decidable.not_not, Int.not_lt, Int.not_le] at h2
    refine skip ?_
    refine n_then ?_
    refine seq ?_
    refine region ?_
    refine op (y (x_move rfl) rfl ?_)
    refine op (y (x_move rfl) rfl ?_)
    refine op (y (x_move rfl) rfl ?_)
    refine op (y (x_build bu_87 rfl rfl) rfl ?_)
    refine op (e_alloc rfl zc_87 rfl fun b9 => ?_)
    first | refine op (e_store 0 rfl rfl ts_87 rfl rfl rfl rfl rfl rfl ?_) | refine op (e_store 1 rfl rfl ts_87 rfl rfl rfl rfl rfl rfl ?_) | refine op (e_store 2 rfl rfl ts_87 rfl rfl rfl rfl rfl rfl ?_) | refine op (e_store 3 rfl rfl ts_87 rfl rfl rfl rfl rfl rfl ?_) | refine op (e_store 4 rfl rfl ts_87 rfl rfl rfl rfl rfl rfl ?_) | refine op (e_store 5 rfl rfl ts_87 rfl rfl rfl rfl rfl rfl ?_)
    refine nil ?_
    refine n_then ?_
    refine seq ?_
    refine region ?_
    refine op (y (x_assign rfl) rfl ?_)
    refine nil ?_
    refine n_then ?_
    refine seq ?_
    refine region ?_
    refine op (y (x_assign rfl) rfl ?_)
    refine nil ?_
    refine n_then ?_
    refine seq ?_
    refine seq ?_
    refine region ?_
    refine op (y (x_assign rfl) rfl ?_)
    refine nil ?_
    refine n_then ?_
    refine block ?_
    refine emp ?_
    refine loop (fun m F ro' L' => ∃ (k : Nat) (A5 : Option Addr) (cap5 : Nat) (R3 : List Blk), (m = ed.length - k) ∧ (F = [(4, .pointer (some ⟨b4, 0, none⟩)), (8, .pointer (some ⟨b8, 0, none⟩)), (9, .pointer (some ⟨b9, 0, none⟩)), (10, .slice A5 (foE (a, b, c) (ed.take k)).1.length cap5), (11, .bool (foE (a, b, c) (ed.take k)).2), (12, .int .i64 (k : Nat))]) ∧ (ro17 = ro') ∧ (L' = R3 :: [(b9, .cells [.int .i64 a, .int .i64 b, .int .i64 c].toArray 87 (0, 0))] :: [(b8, .cells [.slice none 0 0, .slice none 0 0].toArray 63 (0, 0))] :: [(b4, .cells [.slice A2 nd2.length cap3, .slice B ed.length cap2].toArray 63 (0, 0))] :: L) ∧ (k ≤ ed.length) ∧ (OwnS 87 3 A5 (foE (a, b, c) (ed.take k)).1.length cap5 ((foE (a, b, c) (ed.take k)).1.flatMap encEdge) R3)) (ed.length - 0) [(4, .pointer (some ⟨b4, 0, none⟩)), (8, .pointer (some ⟨b8, 0, none⟩)), (9, .pointer (some ⟨b9, 0, none⟩)), (10, .slice none (foE (a, b, c) (ed.take 0)).1.length 0), (11, .bool (foE (a, b, c) (ed.take 0)).2), (12, .int .i64 (0 : Nat))] ⟨rfl, rfl, rfl, rfl, rfl, rfl, trivial⟩ ⟨0, none, 0, [], rfl, rfl, rfl, rfl, by omega, OwnS.none_ 87 3⟩ ?_
    rintro m F ro' L' ⟨k, A5, cap5, R3, rfl, rfl, rfl, rfl, hk, hT⟩
    have hfl := foE_le (a, b, c) (ed.take k)
    rw [List.length_take] at hfl
    refine seq ?_
    refine seq ?_
    refine region ?_
    refine op (y (x_move rfl) rfl ?_)
    refine op (y (x_fieldAddr fo_63_1 rfl) rfl ?_)
    refine op (y (x_load1 ag_61 rfl (by first | assumption | exact Cell.own 0 rfl rfl | exact Cell.own 1 rfl rfl | exact Cell.own 2 rfl rfl | exact Cell.own 3 rfl rfl | exact Cell.own 4 rfl rfl | exact Cell.own 5 rfl rfl | exact Cell.ofRo (by assumption))) rfl ?_)
    refine op (y (x_lenSl sz_61 rfl) rfl ?_)
    refine op (y (x_lss rfl rfl) rfl ?_)
    refine nil ?_
    refine n_then ?_
    refine cond rfl (fun h8 => ?_) (fun h8 => ?_)
    · try simp only [decide_eq_true_eq, decide_eq_false_iff_not, beq_iff_eq, bne_iff_ne, ne_eq, beq_eq_false_iff_ne, bne_eq_false_iff_eq, Bool.not_eq_true', Bool.not_eq_false', Bool.not_eq_true, Bool.not_eq_false, Decidable.not_not, Int.not_lt, Int.not_le] at h8
      refine skip ?_
      refine n_then ?_
      refine seq ?_
      refine block ?_
      refine seqM (fun F ro' L' => ∃ (O2 : List Ed) (pf2 : Bool) (A5 : Option Addr) (cap5 : Nat) (R3 : List Blk), (F = [(4, .pointer (some ⟨b4, 0, none⟩)), (8, .pointer (some ⟨b8, 0, none⟩)), (9, .pointer (some ⟨b9, 0, none⟩)), (10, .slice A5 O2.length cap5), (11, .bool pf2), (12, .int .i64 (k : Nat))]) ∧ (ro17 = ro') ∧ (L' = R3 :: [(b9, .cells [.int .i64 a, .int .i64 b, .int .i64 c].toArray 87 (0, 0))] :: [(b8, .cells [.slice none 0 0, .slice none 0 0].toArray 63 (0, 0))] :: [(b4, .cells [.slice A2 nd2.length cap3, .slice B ed.length cap2].toArray 63 (0, 0))] :: L) ∧ (OwnS 87 3 A5 O2.length cap5 (O2.flatMap encEdge) R3) ∧ (foE (a, b, c) (ed.take (k + 1)) = (O2 ++ [ed[k]], pf2)) ∧ (O2.length ≤ ed.length + 1)) ?_ ?_
      · skip
        refine seq ?_
        have hkl : k < ed.length := by omega
        obtain ⟨bbx, offx, rfl, hcx⟩ := hB2.at_ (i := k) (by omega)
        have hx := List.getElem?_eq_getElem (show k < ed.length from by omega)
        have cx0 := hcx k _ hx 0 _ rfl
        have cx1 := hcx k _ hx 1 _ rfl
        have cx2 := hcx k _ hx 2 _ rfl
        have hft := foE_take (x := (a, b, c)) hx
        refine drawL (by kernel_rfl) ?_
        refine d_take 0 rfl (by kernel_rfl) (by kernel_rfl) (by kernel_rfl) (fun _ _ _ h => h) rfl (.inl rfl) (x_move rfl) (fun w hi => by first | exact hi.j | exact J.of_le (Ro.le.refl _) (fun x hx => List.mem_append_right _ hx) hi | exact J.of_le (Ro.le.refl _) (fun x hx => List.mem_append_right _ (List.mem_append_right _ hx)) hi | exact J.of_le (Ro.le.refl _) (fun x hx => absurd hx (by simp)) hi | exact J.of_le (by assumption) (fun x hx => absurd hx (by simp)) hi) ?_
        refine d_take 1 rfl (by kernel_rfl) (by kernel_rfl) (by kernel_rfl) (fun _ _ _ h => h) rfl (.inl rfl) (x_not rfl) (fun w hi => by first | exact hi.j | exact J.of_le (Ro.le.refl _) (fun x hx => List.mem_append_right _ hx) hi | exact J.of_le (Ro.le.refl _) (fun x hx => List.mem_append_right _ (List.mem_append_right _ hx)) hi | exact J.of_le (Ro.le.refl _) (fun x hx => absurd hx (by simp)) hi | exact J.of_le (by assumption) (fun x hx => absurd hx (by simp)) hi) ?_
        refine d_take 2 rfl (by kernel_rfl) (by kernel_rfl) (by kernel_rfl) (fun _ _ _ h => h) rfl (.inl rfl) (x_move rfl) (fun w hi => by first | exact hi.j | exact J.of_le (Ro.le.refl _) (fun x hx => List.mem_append_right _ hx) hi | exact J.of_le (Ro.le.refl _) (fun x hx => List.mem_append_right _ (List.mem_append_right _ hx)) hi | exact J.of_le (Ro.le.refl _) (fun x hx => absurd hx (by simp)) hi | exact J.of_le (by assumption) (fun x hx => absurd hx (by simp)) hi) ?_
        refine bsplit 37 rfl (fun g37 => ?_) (fun g37 => ?_)
        · try simp only [decide_eq_true_eq, decide_eq_false_iff_not, beq_iff_eq, bne_iff_ne, ne_eq, beq_eq_false_iff_ne, bne_eq_false_iff_eq, Bool.not_eq_true', Bool.not_eq_false', Bool.not_eq_true, Bool.not_eq_false, Decidable.not_not, Int.not_lt, Int.not_le] at g37
          refine d_take 3 rfl (by kernel_rfl) (by kernel_rfl) (by kernel_rfl) (fun _ _ _ h => h) rfl (.inr ⟨_, _, _, rfl, rfl, rfl⟩) (x_loadOwn 1 [.int .i64 a, .int .i64 b, .int .i64 c] ag_87 rfl rfl rfl rfl) (fun w hi => by first | exact hi.j | exact J.of_le (Ro.le.refl _) (fun x hx => List.mem_append_right _ hx) hi | exact J.of_le (Ro.le.refl _) (fun x hx => List.mem_append_right _ (List.mem_append_right _ hx)) hi | exact J.of_le (Ro.le.refl _) (fun x hx => absurd hx (by simp)) hi | exact J.of_le (by assumption) (fun x hx => absurd hx (by simp)) hi) ?_
          refine d_take 4 rfl (by kernel_rfl) (by kernel_rfl) (by kernel_rfl) (fun _ _ _ h => h) rfl (.inr ⟨_, _, _, rfl, rfl, rfl⟩) (x_fieldAddr fo_63_1 rfl) (fun w hi => by first | exact hi.j | exact J.of_le (Ro.le.refl _) (fun x hx => List.mem_append_right _ hx) hi | exact J.of_le (Ro.le.refl _) (fun x hx => List.mem_append_right _ (List.mem_append_right _ hx)) hi | exact J.of_le (Ro.le.refl _) (fun x hx => absurd hx (by simp)) hi | exact J.of_le (by assumption) (fun x hx => absurd hx (by simp)) hi) ?_
          refine d_take 5 rfl (by kernel_rfl) (by kernel_rfl) (by kernel_rfl) (fun _ _ _ h => h) rfl (.inr ⟨_, _, _, rfl, rfl, rfl⟩) (x_load1 ag_61 rfl (by first | assumption | exact Cell.own 0 rfl rfl | exact Cell.own 1 rfl rfl | exact Cell.own 2 rfl rfl | exact Cell.own 3 rfl rfl | exact Cell.own 4 rfl rfl | exact Cell.own 5 rfl rfl | exact Cell.ofRo (by assumption))) (fun w hi => by first | exact hi.j | exact J.of_le (Ro.le.refl _) (fun x hx => List.mem_append_right _ hx) hi | exact J.of_le (Ro.le.refl _) (fun x hx => List.mem_append_right _ (List.mem_append_right _ hx)) hi | exact J.of_le (Ro.le.refl _) (fun x hx => absurd hx (by simp)) hi | exact J.of_le (by assumption) (fun x hx => absurd hx (by simp)) hi) ?_
          refine d_take 6 rfl (by kernel_rfl) (by kernel_rfl) (by kernel_rfl) (fun _ _ _ h => h) rfl (.inr ⟨_, _, _, rfl, rfl, rfl⟩) (x_move rfl) (fun w hi => by first | exact hi.j | exact J.of_le (Ro.le.refl _) (fun x hx => List.mem_append_right _ hx) hi | exact J.of_le (Ro.le.refl _) (fun x hx => List.mem_append_right _ (List.mem_append_right _ hx)) hi | exact J.of_le (Ro.le.refl _) (fun x hx => absurd hx (by simp)) hi | exact J.of_le (by assumption) (fun x hx => absurd hx (by simp)) hi) ?_
          refine d_take 7 rfl (by kernel_rfl) (by kernel_rfl) (by kernel_rfl) (fun _ _ _ h => h) rfl (.inr ⟨_, _, _, rfl, rfl, rfl⟩) (x_indexNat sz_61 rfl rfl (by omega)) (fun w hi => by first | exact hi.j | exact J.of_le (Ro.le.refl _) (fun x hx => List.mem_append_right _ hx) hi | exact J.of_le (Ro.le.refl _) (fun x hx => List.mem_append_right _ (List.mem_append_right _ hx)) hi | exact J.of_le (Ro.le.refl _) (fun x hx => absurd hx (by simp)) hi | exact J.of_le (by assumption) (fun x hx => absurd hx (by simp)) hi) ?_
          refine d_take 8 rfl (by kernel_rfl) (by kernel_rfl) (by kernel_rfl) (fun _ _ _ h => h) rfl (.inr ⟨_, _, _, rfl, rfl, rfl⟩) (x_loadN (vs := encEdge ed[k]) ag_87 rfl rfl (CellsAt.ofRo (hcx k _ hx))) (fun w hi => by first | exact hi.j | exact J.of_le (Ro.le.refl _) (fun x hx => List.mem_append_right _ hx) hi | exact J.of_le (Ro.le.refl _) (fun x hx => List.mem_append_right _ (List.mem_append_right _ hx)) hi | exact J.of_le (Ro.le.refl _) (fun x hx => absurd hx (by simp)) hi | exact J.of_le (by assumption) (fun x hx => absurd hx (by simp)) hi) ?_
          refine d_one 9 rfl (by kernel_rfl) (.inr ⟨_, _, _, rfl, rfl, rfl⟩) (e_call rfl fn_95 rfl rfl (Gless_c (a, b, c) ed[k] _ _) fun v44 ro44 L44 hle44 hp44 => ?_)
          obtain ⟨rfl, hr44, hL44⟩ := hp44
          subst hr44
          subst hL44
          refine d_next (fun w hi => by first | exact hi.j | exact J.of_le (Ro.le.refl _) (fun x hx => List.mem_append_right _ hx) hi | exact J.of_le (Ro.le.refl _) (fun x hx => List.mem_append_right _ (List.mem_append_right _ hx)) hi | exact J.of_le (Ro.le.refl _) (fun x hx => absurd hx (by simp)) hi | exact J.of_le (by assumption) (fun x hx => absurd hx (by simp)) hi) ?_
          refine d_take 10 rfl (by kernel_rfl) (by kernel_rfl) (by kernel_rfl) (fun _ _ _ h => h) rfl (.inl rfl) (x_pickT rfl rfl) (fun w hi => by first | exact hi.j | exact J.of_le (Ro.le.refl _) (fun x hx => List.mem_append_right _ hx) hi | exact J.of_le (Ro.le.refl _) (fun x hx => List.mem_append_right _ (List.mem_append_right _ hx)) hi | exact J.of_le (Ro.le.refl _) (fun x hx => absurd hx (by simp)) hi | exact J.of_le (by assumption) (fun x hx => absurd hx (by simp)) hi) ?_
          refine d_end (by kernel_rfl) ?_
          refine n_then ?_
          refine cond rfl (fun h10 => ?_) (fun h10 => ?_)
          · try simp only [decide_eq_true_eq, decide_eq_false_iff_not, beq_iff_eq, bne_iff_ne, ne_eq, beq_eq_false_iff_ne, bne_eq_false_iff_eq, Bool.not_eq_true', Bool.not_eq_false', Bool.not_eq_true, Bool.not_eq_false, Decidable.not_not, Int.not_lt, Int.not_le] at h10
            refine seq ?_
            refine region ?_
            refine op (y (x_move rfl) rfl ?_)
            refine op (y (x_loadOwn 1 [.int .i64 a, .int .i64 b, .int .i64 c] ag_87 rfl rfl rfl rfl) rfl ?_)
            refine op (e_slice1 rfl Try.underlying61 ti_87 rfl rfl (by decide) (by decide) rfl rfl rfl fun b48 => ?_)
            refine op (e_append1 0 rfl st_61 rfl rfl rfl hT rfl rfl (by omega) (by omega) (fun _ => rfl) fun A49 cap49 R49 hO49 => ?_)
            refine op (y (x_assign rfl) rfl ?_)
            refine nil ?_
            refine n_then ?_
            refine region ?_
            refine op (y (x_assign rfl) rfl ?_)
            refine nil ?_
            have hl2 : ((foE (a, b, c) (ed.take k)).1 ++ [(a, b, c)]).length = (foE (a, b, c) (ed.take k)).1.length + 1 := by simp
            rw [← hl2] at hO49 ⊢
            exact mid [(4, .pointer (some ⟨b4, 0, none⟩)), (8, .pointer (some ⟨b8, 0, none⟩)), (9, .pointer (some ⟨b9, 0, none⟩)), (10, .slice _ (((foE (a, b, c) (ed.take k)).1 ++ [(a, b, c)])).length _), (11, .bool true), (12, .int .i64 (k : Nat))] ⟨rfl, rfl, rfl, rfl, rfl, rfl, trivial⟩ ⟨((foE (a, b, c) (ed.take k)).1 ++ [(a, b, c)]), true, _, _, _, rfl, rfl, rfl, OwnS.snoc (enc := encEdge) hO49, by rw [hft, stE, if_pos (by simp_all)], by rw [hl2]; omega⟩
          · try simp only [decide_eq_true_eq, decide_eq_false_iff_not, beq_iff_eq, bne_iff_ne, ne_eq, beq_eq_false_iff_ne, bne_eq_false_iff_eq, Bool.not_eq_true', Bool.not_eq_false', Bool.not_eq_true, Bool.not_eq_false, Decidable.not_not, Int.not_lt, Int.not_le] at h10
            refine skip ?_
            exact mid [(4, .pointer (some ⟨b4, 0, none⟩)), (8, .pointer (some ⟨b8, 0, none⟩)), (9, .pointer (some ⟨b9, 0, none⟩)), (10, .slice _ ((foE (a, b, c) (ed.take k)).1).length _), (11, .bool ((foE (a, b, c) (ed.take k)).2)), (12, .int .i64 (k : Nat))] ⟨rfl, rfl, rfl, rfl, rfl, rfl, trivial⟩ ⟨(foE (a, b, c) (ed.take k)).1, (foE (a, b, c) (ed.take k)).2, _, _, _, rfl, rfl, rfl, hT, by rw [hft, stE, if_neg (by simp_all)], by omega⟩
        · try simp only [decide_eq_true_eq, decide_eq_false_iff_not, beq_iff_eq, bne_iff_ne, ne_eq, beq_eq_false_iff_ne, bne_eq_false_iff_eq, Bool.not_eq_true', Bool.not_eq_false', Bool.not_eq_true, Bool.not_eq_false, Decidable.not_not, Int.not_lt, Int.not_le] at g37
          refine d_skip 3 rfl (by kernel_rfl) (by kernel_rfl) (by kernel_rfl) (fun _ _ _ h => h) rfl rfl rfl rfl (fun w hi => by first | exact hi.j | exact J.of_le (Ro.le.refl _) (fun x hx => List.mem_append_right _ hx) hi | exact J.of_le (Ro.le.refl _) (fun x hx => List.mem_append_right _ (List.mem_append_right _ hx)) hi | exact J.of_le (Ro.le.refl _) (fun x hx => absurd hx (by simp)) hi | exact J.of_le (by assumption) (fun x hx => absurd hx (by simp)) hi) ?_
          refine d_skip 4 rfl (by kernel_rfl) (by kernel_rfl) (by kernel_rfl) (fun _ _ _ h => h) rfl rfl rfl rfl (fun w hi => by first | exact hi.j | exact J.of_le (Ro.le.refl _) (fun x hx => List.mem_append_right _ hx) hi | exact J.of_le (Ro.le.refl _) (fun x hx => List.mem_append_right _ (List.mem_append_right _ hx)) hi | exact J.of_le (Ro.le.refl _) (fun x hx => absurd hx (by simp)) hi | exact J.of_le (by assumption) (fun x hx => absurd hx (by simp)) hi) ?_
          refine d_skip 5 rfl (by kernel_rfl) (by kernel_rfl) (by kernel_rfl) (fun _ _ _ h => h) rfl rfl rfl rfl (fun w hi => by first | exact hi.j | exact J.of_le (Ro.le.refl _) (fun x hx => List.mem_append_right _ hx) hi | exact J.of_le (Ro.le.refl _) (fun x hx => List.mem_append_right _ (List.mem_append_right _ hx)) hi | exact J.of_le (Ro.le.refl _) (fun x hx => absurd hx (by simp)) hi | exact J.of_le (by assumption) (fun x hx => absurd hx (by simp)) hi) ?_
          refine d_skip 6 rfl (by kernel_rfl) (by kernel_rfl) (by kernel_rfl) (fun _ _ _ h => h) rfl rfl rfl rfl (fun w hi => by first | exact hi.j | exact J.of_le (Ro.le.refl _) (fun x hx => List.mem_append_right _ hx) hi | exact J.of_le (Ro.le.refl _) (fun x hx => List.mem_append_right _ (List.mem_append_right _ hx)) hi | exact J.of_le (Ro.le.refl _) (fun x hx => absurd hx (by simp)) hi | exact J.of_le (by assumption) (fun x hx => absurd hx (by simp)) hi) ?_
          refine d_skip 7 rfl (by kernel_rfl) (by kernel_rfl) (by kernel_rfl) (fun _ _ _ h => h) rfl rfl rfl rfl (fun w hi => by first | exact hi.j | exact J.of_le (Ro.le.refl _) (fun x hx => List.mem_append_right _ hx) hi | exact J.of_le (Ro.le.refl _) (fun x hx => List.mem_append_right _ (List.mem_append_right _ hx)) hi | exact J.of_le (Ro.le.refl _) (fun x hx => absurd hx (by simp)) hi | exact J.of_le (by assumption) (fun x hx => absurd hx (by simp)) hi) ?_
          refine d_skip 8 rfl (by kernel_rfl) (by kernel_rfl) (by kernel_rfl) (fun _ _ _ h => h) rfl rfl rfl rfl (fun w hi => by first | exact hi.j | exact J.of_le (Ro.le.refl _) (fun x hx => List.mem_append_right _ hx) hi | exact J.of_le (Ro.le.refl _) (fun x hx => List.mem_append_right _ (List.mem_append_right _ hx)) hi | exact J.of_le (Ro.le.refl _) (fun x hx => absurd hx (by simp)) hi | exact J.of_le (by assumption) (fun x hx => absurd hx (by simp)) hi) ?_
          refine d_skip 9 rfl (by kernel_rfl) (by kernel_rfl) (by kernel_rfl) (fun _ _ _ h => h) rfl rfl rfl rfl (fun w hi => by first | exact hi.j | exact J.of_le (Ro.le.refl _) (fun x hx => List.mem_append_right _ hx) hi | exact J.of_le (Ro.le.refl _) (fun x hx => List.mem_append_right _ (List.mem_append_right _ hx)) hi | exact J.of_le (Ro.le.refl _) (fun x hx => absurd hx (by simp)) hi | exact J.of_le (by assumption) (fun x hx => absurd hx (by simp)) hi) ?_
          refine d_take 10 rfl (by kernel_rfl) (by kernel_rfl) (by kernel_rfl) (fun _ _ _ h => h) rfl (.inl rfl) (x_pickF rfl rfl) (fun w hi => by first | exact hi.j | exact J.of_le (Ro.le.refl _) (fun x hx => List.mem_append_right _ hx) hi | exact J.of_le (Ro.le.refl _) (fun x hx => List.mem_append_right _ (List.mem_append_right _ hx)) hi | exact J.of_le (Ro.le.refl _) (fun x hx => absurd hx (by simp)) hi | exact J.of_le (by assumption) (fun x hx => absurd hx (by simp)) hi) ?_
          refine d_end (by kernel_rfl) ?_
          refine n_then ?_
          refine condF rfl ?_
          refine skip ?_
          exact mid [(4, .pointer (some ⟨b4, 0, none⟩)), (8, .pointer (some ⟨b8, 0, none⟩)), (9, .pointer (some ⟨b9, 0, none⟩)), (10, .slice _ ((foE (a, b, c) (ed.take k)).1).length _), (11, .bool ((foE (a, b, c) (ed.take k)).2)), (12, .int .i64 (k : Nat))] ⟨rfl, rfl, rfl, rfl, rfl, rfl, trivial⟩ ⟨(foE (a, b, c) (ed.take k)).1, (foE (a, b, c) (ed.take k)).2, _, _, _, rfl, rfl, rfl, hT, by rw [hft, stE, if_neg (by simp_all)], by omega⟩
      · rintro F ro' L' ⟨O2, pf2, A5, cap5, R3, rfl, rfl, rfl, hT, hst, hol⟩
        obtain ⟨bbx, offx, rfl, hcx⟩ := hB2.at_ (i := k) (by omega)
        have hx := List.getElem?_eq_getElem (show k < ed.length from by omega)
        have cx0 := hcx k _ hx 0 _ rfl
        have cx1 := hcx k _ hx 1 _ rfl
        have cx2 := hcx k _ hx 2 _ rfl
        refine region ?_
        refine op (y (x_move rfl) rfl ?_)
        refine op (y (x_fieldAddr fo_63_1 rfl) rfl ?_)
        refine op (y (x_load1 ag_61 rfl (by first | assumption | exact Cell.own 0 rfl rfl | exact Cell.own 1 rfl rfl | exact Cell.own 2 rfl rfl | exact Cell.own 3 rfl rfl | exact Cell.own 4 rfl rfl | exact Cell.own 5 rfl rfl | exact Cell.ofRo (by assumption))) rfl ?_)
        refine op (y (x_move rfl) rfl ?_)
        refine op (y (x_indexNat sz_61 rfl rfl (by omega)) rfl ?_)
        refine op (y (x_loadN (vs := encEdge ed[k]) ag_87 rfl rfl (CellsAt.ofRo (hcx k _ hx))) rfl ?_)
        refine op (e_slice1 rfl Try.underlying61 ti_87 rfl rfl (by decide) (by decide) rfl rfl rfl fun b56 => ?_)
        refine op (e_append1 0 rfl st_61 rfl rfl rfl hT rfl rfl (by omega) (by omega) (fun _ => rfl) fun A57 cap57 R57 hO57 => ?_)
        refine op (y (x_assign rfl) rfl ?_)
        refine nil ?_
        refine n_in ?_
        refine n_then ?_
        refine region ?_
        refine op (y (x_move rfl) rfl ?_)
        refine op (y (x_add rfl rfl _ (wr (by omega) (by omega))) rfl ?_)
        refine op (y (x_assign rfl) rfl ?_)
        refine nil ?_
        have hl3 : (foE (a, b, c) (ed.take (k + 1))).1.length = O2.length + 1 := by rw [hst]; simp
        have hl4 : (foE (a, b, c) (ed.take (k + 1))).1 = O2 ++ [ed[k]] := by rw [hst]
        have hl5 : (foE (a, b, c) (ed.take (k + 1))).2 = pf2 := by rw [hst]
        rw [← hl3, ← hl5]
        exact round (ed.length - (k + 1)) [(4, .pointer (some ⟨b4, 0, none⟩)), (8, .pointer (some ⟨b8, 0, none⟩)), (9, .pointer (some ⟨b9, 0, none⟩)), (10, .slice _ (foE (a, b, c) (ed.take (k + 1))).1.length _), (11, .bool (foE (a, b, c) (ed.take (k + 1))).2), (12, .int .i64 ((k + 1) : Nat))] (by omega) ⟨rfl, rfl, rfl, rfl, rfl, rfl, trivial⟩ ⟨k + 1, _, _, _, rfl, rfl, rfl, rfl, by omega, by rw [hl3, hl4]; exact OwnS.snoc (enc := encEdge) hO57⟩
    · try simp only [decide_eq_true_eq, decide_eq_false_iff_not, beq_iff_eq, bne_iff_ne, ne_eq, beq_eq_false_iff_ne, bne_eq_false_iff_eq, Bool.not_eq_true', Bool.not_eq_false', Bool.not_eq_true, Bool.not_eq_false, Decidable.not_not, Int.not_lt, Int.not_le] at h8
      refine exit ?_
      refine e_then ?_
      refine e_then ?_
      refine e_in ?_
      refine n_then ?_
      refine seqM (fun F ro' L' => ∃ (A5 : Option Addr) (cap5 : Nat) (R3 : List Blk), (F = [(4, .pointer (some ⟨b4, 0, none⟩)), (8, .pointer (some ⟨b8, 0, none⟩)), (10, .slice A5 (insE (a, b, c) ed).length cap5)]) ∧ (ro17 = ro') ∧ (L' = R3 :: [(b9, .cells [.int .i64 a, .int .i64 b, .int .i64 c].toArray 87 (0, 0))] :: [(b8, .cells [.slice none 0 0, .slice none 0 0].toArray 63 (0, 0))] :: [(b4, .cells [.slice A2 nd2.length cap3, .slice B ed.length cap2].toArray 63 (0, 0))] :: L) ∧ (OwnS 87 3 A5 (insE (a, b, c) ed).length cap5 ((insE (a, b, c) ed).flatMap encEdge) R3)) ?_ ?_
      · skip
        refine seq ?_
        obtain rfl : k = ed.length := by omega
        rw [List.take_length] at *
        refine region ?_
        refine op (y (x_move rfl) rfl ?_)
        refine op (y (x_not rfl) rfl ?_)
        refine nil ?_
        refine n_then ?_
        refine cond rfl (fun h14 => ?_) (fun h14 => ?_)
        · try simp only [decide_eq_true_eq, decide_eq_false_iff_not, beq_iff_eq, bne_iff_ne, ne_eq, beq_eq_false_iff_ne, bne_eq_false_iff_eq, Bool.not_eq_true', Bool.not_eq_false', Bool.not_eq_true, Bool.not_eq_false, Decidable.not_not, Int.not_lt, Int.not_le] at h14
          refine region ?_
          refine op (y (x_move rfl) rfl ?_)
          refine op (y (x_loadOwn 1 [.int .i64 a, .int .i64 b, .int .i64 c] ag_87 rfl rfl rfl rfl) rfl ?_)
          refine op (e_slice1 rfl Try.underlying61 ti_87 rfl rfl (by decide) (by decide) rfl rfl rfl fun b62 => ?_)
          refine op (e_append1 0 rfl st_61 rfl rfl rfl hT rfl rfl (by omega) (by omega) (fun _ => rfl) fun A63 cap63 R63 hO63 => ?_)
          refine op (y (x_assign rfl) rfl ?_)
          refine nil ?_
          have hin : insE (a, b, c) ed = (foE (a, b, c) ed).1 ++ [(a, b, c)] := by rw [insE, if_neg (by simp [h14])]
          have hil : (insE (a, b, c) ed).length = (foE (a, b, c) ed).1.length + 1 := by rw [hin]; simp
          rw [← hil] at hO63 ⊢
          exact mid [(4, .pointer (some ⟨b4, 0, none⟩)), (8, .pointer (some ⟨b8, 0, none⟩)), (10, .slice _ (insE (a, b, c) ed).length _)] ⟨rfl, rfl, rfl, trivial⟩ ⟨_, _, _, rfl, rfl, rfl, by rw [hin] at hO63 ⊢; exact OwnS.snoc (enc := encEdge) hO63⟩
        · try simp only [decide_eq_true_eq, decide_eq_false_iff_not, beq_iff_eq, bne_iff_ne, ne_eq, beq_eq_false_iff_ne, bne_eq_false_iff_eq, Bool.not_eq_true', Bool.not_eq_false', Bool.not_eq_true, Bool.not_eq_false, Decidable.not_not, Int.not_lt, Int.not_le] at h14
          refine skip ?_
          have hin : insE (a, b, c) ed = (foE (a, b, c) ed).1 := by rw [insE, if_pos h14]
          rw [← hin] at hT ⊢
          exact mid [(4, .pointer (some ⟨b4, 0, none⟩)), (8, .pointer (some ⟨b8, 0, none⟩)), (10, .slice _ (insE (a, b, c) ed).length _)] ⟨rfl, rfl, rfl, trivial⟩ ⟨_, _, _, rfl, rfl, rfl, hT⟩
      · rintro F ro' L' ⟨A5, cap5, R3, rfl, rfl, rfl, hT⟩
        refine seq ?_
        refine ufreeze fun ro6 hle6 hR6 => ?_
        have hE : Sl ro6 3 encEdge A5 cap5 (insE (a, b, c) ed) := OwnS.sl hT (fun _ _ => rfl) hR6
        refine region ?_
        refine op (y (x_move rfl) rfl ?_)
        refine op (y (x_fieldAddr fo_63_1 rfl) rfl ?_)
        first | refine op (e_store 0 rfl rfl ts_61 rfl rfl rfl rfl rfl rfl ?_) | refine op (e_store 1 rfl rfl ts_61 rfl rfl rfl rfl rfl rfl ?_) | refine op (e_store 2 rfl rfl ts_61 rfl rfl rfl rfl rfl rfl ?_) | refine op (e_store 3 rfl rfl ts_61 rfl rfl rfl rfl rfl rfl ?_) | refine op (e_store 4 rfl rfl ts_61 rfl rfl rfl rfl rfl rfl ?_) | refine op (e_store 5 rfl rfl ts_61 rfl rfl rfl rfl rfl rfl ?_)
        refine nil ?_
        refine n_then ?_
        refine seq ?_
        refine region ?_
        refine op (y (x_loadOwn 2 [.slice A2 nd2.length cap3, .slice A5 (insE (a, b, c) ed).length cap5] ag_63 rfl rfl rfl rfl) rfl ?_)
        first | refine op (e_store 0 rfl rfl ts_63 rfl rfl rfl rfl rfl rfl ?_) | refine op (e_store 1 rfl rfl ts_63 rfl rfl rfl rfl rfl rfl ?_) | refine op (e_store 2 rfl rfl ts_63 rfl rfl rfl rfl rfl rfl ?_) | refine op (e_store 3 rfl rfl ts_63 rfl rfl rfl rfl rfl rfl ?_) | refine op (e_store 4 rfl rfl ts_63 rfl rfl rfl rfl rfl rfl ?_) | refine op (e_store 5 rfl rfl ts_63 rfl rfl rfl rfl rfl rfl ?_)
        refine nil ?_
        refine n_then ?_
        refine ret ?_
        exact done rfl (.cellN ag_63 rfl rfl (CellsAt.own 1 0 2 _ rfl rfl) (.nil)) ((hle15.trans hle17).trans hle6) (L) (⟨_, .refl _, List.sublist_append_of_sublist_right (List.sublist_append_of_sublist_right (List.sublist_append_right _ _))⟩) (⟨A2, cap3, A5, cap5, by rw [putE, if_neg h2]; rfl, hA2.mono hle6, by rw [putE, if_neg h2]; exact hE, rfl⟩)

end Go.Proofs.Ytlmeblhcipkgmaa
namespace Go.Proofs.Ytlmeblhcipkgmaa
open Go Go.U
set_option maxRecDepth 20000
set_option linter.unusedSimpArgs false
set_option linter.unusedVariables false

open Go.RowKit
abbrev GrN := GrT Int Int
abbrev GrI (G : GrN) (es : Array MapEntry) (clk : Nat) (I : List Blk) : Prop := GrA encZ encZ I64 I64 G es clk I
def RelG (x : Nat) (N : List Int) (E : List Ed) (R : List Blk) : Prop := ∃ (G : GrN) (mo : Nat) (es : Array MapEntry) (clk : Nat) (I : List Blk), R = relB 120 x mo es clk I ∧ GrI G es clk I ∧ N.Perm (nds G) ∧ E.Perm (edg G) ∧ (∀ g ∈ G, g.2.2.length ≤ E.length) ∧ ∀ g ∈ G, ∀ h ∈ g.2.2, h.2.2 ≠ []
theorem RelG.perm {x : Nat} {N N' : List Int} {E E' : List Ed} {R : List Blk} (h : RelG x N E R) (hn : N'.Perm N) (he : E'.Perm E) : RelG x N' E' R := by
  obtain ⟨G, mo, es, clk, I, h1, h2, h3, h4, h5, h6⟩ := h
  exact ⟨G, mo, es, clk, I, h1, h2, hn.trans h3, he.trans h4, fun g hg => by rw [he.length_eq]; exact h5 g hg, h6⟩
theorem RelG.nodupN {x : Nat} {N : List Int} {E : List Ed} {R : List Blk} (h : RelG x N E R) : N.Nodup := by
  obtain ⟨G, mo, es, clk, I, h1, h2, h3, h4, h5, h6⟩ := h
  exact h3.nodup_iff.2 h2.nodup

theorem GNew_c (ro : Ro) (L : List (List Blk)) : CT Try.prog 55 [].toArray ro L (fun v ro' L' => ∃ x R, v = .pointer (some ⟨x, 0, none⟩) ∧ RelG x [] [] R ∧ ro = ro' ∧ L' = R :: L) := by
  refine enter Try.func55 rfl Try.ntmps55 rfl ?_
  refine seq ?_
  refine region ?_
  refine op (y (x_assign rfl) rfl ?_)
  refine nil ?_
  refine n_then ?_
  refine seq ?_
  refine region ?_
  refine op (e_makeMap rfl fun b1 => ?_)
  refine op (y (x_build bu_120 rfl rfl) rfl ?_)
  refine op (e_box rfl rfl rfl fun b3 => ?_)
  refine op (y (x_assign rfl) rfl ?_)
  refine nil ?_
  refine n_then ?_
  refine ret ?_
  exact done rfl (.tmp rfl (.nil)) (Ro.le.refl _) (relB 120 b3 b1 #[] 0 [] :: L) (⟨_, .refl _, .refl _⟩) (⟨b3, _, rfl, ⟨[], b1, #[], 0, [], rfl, ⟨MapE.empty, .nil, by simp⟩, .refl _, .refl _, by simp, by simp⟩, rfl, rfl⟩)

theorem GrHas_c (x : Nat) (N : List Int) (E : List Ed) (R : List Blk) (ro : Ro) (L : List (List Blk)) (hR : RelG x N E R) (hL : R ∈ L) (a b c : Int) :
    CT Try.prog 57 [.pointer (some ⟨x, 0, none⟩), .int .i64 a, .int .i64 b, .int .i64 c].toArray ro L (PQ (.bool (decide ((a, b, c) ∈ E))) ro L) := by
  refine enter Try.func57 rfl Try.ntmps57 rfl ?_
  have hRP := hR
  obtain ⟨G, mo, es, clk, I, hRB, hA, hN, hE, hGl, hNe⟩ := hR
  have hroot := relB_root hRB hL
  have hmap := relB_map hRB hL
  have hin := relB_in hRB hL
  have hnd := hA.nodup
  refine seq ?_
  refine region ?_
  refine op (y (x_assign rfl) rfl ?_)
  refine nil ?_
  refine n_then ?_
  refine seq ?_
  refine region ?_
  refine op (y (x_move rfl) rfl ?_)
  refine op (y (x_nilPtr rfl) rfl ?_)
  refine op (y (x_fieldAddr fo_120_0 rfl) rfl ?_)
  refine op (y (x_load1 ag_118 rfl (Cell.blk hroot rfl)) rfl ?_)
  refine op (y (x_move rfl) rfl ?_)
  refine op (y (x_lookupV Try.underlying118 kI zc_98 rfl rfl hmap hA.outer (mget_omg hnd a)) rfl ?_)
  refine op (y (x_move rfl) rfl ?_)
  refine op (y (x_lookupO Try.underlying98 kI zc_110 rfl rfl (hA.look2 hin a b)) rfl ?_)
  refine op (y (x_move rfl) rfl ?_)
  refine op (y (x_lookupO Try.underlying110 kI zc_4 rfl rfl (hA.look3 hin a b c)) rfl ?_)
  refine op (y (x_assign rfl) rfl ?_)
  refine nil ?_
  refine n_then ?_
  refine ret ?_
  exact done rfl (.tmp rfl (.nil)) (Ro.le.refl _) (L) (⟨_, .refl _, .refl _⟩) (⟨by have e : decide ((a, b, c) ∈ E) = decide ((a, b, c) ∈ edg G) := decide_eq_decide.2 hE.mem_iff; rw [e]; rfl, rfl, rfl⟩)

theorem nds_new (G : GrN) (a : Int) (p : Nat) : nds (G ++ [(a, p, [])]) = nds G ++ [a] := by simp [nds]
theorem edg_new (G : GrN) (a : Int) (p : Nat) : edg (G ++ [(a, p, [])]) = edg G := by simp [edg]
def addN (N : List Int) (a : Int) : List Int := if a ∈ N then N else a :: N

theorem GrNode_c (x : Nat) (N : List Int) (E : List Ed) (R : List Blk) (ro : Ro) (L : List (List Blk)) (hR : RelG x N E R) (a : Int) (ha : I64 a) :
    CT Try.prog 61 [.pointer (some ⟨x, 0, none⟩), .int .i64 a].toArray ro (R :: L) (fun v ro' L' => v = .bool (!decide (a ∈ N)) ∧ ∃ R', RelG x (addN N a) E R' ∧ ro = ro' ∧ L' = R' :: L) := by
  refine enter Try.func61 rfl Try.ntmps61 rfl ?_
  have hRP := hR
  obtain ⟨G, mo, es, clk, I, hRB, hA, hN, hE, hGl, hNe⟩ := hR
  have hroot := relB_root hRB (L := R :: L) (by simp)
  have hmap := relB_map hRB (L := R :: L) (by simp)
  have hnd := hA.nodup
  refine seq ?_
  refine region ?_
  refine op (y (x_assign rfl) rfl ?_)
  refine nil ?_
  refine n_then ?_
  refine seq ?_
  refine seq ?_
  refine region ?_
  refine op (y (x_move rfl) rfl ?_)
  refine op (y (x_nilPtr rfl) rfl ?_)
  refine op (y (x_fieldAddr fo_120_0 rfl) rfl ?_)
  refine op (y (x_load1 ag_118 rfl (Cell.blk hroot rfl)) rfl ?_)
  refine op (y (x_move rfl) rfl ?_)
  refine op (y (x_lookupV Try.underlying118 kI zc_98 rfl rfl hmap hA.outer (mget_omg hnd a)) rfl ?_)
  refine op (y (x_mapNeNil Try.underlying98 rfl rfl) rfl ?_)
  refine nil ?_
  refine n_then ?_
  refine cond rfl (fun h1 => ?_) (fun h1 => ?_)
  · try simp only [decide_eq_true_eq, decide_eq_false_iff_not, beq_iff_eq, bne_iff_ne, ne_eq, beq_eq_false_iff_ne, bne_eq_false_iff_eq, Bool.not_eq_true', Bool.not_eq_false', Bool.not_eq_true, Bool.not_eq_false, Decidable.not_not, Int.not_lt, Int.not_le] at h1
    have hin : a ∈ N := by
      refine hN.mem_iff.2 ?_
      rcases Classical.em (a ∈ G.map (·.1)) with h | h
      · exact h
      · have := lkg_none.2 h; rw [this] at h1; simp at h1
    refine seq ?_
    refine region ?_
    refine op (y (x_assign rfl) rfl ?_)
    refine nil ?_
    refine n_then ?_
    refine ret ?_
    refine r_then ?_
    exact done rfl (.tmp rfl (.nil)) (Ro.le.refl _) (R :: L) (⟨_, .refl _, .refl _⟩) (⟨by simp [tupled, hin], R, by rw [addN, if_pos hin]; exact hRP, rfl, rfl⟩)
  · try simp only [decide_eq_true_eq, decide_eq_false_iff_not, beq_iff_eq, bne_iff_ne, ne_eq, beq_eq_false_iff_ne, bne_eq_false_iff_eq, Bool.not_eq_true', Bool.not_eq_false', Bool.not_eq_true, Bool.not_eq_false, Decidable.not_not, Int.not_lt, Int.not_le] at h1
    have hnone : a ∉ G.map (·.1) := lkg_none.1 (by cases hl : lkg G a with
      | none => rfl
      | some p => rw [hl] at h1; simp at h1)
    have hnin : a ∉ N := fun h => hnone (hN.mem_iff.1 h)
    refine skip ?_
    refine n_then ?_
    refine seq ?_
    refine region ?_
    refine op (y (x_move rfl) rfl ?_)
    refine op (y (x_nilPtr rfl) rfl ?_)
    refine op (y (x_fieldAddr fo_120_0 rfl) rfl ?_)
    refine op (y (x_load1 ag_118 rfl (Cell.blk hroot rfl)) rfl ?_)
    refine op (y (x_move rfl) rfl ?_)
    refine op (e_makeMap rfl fun b17 => ?_)
    rw [hRB]
    refine swap0 ?_
    refine split2 ?_
    refine op (e_mapSet 0 Try.underlying118 kI rfl rfl rfl rfl hA.outer (fun _ _ => rfl) fun es2 clk2 hE2 => ?_)
    rw [mset_omg hnone []] at hE2
    refine nil ?_
    refine n_then ?_
    refine seq ?_
    refine region ?_
    refine op (y (x_assign rfl) rfl ?_)
    refine nil ?_
    refine n_then ?_
    refine ret ?_
    exact done rfl (.tmp rfl (.nil)) (Ro.le.refl _) (_ :: L) (⟨_, newI, .refl _⟩) (⟨by simp [tupled, hnin], _, ⟨G ++ [(a, b17, [])], mo, es2, clk2, I ++ [(b17, .map #[] 0)], rfl, ⟨hE2, hA.inner.snoc MapE.empty, fun g hg => by
        rcases List.mem_append.1 hg with hg | hg
        · exact hA.okk g hg
        · rw [List.mem_singleton.1 hg]; exact ⟨ha, by simp⟩⟩, by rw [addN, if_neg hnin, nds_new]; exact (hN.cons a).trans (List.perm_append_singleton a _).symm, by rw [edg_new]; exact hE, fun g hg => by
        rcases List.mem_append.1 hg with hg | hg
        · exact hGl g hg
        · rw [List.mem_singleton.1 hg]; simp, fun g hg => by
        rcases List.mem_append.1 hg with hg | hg
        · exact hNe g hg
        · rw [List.mem_singleton.1 hg]; simp⟩, rfl, rfl⟩)

end Go.Proofs.Ytlmeblhcipkgmaa
