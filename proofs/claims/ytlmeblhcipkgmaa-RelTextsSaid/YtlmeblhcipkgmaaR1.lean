/- The walks of the references of relations: what their functions compute. -/
import Derived.Test.YtlmeblhcipkgmaaTy
import Derived.Test.YtlmeblhcipkgmaaU7
namespace Go.Proofs.Ytlmeblhcipkgmaa
open Go Go.U
set_option maxRecDepth 20000
set_option linter.unusedSimpArgs false
set_option linter.unusedVariables false

def encPair (p : Int × Int) : List Value := [.int .i64 p.1, .int .i64 p.2]
theorem upto {p : Nat → Prop} {k : Nat} (hall : ∀ j : Nat, j < k → p j) (h : p k) : ∀ j : Nat, j < k + 1 → p j := fun j hj => by
  rcases Nat.lt_or_ge j k with h1 | h1
  · exact hall j h1
  · obtain rfl : j = k := by omega
    exact h
theorem not_mem_of {α : Type} {l : List α} {a : α} (hall : ∀ j : Nat, j < l.length → l[j]? ≠ some a) : a ∉ l := fun hm => by
  obtain ⟨i, hi, e⟩ := List.getElem_of_mem hm
  exact hall i hi (by rw [List.getElem?_eq_getElem hi, e])
/-- does a pair stand ahead of another one? -/
def ltP (x p : Int × Int) : Bool := decide (x.1 < p.1) || (x.1 == p.1 && decide (x.2 < p.2))
def putP (l : List (Int × Int)) (p : Int × Int) : List (Int × Int) := if p ∈ l then l else l.takeWhile (fun x => ltP x p) ++ p :: l.dropWhile (fun x => ltP x p)
theorem takeWhile_at {α : Type} (f : α → Bool) : ∀ (l : List α) (k : Nat), k ≤ l.length → (∀ j : Nat, j < k → ∀ x, l[j]? = some x → f x = true) → (∀ x, l[k]? = some x → f x = false) → l.takeWhile f = l.take k ∧ l.dropWhile f = l.drop k
  | [], k, hk, h1, h2 => by simp
  | a :: l, 0, hk, h1, h2 => by have := h2 a (by simp); simp [List.takeWhile_cons, List.dropWhile_cons, this]
  | a :: l, k + 1, hk, h1, h2 => by
    have ha := h1 0 (by omega) a (by simp)
    obtain ⟨e1, e2⟩ := takeWhile_at f l k (by simpa using hk) (fun j hj x hx => h1 (j + 1) (by omega) x (by simpa using hx)) (fun x hx => h2 x (by simpa using hx))
    simp [List.takeWhile_cons, List.dropWhile_cons, ha, e1, e2]
theorem take_snoc' {α : Type} {l : List α} {k : Nat} {x : α} (h : l[k]? = some x) : l.take (k + 1) = l.take k ++ [x] := by
  rw [List.take_add_one, h]; rfl

theorem Has_c (l : List (Int × Int)) (A : Option Addr) (cap : Nat) (a b : Int) (ro : Ro) (L : List (List Blk)) (hl : Sl ro 2 encPair A cap l) :
    CT Try.prog 36 [.slice A l.length cap, .int .i64 a, .int .i64 b].toArray ro L (PQ (.bool (decide ((a, b) ∈ l))) ro L) := by
  have hcap : l.length ≤ 9223372036854775807 := by have := hl.1; have := hl.2.1; unfold maxLen at this; omega
  refine enter Try.func36 rfl Try.ntmps36 rfl ?_
  refine seq ?_
  refine region ?_
  refine op (y (x_assign rfl) rfl ?_)
  refine nil ?_
  refine n_then ?_
  refine seq ?_
  refine seq ?_
  refine region ?_
  refine op (y (x_assign rfl) rfl ?_)
  refine nil ?_
  refine n_then ?_
  refine block ?_
  refine loop (fun m F ro' L' => ∃ (k : Nat), (m = l.length - k) ∧ (F = [(0, .slice A l.length cap), (1, .int .i64 a), (2, .int .i64 b), (7, .int .i64 (k : Nat))]) ∧ (ro = ro') ∧ (L = L') ∧ (k ≤ l.length) ∧ (∀ j : Nat, j < k → l[j]? ≠ some (a, b))) (l.length - 0) [(0, .slice A l.length cap), (1, .int .i64 a), (2, .int .i64 b), (7, .int .i64 (0 : Nat))] ⟨rfl, rfl, rfl, rfl, trivial⟩ ⟨0, rfl, rfl, rfl, rfl, by omega, by omega⟩ ?_
  rintro m F ro' L' ⟨k, rfl, rfl, rfl, rfl, hk, hall⟩
  refine seq ?_
  refine seq ?_
  refine region ?_
  refine op (y (x_move rfl) rfl ?_)
  refine op (y (x_move rfl) rfl ?_)
  refine op (y (x_lenSl sz_26 rfl) rfl ?_)
  refine op (y (x_lss rfl rfl) rfl ?_)
  refine nil ?_
  refine n_then ?_
  refine cond rfl (fun h2 => ?_) (fun h2 => ?_)
  · try simp only [decide_eq_true_eq, decide_eq_false_iff_not, beq_iff_eq, bne_iff_ne, ne_eq, beq_eq_false_iff_ne, bne_eq_false_iff_eq, Bool.not_eq_true', Bool.not_eq_false', Bool.not_eq_true, Bool.not_eq_false, Decidable.not_not, Int.not_lt, Int.not_le] at h2
    refine skip ?_
    refine n_then ?_
    refine seq ?_
    refine block ?_
    refine seq ?_
    obtain ⟨bbx, offx, rfl, hcx⟩ := hl.at_ (i := k) (by omega)
    have hx := List.getElem?_eq_getElem (show k < l.length from by omega)
    have cx0 := hcx k _ hx 0 _ rfl
    have cx1 := hcx k _ hx 1 _ rfl
    refine region ?_
    refine op (y (x_move rfl) rfl ?_)
    refine op (y (x_move rfl) rfl ?_)
    refine op (y (x_indexNat sz_26 rfl rfl (by omega)) rfl ?_)
    refine op (y (x_fieldAddr fo_46_0 rfl) rfl ?_)
    refine op (y (x_load1 ag_3 rfl (by first | assumption | exact Cell.own 0 rfl rfl | exact Cell.own 1 rfl rfl | exact Cell.own 2 rfl rfl | exact Cell.own 3 rfl rfl | exact Cell.own 4 rfl rfl | exact Cell.own 5 rfl rfl | exact Cell.ofRo (by assumption))) rfl ?_)
    refine op (y (x_move rfl) rfl ?_)
    refine op (y (x_eql rfl rfl) rfl ?_)
    refine op (y (x_move rfl) rfl ?_)
    refine bsplit 21 rfl (fun g21 => ?_) (fun g21 => ?_)
    · try simp only [decide_eq_true_eq, decide_eq_false_iff_not, beq_iff_eq, bne_iff_ne, ne_eq, beq_eq_false_iff_ne, bne_eq_false_iff_eq, Bool.not_eq_true', Bool.not_eq_false', Bool.not_eq_true, Bool.not_eq_false, Decidable.not_not, Int.not_lt, Int.not_le] at g21
      refine opG rfl rfl (y (x_move rfl) rfl ?_)
      refine opG rfl rfl (y (x_move rfl) rfl ?_)
      refine opG rfl rfl (y (x_indexNat sz_26 rfl rfl (by omega)) rfl ?_)
      refine opG rfl rfl (y (x_fieldAddr fo_46_1 rfl) rfl ?_)
      refine opG rfl rfl (y (x_load1 ag_3 rfl (by first | assumption | exact Cell.own 0 rfl rfl | exact Cell.own 1 rfl rfl | exact Cell.own 2 rfl rfl | exact Cell.own 3 rfl rfl | exact Cell.own 4 rfl rfl | exact Cell.own 5 rfl rfl | exact Cell.ofRo (by assumption))) rfl ?_)
      refine opG rfl rfl (y (x_move rfl) rfl ?_)
      refine opG rfl rfl (y (x_eql rfl rfl) rfl ?_)
      refine op (y (x_pickT rfl rfl) rfl ?_)
      refine nil ?_
      refine n_then ?_
      refine cond rfl (fun h4 => ?_) (fun h4 => ?_)
      · try simp only [decide_eq_true_eq, decide_eq_false_iff_not, beq_iff_eq, bne_iff_ne, ne_eq, beq_eq_false_iff_ne, bne_eq_false_iff_eq, Bool.not_eq_true', Bool.not_eq_false', Bool.not_eq_true, Bool.not_eq_false, Decidable.not_not, Int.not_lt, Int.not_le] at h4
        refine seq ?_
        refine region ?_
        refine op (y (x_assign rfl) rfl ?_)
        refine nil ?_
        refine n_then ?_
        refine ret ?_
        refine r_in ?_
        refine r_then ?_
        refine r_then ?_
        refine r_in ?_
        refine r_then ?_
        exact done rfl (.tmp rfl (.nil)) (Ro.le.refl _) (L) (⟨_, .refl _, .refl _⟩) (⟨by rw [decide_eq_true]; rfl; exact List.mem_of_getElem? (i := k) (by rw [hx, ← g21, ← h4]), rfl, rfl⟩)
      · try simp only [decide_eq_true_eq, decide_eq_false_iff_not, beq_iff_eq, bne_iff_ne, ne_eq, beq_eq_false_iff_ne, bne_eq_false_iff_eq, Bool.not_eq_true', Bool.not_eq_false', Bool.not_eq_true, Bool.not_eq_false, Decidable.not_not, Int.not_lt, Int.not_le] at h4
        refine skip ?_
        refine n_in ?_
        refine n_then ?_
        refine region ?_
        refine op (y (x_move rfl) rfl ?_)
        refine op (y (x_add rfl rfl _ (wr (by omega) (by omega))) rfl ?_)
        refine op (y (x_assign rfl) rfl ?_)
        refine nil ?_
        exact round (l.length - (k + 1)) [(0, .slice _ l.length cap), (1, .int .i64 a), (2, .int .i64 b), (7, .int .i64 ((k + 1) : Nat))] (by omega) ⟨rfl, rfl, rfl, rfl, trivial⟩ ⟨k + 1, rfl, rfl, rfl, rfl, by omega, upto (p := fun j => l[j]? ≠ some (a, b)) hall (by first | (intro e; exact h4 (by rw [hx] at e; simp only [Option.some.injEq] at e; rw [e])) | (intro e; exact g21 (by rw [hx] at e; simp only [Option.some.injEq] at e; rw [e])))⟩
    · try simp only [decide_eq_true_eq, decide_eq_false_iff_not, beq_iff_eq, bne_iff_ne, ne_eq, beq_eq_false_iff_ne, bne_eq_false_iff_eq, Bool.not_eq_true', Bool.not_eq_false', Bool.not_eq_true, Bool.not_eq_false, Decidable.not_not, Int.not_lt, Int.not_le] at g21
      refine opN rfl rfl rfl rfl ?_
      refine opN rfl rfl rfl rfl ?_
      refine opN rfl rfl rfl rfl ?_
      refine opN rfl rfl rfl rfl ?_
      refine opN rfl rfl rfl rfl ?_
      refine opN rfl rfl rfl rfl ?_
      refine opN rfl rfl rfl rfl ?_
      refine op (y (x_pickF rfl rfl) rfl ?_)
      refine nil ?_
      refine n_then ?_
      refine condF rfl ?_
      refine skip ?_
      refine n_in ?_
      refine n_then ?_
      refine region ?_
      refine op (y (x_move rfl) rfl ?_)
      refine op (y (x_add rfl rfl _ (wr (by omega) (by omega))) rfl ?_)
      refine op (y (x_assign rfl) rfl ?_)
      refine nil ?_
      exact round (l.length - (k + 1)) [(0, .slice _ l.length cap), (1, .int .i64 a), (2, .int .i64 b), (7, .int .i64 ((k + 1) : Nat))] (by omega) ⟨rfl, rfl, rfl, rfl, trivial⟩ ⟨k + 1, rfl, rfl, rfl, rfl, by omega, upto (p := fun j => l[j]? ≠ some (a, b)) hall (by first | (intro e; exact h4 (by rw [hx] at e; simp only [Option.some.injEq] at e; rw [e])) | (intro e; exact g21 (by rw [hx] at e; simp only [Option.some.injEq] at e; rw [e])))⟩
  · try simp only [decide_eq_true_eq, decide_eq_false_iff_not, beq_iff_eq, bne_iff_ne, ne_eq, beq_eq_false_iff_ne, bne_eq_false_iff_eq, Bool.not_eq_true', Bool.not_eq_false', Bool.not_eq_true, Bool.not_eq_false, Decidable.not_not, Int.not_lt, Int.not_le] at h2
    refine exit ?_
    refine e_then ?_
    refine e_then ?_
    refine e_in ?_
    refine n_then ?_
    refine seq ?_
    refine region ?_
    refine op (y (x_assign rfl) rfl ?_)
    refine nil ?_
    refine n_then ?_
    refine ret ?_
    exact done rfl (.tmp rfl (.nil)) (Ro.le.refl _) (L) (⟨_, .refl _, .refl _⟩) (⟨by rw [decide_eq_false]; rfl; exact not_mem_of fun j hj => hall j (by omega), rfl, rfl⟩)

theorem Put_c (l : List (Int × Int)) (A : Option Addr) (cap : Nat) (a b : Int) (ro : Ro) (L : List (List Blk)) (hl : Sl ro 2 encPair A cap l) (hn : l.length ≤ 1000000) :
    CT Try.prog 38 [.slice A l.length cap, .int .i64 a, .int .i64 b].toArray ro L (PS 2 encPair (putP l (a, b)) L) := by
  have hcap : l.length ≤ 9223372036854775807 := by have := hl.1; have := hl.2.1; unfold maxLen at this; omega
  refine enter Try.func38 rfl Try.ntmps38 rfl ?_
  refine seq ?_
  refine region ?_
  refine op (y (x_assign rfl) rfl ?_)
  refine nil ?_
  refine n_then ?_
  refine seq ?_
  refine seq ?_
  refine region ?_
  refine op (y (x_move rfl) rfl ?_)
  refine op (y (x_move rfl) rfl ?_)
  refine op (y (x_move rfl) rfl ?_)
  refine op (e_call rfl fn_36 rfl rfl (Has_c l A cap a b ro L hl) fun v14 ro14 L14 hle14 hp14 => ?_)
  obtain ⟨rfl, rfl, rfl⟩ := hp14
  refine nil ?_
  refine n_then ?_
  refine cond rfl (fun h1 => ?_) (fun h1 => ?_)
  · try simp only [decide_eq_true_eq, decide_eq_false_iff_not, beq_iff_eq, bne_iff_ne, ne_eq, beq_eq_false_iff_ne, bne_eq_false_iff_eq, Bool.not_eq_true', Bool.not_eq_false', Bool.not_eq_true, Bool.not_eq_false, Decidable.not_not, Int.not_lt, Int.not_le] at h1
    refine seq ?_
    refine region ?_
    refine op (y (x_move rfl) rfl ?_)
    refine op (y (x_assign rfl) rfl ?_)
    refine nil ?_
    refine n_then ?_
    refine ret ?_
    refine r_then ?_
    exact done rfl (.tmp rfl (.nil)) (Ro.le.refl _) (L) (⟨_, .refl _, .refl _⟩) (⟨A, cap, by rw [putP, if_pos h1]; rfl, by rw [putP, if_pos h1]; exact hl, rfl⟩)
  · try simp only [decide_eq_true_eq, decide_eq_false_iff_not, beq_iff_eq, bne_iff_ne, ne_eq, beq_eq_false_iff_ne, bne_eq_false_iff_eq, Bool.not_eq_true', Bool.not_eq_false', Bool.not_eq_true, Bool.not_eq_false, Decidable.not_not, Int.not_lt, Int.not_le] at h1
    refine skip ?_
    refine n_then ?_
    refine seq ?_
    refine region ?_
    refine op (y (x_assign rfl) rfl ?_)
    refine nil ?_
    refine n_then ?_
    refine seqM (fun F ro' L' => ∃ (k : Nat), (F = [(0, .slice A l.length cap), (1, .int .i64 a), (2, .int .i64 b), (7, .int .i64 (k : Nat))]) ∧ (ro = ro') ∧ (L = L') ∧ (k ≤ l.length) ∧ (∀ j : Nat, j < k → ∀ x, l[j]? = some x → ltP x (a, b) = true) ∧ (∀ x, l[k]? = some x → ltP x (a, b) = false)) ?_ ?_
    · skip
      refine block ?_
      refine loop (fun m F ro' L' => ∃ (k : Nat), (m = l.length - k) ∧ (F = [(0, .slice A l.length cap), (1, .int .i64 a), (2, .int .i64 b), (7, .int .i64 (k : Nat))]) ∧ (ro = ro') ∧ (L = L') ∧ (k ≤ l.length) ∧ (∀ j : Nat, j < k → ∀ x, l[j]? = some x → ltP x (a, b) = true)) (l.length - 0) [(0, .slice A l.length cap), (1, .int .i64 a), (2, .int .i64 b), (7, .int .i64 (0 : Nat))] ⟨rfl, rfl, rfl, rfl, trivial⟩ ⟨0, rfl, rfl, rfl, rfl, by omega, by omega⟩ ?_
      rintro m F ro' L' ⟨k, rfl, rfl, rfl, rfl, hk, hall⟩
      refine seq ?_
      refine seq ?_
      refine region ?_
      refine op (y (x_move rfl) rfl ?_)
      refine op (y (x_move rfl) rfl ?_)
      refine op (y (x_lenSl sz_26 rfl) rfl ?_)
      refine op (y (x_lss rfl rfl) rfl ?_)
      refine op (y (x_move rfl) rfl ?_)
      refine bsplit 20 rfl (fun g20 => ?_) (fun g20 => ?_)
      · try simp only [decide_eq_true_eq, decide_eq_false_iff_not, beq_iff_eq, bne_iff_ne, ne_eq, beq_eq_false_iff_ne, bne_eq_false_iff_eq, Bool.not_eq_true', Bool.not_eq_false', Bool.not_eq_true, Bool.not_eq_false, Decidable.not_not, Int.not_lt, Int.not_le] at g20
        obtain ⟨bbx, offx, rfl, hcx⟩ := hl.at_ (i := k) (by omega)
        have hx := List.getElem?_eq_getElem (show k < l.length from by omega)
        have cx0 := hcx k _ hx 0 _ rfl
        have cx1 := hcx k _ hx 1 _ rfl
        refine opG rfl rfl (y (x_move rfl) rfl ?_)
        refine opG rfl rfl (y (x_move rfl) rfl ?_)
        refine opG rfl rfl (y (x_indexNat sz_26 rfl rfl (by omega)) rfl ?_)
        refine opG rfl rfl (y (x_fieldAddr fo_46_0 rfl) rfl ?_)
        refine opG rfl rfl (y (x_load1 ag_3 rfl (by first | assumption | exact Cell.own 0 rfl rfl | exact Cell.own 1 rfl rfl | exact Cell.own 2 rfl rfl | exact Cell.own 3 rfl rfl | exact Cell.own 4 rfl rfl | exact Cell.own 5 rfl rfl | exact Cell.ofRo (by assumption))) rfl ?_)
        refine opG rfl rfl (y (x_move rfl) rfl ?_)
        refine opG rfl rfl (y (x_lss rfl rfl) rfl ?_)
        refine opG rfl rfl (y (x_move rfl) rfl ?_)
        refine bsplit 28 rfl (fun g28 => ?_) (fun g28 => ?_)
        · try simp only [decide_eq_true_eq, decide_eq_false_iff_not, beq_iff_eq, bne_iff_ne, ne_eq, beq_eq_false_iff_ne, bne_eq_false_iff_eq, Bool.not_eq_true', Bool.not_eq_false', Bool.not_eq_true, Bool.not_eq_false, Decidable.not_not, Int.not_lt, Int.not_le] at g28
          refine opN rfl rfl rfl rfl ?_
          refine opN rfl rfl rfl rfl ?_
          refine opN rfl rfl rfl rfl ?_
          refine opN rfl rfl rfl rfl ?_
          refine opN rfl rfl rfl rfl ?_
          refine opN rfl rfl rfl rfl ?_
          refine opN rfl rfl rfl rfl ?_
          refine opN rfl rfl rfl rfl ?_
          refine opU rfl rfl rfl ?_
          refine opU rfl rfl rfl ?_
          refine opU rfl rfl rfl ?_
          refine opU rfl rfl rfl ?_
          refine opU rfl rfl rfl ?_
          refine opU rfl rfl rfl ?_
          refine opU rfl rfl rfl ?_
          refine opN rfl rfl rfl rfl ?_
          refine opG rfl rfl (y (x_pickT rfl rfl) rfl ?_)
          refine op (y (x_pickT rfl rfl) rfl ?_)
          refine nil ?_
          refine n_then ?_
          refine condT rfl ?_
          refine skip ?_
          refine n_then ?_
          refine block ?_
          refine region ?_
          refine op (y (x_move rfl) rfl ?_)
          refine op (y (x_add rfl rfl _ (wr (by omega) (by omega))) rfl ?_)
          refine op (y (x_assign rfl) rfl ?_)
          refine nil ?_
          refine n_in ?_
          exact round (l.length - (k + 1)) [(0, .slice _ l.length cap), (1, .int .i64 a), (2, .int .i64 b), (7, .int .i64 ((k + 1) : Nat))] (by omega) ⟨rfl, rfl, rfl, rfl, trivial⟩ ⟨k + 1, rfl, rfl, rfl, rfl, by omega, upto (p := fun j => ∀ x, l[j]? = some x → ltP x (a, b) = true) hall (fun x e => by rw [hx] at e; cases e; simp [ltP, *])⟩
        · try simp only [decide_eq_true_eq, decide_eq_false_iff_not, beq_iff_eq, bne_iff_ne, ne_eq, beq_eq_false_iff_ne, bne_eq_false_iff_eq, Bool.not_eq_true', Bool.not_eq_false', Bool.not_eq_true, Bool.not_eq_false, Decidable.not_not, Int.not_lt, Int.not_le] at g28
          refine opG rfl rfl (y (x_move rfl) rfl ?_)
          refine opG rfl rfl (y (x_move rfl) rfl ?_)
          refine opG rfl rfl (y (x_indexNat sz_26 rfl rfl (by omega)) rfl ?_)
          refine opG rfl rfl (y (x_fieldAddr fo_46_0 rfl) rfl ?_)
          refine opG rfl rfl (y (x_load1 ag_3 rfl (by first | assumption | exact Cell.own 0 rfl rfl | exact Cell.own 1 rfl rfl | exact Cell.own 2 rfl rfl | exact Cell.own 3 rfl rfl | exact Cell.own 4 rfl rfl | exact Cell.own 5 rfl rfl | exact Cell.ofRo (by assumption))) rfl ?_)
          refine opG rfl rfl (y (x_move rfl) rfl ?_)
          refine opG rfl rfl (y (x_eql rfl rfl) rfl ?_)
          refine opG rfl rfl (y (x_move rfl) rfl ?_)
          refine bsplit 36 rfl (fun g36 => ?_) (fun g36 => ?_)
          · try simp only [decide_eq_true_eq, decide_eq_false_iff_not, beq_iff_eq, bne_iff_ne, ne_eq, beq_eq_false_iff_ne, bne_eq_false_iff_eq, Bool.not_eq_true', Bool.not_eq_false', Bool.not_eq_true, Bool.not_eq_false, Decidable.not_not, Int.not_lt, Int.not_le] at g36
            refine opG rfl rfl (y (x_move rfl) rfl ?_)
            refine opG rfl rfl (y (x_move rfl) rfl ?_)
            refine opG rfl rfl (y (x_indexNat sz_26 rfl rfl (by omega)) rfl ?_)
            refine opG rfl rfl (y (x_fieldAddr fo_46_1 rfl) rfl ?_)
            refine opG rfl rfl (y (x_load1 ag_3 rfl (by first | assumption | exact Cell.own 0 rfl rfl | exact Cell.own 1 rfl rfl | exact Cell.own 2 rfl rfl | exact Cell.own 3 rfl rfl | exact Cell.own 4 rfl rfl | exact Cell.own 5 rfl rfl | exact Cell.ofRo (by assumption))) rfl ?_)
            refine opG rfl rfl (y (x_move rfl) rfl ?_)
            refine opG rfl rfl (y (x_lss rfl rfl) rfl ?_)
            refine opG rfl rfl (y (x_pickT rfl rfl) rfl ?_)
            refine opG rfl rfl (y (x_pickF rfl rfl) rfl ?_)
            refine op (y (x_pickT rfl rfl) rfl ?_)
            refine nil ?_
            refine n_then ?_
            refine cond rfl (fun h4 => ?_) (fun h4 => ?_)
            · try simp only [decide_eq_true_eq, decide_eq_false_iff_not, beq_iff_eq, bne_iff_ne, ne_eq, beq_eq_false_iff_ne, bne_eq_false_iff_eq, Bool.not_eq_true', Bool.not_eq_false', Bool.not_eq_true, Bool.not_eq_false, Decidable.not_not, Int.not_lt, Int.not_le] at h4
              refine skip ?_
              refine n_then ?_
              refine block ?_
              refine region ?_
              refine op (y (x_move rfl) rfl ?_)
              refine op (y (x_add rfl rfl _ (wr (by omega) (by omega))) rfl ?_)
              refine op (y (x_assign rfl) rfl ?_)
              refine nil ?_
              refine n_in ?_
              exact round (l.length - (k + 1)) [(0, .slice _ l.length cap), (1, .int .i64 a), (2, .int .i64 b), (7, .int .i64 ((k + 1) : Nat))] (by omega) ⟨rfl, rfl, rfl, rfl, trivial⟩ ⟨k + 1, rfl, rfl, rfl, rfl, by omega, upto (p := fun j => ∀ x, l[j]? = some x → ltP x (a, b) = true) hall (fun x e => by rw [hx] at e; cases e; simp [ltP, *])⟩
            · try simp only [decide_eq_true_eq, decide_eq_false_iff_not, beq_iff_eq, bne_iff_ne, ne_eq, beq_eq_false_iff_ne, bne_eq_false_iff_eq, Bool.not_eq_true', Bool.not_eq_false', Bool.not_eq_true, Bool.not_eq_false, Decidable.not_not, Int.not_lt, Int.not_le] at h4
              refine exit ?_
              refine e_then ?_
              refine e_then ?_
              refine e_in ?_
              exact mid [(0, .slice _ l.length cap), (1, .int .i64 a), (2, .int .i64 b), (7, .int .i64 (k : Nat))] ⟨rfl, rfl, rfl, rfl, trivial⟩ ⟨k, rfl, rfl, rfl, hk, hall, fun x e => by first | (rw [List.getElem?_eq_none (by omega)] at e; cases e) | (rw [hx] at e; cases e; simp [ltP, *]; try omega)⟩
          · try simp only [decide_eq_true_eq, decide_eq_false_iff_not, beq_iff_eq, bne_iff_ne, ne_eq, beq_eq_false_iff_ne, bne_eq_false_iff_eq, Bool.not_eq_true', Bool.not_eq_false', Bool.not_eq_true, Bool.not_eq_false, Decidable.not_not, Int.not_lt, Int.not_le] at g36
            refine opN rfl rfl rfl rfl ?_
            refine opN rfl rfl rfl rfl ?_
            refine opN rfl rfl rfl rfl ?_
            refine opN rfl rfl rfl rfl ?_
            refine opN rfl rfl rfl rfl ?_
            refine opN rfl rfl rfl rfl ?_
            refine opN rfl rfl rfl rfl ?_
            refine opG rfl rfl (y (x_pickF rfl rfl) rfl ?_)
            refine opG rfl rfl (y (x_pickF rfl rfl) rfl ?_)
            refine op (y (x_pickT rfl rfl) rfl ?_)
            refine nil ?_
            refine n_then ?_
            refine condF rfl ?_
            refine exit ?_
            refine e_then ?_
            refine e_then ?_
            refine e_in ?_
            exact mid [(0, .slice _ l.length cap), (1, .int .i64 a), (2, .int .i64 b), (7, .int .i64 (k : Nat))] ⟨rfl, rfl, rfl, rfl, trivial⟩ ⟨k, rfl, rfl, rfl, hk, hall, fun x e => by first | (rw [List.getElem?_eq_none (by omega)] at e; cases e) | (rw [hx] at e; cases e; simp [ltP, *]; try omega)⟩
      · try simp only [decide_eq_true_eq, decide_eq_false_iff_not, beq_iff_eq, bne_iff_ne, ne_eq, beq_eq_false_iff_ne, bne_eq_false_iff_eq, Bool.not_eq_true', Bool.not_eq_false', Bool.not_eq_true, Bool.not_eq_false, Decidable.not_not, Int.not_lt, Int.not_le] at g20
        refine opN rfl rfl rfl rfl ?_
        refine opN rfl rfl rfl rfl ?_
        refine opN rfl rfl rfl rfl ?_
        refine opN rfl rfl rfl rfl ?_
        refine opN rfl rfl rfl rfl ?_
        refine opN rfl rfl rfl rfl ?_
        refine opN rfl rfl rfl rfl ?_
        refine opN rfl rfl rfl rfl ?_
        refine opU rfl rfl rfl ?_
        refine opU rfl rfl rfl ?_
        refine opU rfl rfl rfl ?_
        refine opU rfl rfl rfl ?_
        refine opU rfl rfl rfl ?_
        refine opU rfl rfl rfl ?_
        refine opU rfl rfl rfl ?_
        refine opU rfl rfl rfl ?_
        refine opU rfl rfl rfl ?_
        refine opU rfl rfl rfl ?_
        refine opU rfl rfl rfl ?_
        refine opU rfl rfl rfl ?_
        refine opU rfl rfl rfl ?_
        refine opU rfl rfl rfl ?_
        refine opU rfl rfl rfl ?_
        refine opU rfl rfl rfl ?_
        refine opN rfl rfl rfl rfl ?_
        refine op (y (x_pickF rfl rfl) rfl ?_)
        refine nil ?_
        refine n_then ?_
        refine condF rfl ?_
        refine exit ?_
        refine e_then ?_
        refine e_then ?_
        refine e_in ?_
        exact mid [(0, .slice _ l.length cap), (1, .int .i64 a), (2, .int .i64 b), (7, .int .i64 (k : Nat))] ⟨rfl, rfl, rfl, rfl, trivial⟩ ⟨k, rfl, rfl, rfl, hk, hall, fun x e => by first | (rw [List.getElem?_eq_none (by omega)] at e; cases e) | (rw [hx] at e; cases e; simp [ltP, *]; try omega)⟩
    · rintro F ro' L' ⟨k, rfl, rfl, rfl, hk, hall, hnot⟩
      refine seq ?_
      refine region ?_
      refine op (y (x_assign rfl) rfl ?_)
      refine nil ?_
      refine n_then ?_
      refine seq ?_
      refine seq ?_
      refine region ?_
      refine op (y (x_assign rfl) rfl ?_)
      refine nil ?_
      refine n_then ?_
      refine block ?_
      refine emp ?_
      refine loop (fun m F ro' L' => ∃ (i : Nat) (A2 : Option Addr) (cap2 : Nat) (R : List Blk), (m = k - i) ∧ (F = [(0, .slice A l.length cap), (1, .int .i64 a), (2, .int .i64 b), (7, .int .i64 (k : Nat)), (8, .slice A2 i cap2), (9, .int .i64 (i : Nat))]) ∧ (ro = ro') ∧ (L' = R :: L) ∧ (i ≤ k) ∧ (OwnS 46 2 A2 i cap2 ((l.take i).flatMap encPair) R)) (k - 0) [(0, .slice A l.length cap), (1, .int .i64 a), (2, .int .i64 b), (7, .int .i64 (k : Nat)), (8, .slice none 0 0), (9, .int .i64 (0 : Nat))] ⟨rfl, rfl, rfl, rfl, rfl, rfl, trivial⟩ ⟨0, none, 0, [], rfl, rfl, rfl, rfl, by omega, OwnS.none_ 46 2⟩ ?_
      rintro m F ro' L' ⟨i, A2, cap2, R, rfl, rfl, rfl, rfl, hi, hO⟩
      refine seq ?_
      refine seq ?_
      refine region ?_
      refine op (y (x_move rfl) rfl ?_)
      refine op (y (x_move rfl) rfl ?_)
      refine op (y (x_lss rfl rfl) rfl ?_)
      refine nil ?_
      refine n_then ?_
      refine cond rfl (fun h8 => ?_) (fun h8 => ?_)
      · try simp only [decide_eq_true_eq, decide_eq_false_iff_not, beq_iff_eq, bne_iff_ne, ne_eq, beq_eq_false_iff_ne, bne_eq_false_iff_eq, Bool.not_eq_true', Bool.not_eq_false', Bool.not_eq_true, Bool.not_eq_false, Decidable.not_not, Int.not_lt, Int.not_le] at h8
        refine skip ?_
        refine n_then ?_
        refine seq ?_
        refine block ?_
        obtain ⟨bbx, offx, rfl, hcx⟩ := hl.at_ (i := i) (by omega)
        have hx := List.getElem?_eq_getElem (show i < l.length from by omega)
        refine region ?_
        refine op (y (x_move rfl) rfl ?_)
        refine op (y (x_move rfl) rfl ?_)
        refine op (y (x_move rfl) rfl ?_)
        refine op (y (x_indexNat sz_26 rfl rfl (by omega)) rfl ?_)
        refine op (y (x_loadN ag_46 rfl rfl (CellsAt.ofRo (hcx i _ hx))) rfl ?_)
        refine op (e_slice1 rfl Try.underlying26 ti_46 rfl rfl (by decide) (by decide) rfl rfl rfl fun b59 => ?_)
        refine op (e_append1 0 rfl st_26 rfl rfl rfl hO rfl rfl (by omega) (by omega) (fun _ => rfl) fun A60 cap60 R60 hO60 => ?_)
        refine op (y (x_assign rfl) rfl ?_)
        refine nil ?_
        refine n_in ?_
        refine n_then ?_
        refine region ?_
        refine op (y (x_move rfl) rfl ?_)
        refine op (y (x_add rfl rfl _ (wr (by omega) (by omega))) rfl ?_)
        refine op (y (x_assign rfl) rfl ?_)
        refine nil ?_
        exact round (k - (i + 1)) [(0, .slice _ l.length cap), (1, .int .i64 a), (2, .int .i64 b), (7, .int .i64 (k : Nat)), (8, .slice _ (i + 1) _), (9, .int .i64 ((i + 1) : Nat))] (by omega) ⟨rfl, rfl, rfl, rfl, rfl, rfl, trivial⟩ ⟨i + 1, _, _, _, rfl, rfl, rfl, rfl, by omega, by rw [take_snoc' hx]; exact hO60.snoc⟩
      · try simp only [decide_eq_true_eq, decide_eq_false_iff_not, beq_iff_eq, bne_iff_ne, ne_eq, beq_eq_false_iff_ne, bne_eq_false_iff_eq, Bool.not_eq_true', Bool.not_eq_false', Bool.not_eq_true, Bool.not_eq_false, Decidable.not_not, Int.not_lt, Int.not_le] at h8
        obtain rfl : k = i := by omega
        refine exit ?_
        refine e_then ?_
        refine e_then ?_
        refine e_in ?_
        refine n_then ?_
        refine seq ?_
        refine region ?_
        refine op (y (x_move rfl) rfl ?_)
        refine op (y (x_move rfl) rfl ?_)
        refine op (y (x_move rfl) rfl ?_)
        refine op (y (x_build bu_46 rfl rfl) rfl ?_)
        refine op (e_slice1 rfl Try.underlying26 ti_46 rfl rfl (by decide) (by decide) rfl rfl rfl fun b65 => ?_)
        refine op (e_append1 0 rfl st_26 rfl rfl rfl hO rfl rfl (by omega) (by omega) (fun _ => rfl) fun A66 cap66 R66 hO66 => ?_)
        refine op (y (x_assign rfl) rfl ?_)
        refine nil ?_
        refine n_then ?_
        refine seq ?_
        refine seq ?_
        refine region ?_
        refine op (y (x_move rfl) rfl ?_)
        refine op (y (x_assign rfl) rfl ?_)
        refine nil ?_
        refine n_then ?_
        refine block ?_
        refine loop (fun m F ro' L' => ∃ (i : Nat) (A2 : Option Addr) (cap2 : Nat) (R : List Blk), (m = l.length - i) ∧ (F = [(0, .slice A l.length cap), (1, .int .i64 a), (2, .int .i64 b), (8, .slice A2 (i + 1) cap2), (10, .int .i64 (i : Nat))]) ∧ (ro = ro') ∧ (L' = R :: L) ∧ (k ≤ i) ∧ (i ≤ l.length) ∧ (OwnS 46 2 A2 (i + 1) cap2 ((l.take k ++ (a, b) :: (l.drop k).take (i - k)).flatMap encPair) R)) (l.length - k) [(0, .slice A l.length cap), (1, .int .i64 a), (2, .int .i64 b), (8, .slice _ (k + 1) _), (10, .int .i64 (k : Nat))] ⟨rfl, rfl, rfl, rfl, rfl, trivial⟩ ⟨k, _, _, _, rfl, rfl, rfl, rfl, by omega, by omega, by simpa using hO66.snoc (l := l.take k) (x := (a, b)) (enc := encPair)⟩ ?_
        rintro m F ro' L' ⟨i, A2, cap2, R, rfl, rfl, rfl, rfl, hki, hi, hO⟩
        refine seq ?_
        refine seq ?_
        refine region ?_
        refine op (y (x_move rfl) rfl ?_)
        refine op (y (x_move rfl) rfl ?_)
        refine op (y (x_lenSl sz_26 rfl) rfl ?_)
        refine op (y (x_lss rfl rfl) rfl ?_)
        refine nil ?_
        refine n_then ?_
        refine cond rfl (fun h13 => ?_) (fun h13 => ?_)
        · try simp only [decide_eq_true_eq, decide_eq_false_iff_not, beq_iff_eq, bne_iff_ne, ne_eq, beq_eq_false_iff_ne, bne_eq_false_iff_eq, Bool.not_eq_true', Bool.not_eq_false', Bool.not_eq_true, Bool.not_eq_false, Decidable.not_not, Int.not_lt, Int.not_le] at h13
          refine skip ?_
          refine n_then ?_
          refine seq ?_
          refine block ?_
          obtain ⟨bbx, offx, rfl, hcx⟩ := hl.at_ (i := i) (by omega)
          have hx := List.getElem?_eq_getElem (show i < l.length from by omega)
          refine region ?_
          refine op (y (x_move rfl) rfl ?_)
          refine op (y (x_move rfl) rfl ?_)
          refine op (y (x_move rfl) rfl ?_)
          refine op (y (x_indexNat sz_26 rfl rfl (by omega)) rfl ?_)
          refine op (y (x_loadN ag_46 rfl rfl (CellsAt.ofRo (hcx i _ hx))) rfl ?_)
          refine op (e_slice1 rfl Try.underlying26 ti_46 rfl rfl (by decide) (by decide) rfl rfl rfl fun b79 => ?_)
          refine op (e_append1 0 rfl st_26 rfl rfl rfl hO rfl rfl (by omega) (by omega) (fun _ => rfl) fun A80 cap80 R80 hO80 => ?_)
          refine op (y (x_assign rfl) rfl ?_)
          refine nil ?_
          refine n_in ?_
          refine n_then ?_
          refine region ?_
          refine op (y (x_move rfl) rfl ?_)
          refine op (y (x_add rfl rfl _ (wr (by omega) (by omega))) rfl ?_)
          refine op (y (x_assign rfl) rfl ?_)
          refine nil ?_
          exact round (l.length - (i + 1)) [(0, .slice _ l.length cap), (1, .int .i64 a), (2, .int .i64 b), (8, .slice _ ((i + 1) + 1) _), (10, .int .i64 ((i + 1) : Nat))] (by omega) ⟨rfl, rfl, rfl, rfl, rfl, trivial⟩ ⟨i + 1, _, _, _, rfl, rfl, rfl, rfl, by omega, by omega, by
              have e : i + 1 - k = (i - k) + 1 := by omega
              rw [e, take_snoc' (l := l.drop k) (k := i - k) (x := l[i]) (by rw [List.getElem?_drop]; rw [← hx]; congr 1; omega)]
              have := hO80.snoc
              simpa using this⟩
        · try simp only [decide_eq_true_eq, decide_eq_false_iff_not, beq_iff_eq, bne_iff_ne, ne_eq, beq_eq_false_iff_ne, bne_eq_false_iff_eq, Bool.not_eq_true', Bool.not_eq_false', Bool.not_eq_true, Bool.not_eq_false, Decidable.not_not, Int.not_lt, Int.not_le] at h13
          refine exit ?_
          refine e_then ?_
          refine e_then ?_
          refine e_in ?_
          refine n_then ?_
          refine seq ?_
          refine region ?_
          refine op (y (x_move rfl) rfl ?_)
          refine op (y (x_assign rfl) rfl ?_)
          refine nil ?_
          refine n_then ?_
          refine ret ?_
          obtain rfl : i = l.length := by omega
          obtain ⟨e1, e2⟩ := takeWhile_at (fun x => ltP x (a, b)) l k hk hall hnot
          have e3 : (l.drop k).take (l.length - k) = l.drop k := List.take_of_length_le (by simp)
          have e4 : putP l (a, b) = l.take k ++ (a, b) :: l.drop k := by rw [putP, if_neg h1, e1, e2]
          rw [e3, ← e4] at hO
          have hlen : (putP l (a, b)).length = l.length + 1 := by rw [e4]; simp; omega
          refine ufreeze fun ro2 hle2 hR => ?_
          exact done rfl (.tmp rfl (.nil)) (hle2) (L) (⟨_, .refl _, .refl _⟩) (⟨_, _, by rw [hlen]; rfl, OwnS.sl (hO.cast hlen.symm rfl) (fun _ _ => rfl) hR, rfl⟩)

end Go.Proofs.Ytlmeblhcipkgmaa
