/- The walks of the references of relations, the second part: lists of numbers. -/
import Derived.Test.YtlmeblhcipkgmaaR1
import Derived.Test.YtlmeblhcipkgmaaU15
namespace Go.Proofs.Ytlmeblhcipkgmaa
open Go Go.U
set_option maxRecDepth 20000
set_option linter.unusedSimpArgs false
set_option linter.unusedVariables false

def putI (l : List Int) (n : Int) : List Int := if (l.dropWhile (fun x => decide (x < n))).head? = some n then l else l.takeWhile (fun x => decide (x < n)) ++ n :: l.dropWhile (fun x => decide (x < n))
theorem mem_td {α : Type} (p : α → Bool) (l : List α) (x : α) : x ∈ l.takeWhile p ∨ x ∈ l.dropWhile p ↔ x ∈ l := by
  rw [← List.mem_append, List.takeWhile_append_dropWhile]
theorem td_len {α : Type} (p : α → Bool) (l : List α) : (l.takeWhile p).length + (l.dropWhile p).length = l.length := by
  rw [← List.length_append, List.takeWhile_append_dropWhile]
theorem mem_putI {l : List Int} {n x : Int} : x ∈ putI l n ↔ x = n ∨ x ∈ l := by
  unfold putI
  split
  · rename_i h
    have : n ∈ l := (mem_td (fun x => decide (x < n)) l n).1 (.inr (List.mem_of_head? h))
    constructor
    · exact .inr
    · rintro (rfl | h)
      · exact this
      · exact h
  · simp only [List.mem_append, List.mem_cons]
    rw [← mem_td (fun x => decide (x < n)) l x]
    grind
theorem mem_tw {p : Int → Bool} : ∀ {l : List Int} {x : Int}, x ∈ l.takeWhile p → p x = true
  | a :: l, x, h => by
    rw [List.takeWhile_cons] at h
    split at h
    · rename_i hp
      rcases List.mem_cons.1 h with rfl | h
      · exact hp
      · exact mem_tw h
    · simp at h
theorem dw_ge {n : Int} : ∀ {l : List Int}, l.Pairwise (· < ·) → ∀ x ∈ l.dropWhile (fun x => decide (x < n)), n ≤ x
  | [], _, x, h => by simp at h
  | a :: l, hs, x, h => by
    rw [List.dropWhile_cons] at h
    rw [List.pairwise_cons] at hs
    split at h
    · exact dw_ge hs.2 x h
    · rename_i hp
      simp at hp
      rcases List.mem_cons.1 h with rfl | h
      · exact hp
      · have := hs.1 x h; omega
theorem putI_of_mem {l : List Int} {n : Int} (hs : l.Pairwise (· < ·)) (h : n ∈ l) : putI l n = l := by
  unfold putI
  split
  · rfl
  · rename_i hne
    exfalso
    apply hne
    have hd : n ∈ l.dropWhile (fun x => decide (x < n)) := by
      rcases (mem_td (fun x => decide (x < n)) l n).2 h with h1 | h1
      · have := mem_tw h1; simp at this
      · exact h1
    have hge := dw_ge (n := n) hs
    have hs2 : (l.dropWhile (fun x => decide (x < n))).Pairwise (· < ·) := hs.sublist (List.dropWhile_sublist _)
    generalize l.dropWhile (fun x => decide (x < n)) = d at *
    cases d with
    | nil => simp at hd
    | cons a d =>
      rw [List.pairwise_cons] at hs2
      rcases List.mem_cons.1 hd with rfl | hd
      · rfl
      · have h1 := hs2.1 n hd
        have h2 := hge a (by simp)
        omega
theorem putI_len {l : List Int} {n : Int} (h : n ∉ l) : (putI l n).length = l.length + 1 := by
  unfold putI
  split
  · rename_i he
    exact absurd ((mem_td (fun x => decide (x < n)) l n).1 (.inr (List.mem_of_head? he))) h
  · have := td_len (fun x => decide (x < n)) l
    simp only [List.length_append, List.length_cons]
    omega
theorem putI_sorted {l : List Int} {n : Int} (hs : l.Pairwise (· < ·)) : (putI l n).Pairwise (· < ·) := by
  unfold putI
  split
  · exact hs
  · rename_i hne
    have hge := dw_ge (n := n) hs
    have hgt : ∀ x ∈ l.dropWhile (fun x => decide (x < n)), n < x := fun x hx => by
      have h1 := hge x hx
      rcases Int.lt_or_eq_of_le h1 with h2 | h2
      · exact h2
      · subst h2
        exfalso
        have hp := putI_of_mem hs ((mem_td (fun x => decide (x < n)) l n).1 (.inr hx))
        unfold putI at hp
        rw [if_neg hne] at hp
        have := congrArg List.length hp
        have h3 := td_len (fun y => decide (y < n)) l
        simp only [List.length_append, List.length_cons] at this
        omega
    rw [List.pairwise_append, List.pairwise_cons]
    refine ⟨hs.sublist (List.takeWhile_sublist _), ⟨hgt, hs.sublist (List.dropWhile_sublist _)⟩, fun a ha b hb => ?_⟩
    have h1 := mem_tw ha
    simp at h1
    rcases List.mem_cons.1 hb with rfl | hb
    · exact h1
    · have := hgt b hb; omega
theorem nodup_lt {l : List Int} (h : l.Pairwise (· < ·)) : l.Nodup := h.imp (fun h e => by omega)

theorem PutInt_c (l : List Int) (A : Option Addr) (cap : Nat) (a : Int) (ro : Ro) (L : List (List Blk)) (hl : Sl ro 1 encInt A cap l) (hn : l.length ≤ 1000000) :
    CT Try.prog 86 [.slice A l.length cap, .int .i64 a].toArray ro L (PS 1 encInt (putI l a) L) := by
  have hcap : l.length ≤ 9223372036854775807 := by have := hl.1; have := hl.2.1; unfold maxLen at this; omega
  refine enter Try.func86 rfl Try.ntmps86 rfl ?_
  refine seq ?_
  refine region ?_
  refine op (y (x_assign rfl) rfl ?_)
  refine nil ?_
  refine n_then ?_
  refine seq ?_
  refine region ?_
  refine op (y (x_assign rfl) rfl ?_)
  refine nil ?_
  refine n_then ?_
  refine seqM (fun F ro' L' => ∃ (k : Nat), (F = [(0, .slice A l.length cap), (1, .int .i64 a), (5, .int .i64 (k : Nat))]) ∧ (ro = ro') ∧ (L = L') ∧ (k ≤ l.length) ∧ (∀ j : Nat, j < k → ∀ x, l[j]? = some x → decide (x < a) = true) ∧ (∀ x, l[k]? = some x → decide (x < a) = false)) ?_ ?_
  · skip
    refine block ?_
    refine loop (fun m F ro' L' => ∃ (k : Nat), (m = l.length - k) ∧ (F = [(0, .slice A l.length cap), (1, .int .i64 a), (5, .int .i64 (k : Nat))]) ∧ (ro = ro') ∧ (L = L') ∧ (k ≤ l.length) ∧ (∀ j : Nat, j < k → ∀ x, l[j]? = some x → decide (x < a) = true)) (l.length - 0) [(0, .slice A l.length cap), (1, .int .i64 a), (5, .int .i64 (0 : Nat))] ⟨rfl, rfl, rfl, trivial⟩ ⟨0, rfl, rfl, rfl, rfl, by omega, by omega⟩ ?_
    rintro m F ro' L' ⟨k, rfl, rfl, rfl, rfl, hk, hall⟩
    refine seq ?_
    refine seq ?_
    refine region ?_
    refine op (y (x_move rfl) rfl ?_)
    refine op (y (x_move rfl) rfl ?_)
    refine op (y (x_lenSl sz_23 rfl) rfl ?_)
    refine op (y (x_lss rfl rfl) rfl ?_)
    refine op (y (x_move rfl) rfl ?_)
    refine bsplit 13 rfl (fun g13 => ?_) (fun g13 => ?_)
    · try simp only [decide_eq_true_eq, decide_eq_false_iff_not, beq_iff_eq, bne_iff_ne, ne_eq, beq_eq_false_iff_ne, bne_eq_false_iff_eq, Bool.not_eq_true', Bool.not_eq_false', Bool.not_eq_true, Bool.not_eq_false, Decidable.not_not, Int.not_lt, Int.not_le] at g13
      obtain ⟨bbx, offx, rfl, hcx⟩ := hl.at_ (i := k) (by omega)
      have hx := List.getElem?_eq_getElem (show k < l.length from by omega)
      have cx0 := hcx k _ hx 0 _ rfl
      refine opG rfl rfl (y (x_move rfl) rfl ?_)
      refine opG rfl rfl (y (x_move rfl) rfl ?_)
      refine opG rfl rfl (y (x_indexNat sz_23 rfl rfl (by omega)) rfl ?_)
      refine opG rfl rfl (y (x_load1 ag_3 rfl (by first | assumption | exact Cell.own 0 rfl rfl | exact Cell.own 1 rfl rfl | exact Cell.own 2 rfl rfl | exact Cell.own 3 rfl rfl | exact Cell.own 4 rfl rfl | exact Cell.own 5 rfl rfl | exact Cell.ofRo (by assumption))) rfl ?_)
      refine opG rfl rfl (y (x_move rfl) rfl ?_)
      refine opG rfl rfl (y (x_lss rfl rfl) rfl ?_)
      refine op (y (x_pickT rfl rfl) rfl ?_)
      refine nil ?_
      refine n_then ?_
      refine cond rfl (fun h2 => ?_) (fun h2 => ?_)
      · try simp only [decide_eq_true_eq, decide_eq_false_iff_not, beq_iff_eq, bne_iff_ne, ne_eq, beq_eq_false_iff_ne, bne_eq_false_iff_eq, Bool.not_eq_true', Bool.not_eq_false', Bool.not_eq_true, Bool.not_eq_false, Decidable.not_not, Int.not_lt, Int.not_le] at h2
        refine skip ?_
        refine n_then ?_
        refine block ?_
        refine region ?_
        refine op (y (x_move rfl) rfl ?_)
        refine op (y (x_add rfl rfl _ (wr (by omega) (by omega))) rfl ?_)
        refine op (y (x_assign rfl) rfl ?_)
        refine nil ?_
        refine n_in ?_
        exact round (l.length - (k + 1)) [(0, .slice _ l.length cap), (1, .int .i64 a), (5, .int .i64 ((k + 1) : Nat))] (by omega) ⟨rfl, rfl, rfl, trivial⟩ ⟨k + 1, rfl, rfl, rfl, rfl, by omega, upto (p := fun j => ∀ x, l[j]? = some x → decide (x < a) = true) hall (fun x e => by rw [hx] at e; cases e; simp [*])⟩
      · try simp only [decide_eq_true_eq, decide_eq_false_iff_not, beq_iff_eq, bne_iff_ne, ne_eq, beq_eq_false_iff_ne, bne_eq_false_iff_eq, Bool.not_eq_true', Bool.not_eq_false', Bool.not_eq_true, Bool.not_eq_false, Decidable.not_not, Int.not_lt, Int.not_le] at h2
        refine exit ?_
        refine e_then ?_
        refine e_then ?_
        refine e_in ?_
        exact mid [(0, .slice _ l.length cap), (1, .int .i64 a), (5, .int .i64 (k : Nat))] ⟨rfl, rfl, rfl, trivial⟩ ⟨k, rfl, rfl, rfl, hk, hall, fun x e => by first | (rw [List.getElem?_eq_none (by omega)] at e; cases e) | (rw [hx] at e; cases e; simp [*]; try omega)⟩
    · try simp only [decide_eq_true_eq, decide_eq_false_iff_not, beq_iff_eq, bne_iff_ne, ne_eq, beq_eq_false_iff_ne, bne_eq_false_iff_eq, Bool.not_eq_true', Bool.not_eq_false', Bool.not_eq_true, Bool.not_eq_false, Decidable.not_not, Int.not_lt, Int.not_le] at g13
      refine opN rfl rfl rfl rfl ?_
      refine opN rfl rfl rfl rfl ?_
      refine opN rfl rfl rfl rfl ?_
      refine opN rfl rfl rfl rfl ?_
      refine opN rfl rfl rfl rfl ?_
      refine opN rfl rfl rfl rfl ?_
      refine op (y (x_pickF rfl rfl) rfl ?_)
      refine nil ?_
      refine n_then ?_
      refine condF rfl ?_
      refine exit ?_
      refine e_then ?_
      refine e_then ?_
      refine e_in ?_
      exact mid [(0, .slice _ l.length cap), (1, .int .i64 a), (5, .int .i64 (k : Nat))] ⟨rfl, rfl, rfl, trivial⟩ ⟨k, rfl, rfl, rfl, hk, hall, fun x e => by first | (rw [List.getElem?_eq_none (by omega)] at e; cases e) | (rw [hx] at e; cases e; simp [*]; try omega)⟩
  · rintro F ro' L' ⟨k, rfl, rfl, rfl, hk, hall, hnot⟩
    refine seqM (fun F ro' L' => ∃ (k : Nat), (F = [(0, .slice A l.length cap), (1, .int .i64 a), (5, .int .i64 (k : Nat))]) ∧ (ro = ro') ∧ (L = L') ∧ (k ≤ l.length) ∧ (∀ j : Nat, j < k → ∀ x, l[j]? = some x → decide (x < a) = true) ∧ (∀ x, l[k]? = some x → decide (x < a) = false) ∧ (l[k]? ≠ some a)) ?_ ?_
    · skip
      refine seq ?_
      refine region ?_
      refine op (y (x_move rfl) rfl ?_)
      refine op (y (x_move rfl) rfl ?_)
      refine op (y (x_lenSl sz_23 rfl) rfl ?_)
      refine op (y (x_lss rfl rfl) rfl ?_)
      refine op (y (x_move rfl) rfl ?_)
      refine bsplit 27 rfl (fun g27 => ?_) (fun g27 => ?_)
      · try simp only [decide_eq_true_eq, decide_eq_false_iff_not, beq_iff_eq, bne_iff_ne, ne_eq, beq_eq_false_iff_ne, bne_eq_false_iff_eq, Bool.not_eq_true', Bool.not_eq_false', Bool.not_eq_true, Bool.not_eq_false, Decidable.not_not, Int.not_lt, Int.not_le] at g27
        obtain ⟨bbx, offx, rfl, hcx⟩ := hl.at_ (i := k) (by omega)
        have hx := List.getElem?_eq_getElem (show k < l.length from by omega)
        have cx0 := hcx k _ hx 0 _ rfl
        refine opG rfl rfl (y (x_move rfl) rfl ?_)
        refine opG rfl rfl (y (x_move rfl) rfl ?_)
        refine opG rfl rfl (y (x_indexNat sz_23 rfl rfl (by omega)) rfl ?_)
        refine opG rfl rfl (y (x_load1 ag_3 rfl (by first | assumption | exact Cell.own 0 rfl rfl | exact Cell.own 1 rfl rfl | exact Cell.own 2 rfl rfl | exact Cell.own 3 rfl rfl | exact Cell.own 4 rfl rfl | exact Cell.own 5 rfl rfl | exact Cell.ofRo (by assumption))) rfl ?_)
        refine opG rfl rfl (y (x_move rfl) rfl ?_)
        refine opG rfl rfl (y (x_eql rfl rfl) rfl ?_)
        refine op (y (x_pickT rfl rfl) rfl ?_)
        refine nil ?_
        refine n_then ?_
        refine cond rfl (fun h4 => ?_) (fun h4 => ?_)
        · try simp only [decide_eq_true_eq, decide_eq_false_iff_not, beq_iff_eq, bne_iff_ne, ne_eq, beq_eq_false_iff_ne, bne_eq_false_iff_eq, Bool.not_eq_true', Bool.not_eq_false', Bool.not_eq_true, Bool.not_eq_false, Decidable.not_not, Int.not_lt, Int.not_le] at h4
          refine seq ?_
          refine region ?_
          refine op (y (x_move rfl) rfl ?_)
          refine op (y (x_assign rfl) rfl ?_)
          refine nil ?_
          refine n_then ?_
          refine ret ?_
          refine r_then ?_
          obtain ⟨e1, e2⟩ := takeWhile_at (fun x => decide (x < a)) l k hk hall hnot
          have e3 : putI l a = l := by rw [putI, if_pos]; rw [e2, List.head?_drop, hx, h4]
          exact done rfl (.tmp rfl (.nil)) (Ro.le.refl _) (L) (⟨_, .refl _, .refl _⟩) (⟨_, cap, by rw [e3]; rfl, by rw [e3]; exact hl, rfl⟩)
        · try simp only [decide_eq_true_eq, decide_eq_false_iff_not, beq_iff_eq, bne_iff_ne, ne_eq, beq_eq_false_iff_ne, bne_eq_false_iff_eq, Bool.not_eq_true', Bool.not_eq_false', Bool.not_eq_true, Bool.not_eq_false, Decidable.not_not, Int.not_lt, Int.not_le] at h4
          refine skip ?_
          exact mid [(0, .slice _ l.length cap), (1, .int .i64 a), (5, .int .i64 (k : Nat))] ⟨rfl, rfl, rfl, trivial⟩ ⟨k, rfl, rfl, rfl, hk, hall, hnot, fun e => by first | (rw [List.getElem?_eq_none (by omega)] at e; cases e) | (rw [hx] at e; simp only [Option.some.injEq] at e; exact h4 e)⟩
      · try simp only [decide_eq_true_eq, decide_eq_false_iff_not, beq_iff_eq, bne_iff_ne, ne_eq, beq_eq_false_iff_ne, bne_eq_false_iff_eq, Bool.not_eq_true', Bool.not_eq_false', Bool.not_eq_true, Bool.not_eq_false, Decidable.not_not, Int.not_lt, Int.not_le] at g27
        refine opN rfl rfl rfl rfl ?_
        refine opN rfl rfl rfl rfl ?_
        refine opN rfl rfl rfl rfl ?_
        refine opN rfl rfl rfl rfl ?_
        refine opN rfl rfl rfl rfl ?_
        refine opN rfl rfl rfl rfl ?_
        refine op (y (x_pickF rfl rfl) rfl ?_)
        refine nil ?_
        refine n_then ?_
        refine condF rfl ?_
        refine skip ?_
        exact mid [(0, .slice _ l.length cap), (1, .int .i64 a), (5, .int .i64 (k : Nat))] ⟨rfl, rfl, rfl, trivial⟩ ⟨k, rfl, rfl, rfl, hk, hall, hnot, fun e => by first | (rw [List.getElem?_eq_none (by omega)] at e; cases e) | (rw [hx] at e; simp only [Option.some.injEq] at e; exact h4 e)⟩
    · rintro F ro' L' ⟨k, rfl, rfl, rfl, hk, hall, hnot, hne⟩
      refine seq ?_
      refine region ?_
      refine op (y (x_assign rfl) rfl ?_)
      refine nil ?_
      refine n_then ?_
      refine seq ?_
      refine seq ?_
      refine region ?_
      refine op (y (x_assign rfl) rfl ?_)
      refine nil ?_
      refine n_then ?_
      refine block ?_
      refine emp ?_
      refine loop (fun m F ro' L' => ∃ (i : Nat) (A2 : Option Addr) (cap2 : Nat) (R : List Blk), (m = k - i) ∧ (F = [(0, .slice A l.length cap), (1, .int .i64 a), (5, .int .i64 (k : Nat)), (6, .slice A2 i cap2), (7, .int .i64 (i : Nat))]) ∧ (ro = ro') ∧ (L' = R :: L) ∧ (i ≤ k) ∧ (OwnS 3 1 A2 i cap2 ((l.take i).flatMap encInt) R)) (k - 0) [(0, .slice A l.length cap), (1, .int .i64 a), (5, .int .i64 (k : Nat)), (6, .slice none 0 0), (7, .int .i64 (0 : Nat))] ⟨rfl, rfl, rfl, rfl, rfl, trivial⟩ ⟨0, none, 0, [], rfl, rfl, rfl, rfl, by omega, OwnS.none_ 3 1⟩ ?_
      rintro m F ro' L' ⟨i, A2, cap2, R, rfl, rfl, rfl, rfl, hi, hO⟩
      refine seq ?_
      refine seq ?_
      refine region ?_
      refine op (y (x_move rfl) rfl ?_)
      refine op (y (x_move rfl) rfl ?_)
      refine op (y (x_lss rfl rfl) rfl ?_)
      refine nil ?_
      refine n_then ?_
      refine cond rfl (fun h8 => ?_) (fun h8 => ?_)
      · try simp only [decide_eq_true_eq, decide_eq_false_iff_not, beq_iff_eq, bne_iff_ne, ne_eq, beq_eq_false_iff_ne, bne_eq_false_iff_eq, Bool.not_eq_true', Bool.not_eq_false', Bool.not_eq_true, Bool.not_eq_false, Decidable.not_not, Int.not_lt, Int.not_le] at h8
        refine skip ?_
        refine n_then ?_
        refine seq ?_
        refine block ?_
        obtain ⟨bbx, offx, rfl, hcx⟩ := hl.at_ (i := i) (by omega)
        have hx := List.getElem?_eq_getElem (show i < l.length from by omega)
        have cx0 := hcx i _ hx 0 _ rfl
        refine region ?_
        refine op (y (x_move rfl) rfl ?_)
        refine op (y (x_move rfl) rfl ?_)
        refine op (y (x_move rfl) rfl ?_)
        refine op (y (x_indexNat sz_23 rfl rfl (by omega)) rfl ?_)
        refine op (y (x_load1 ag_3 rfl (by first | assumption | exact Cell.own 0 rfl rfl | exact Cell.own 1 rfl rfl | exact Cell.own 2 rfl rfl | exact Cell.own 3 rfl rfl | exact Cell.own 4 rfl rfl | exact Cell.own 5 rfl rfl | exact Cell.ofRo (by assumption))) rfl ?_)
        refine op (e_slice1 rfl Try.underlying23 ti_3 rfl rfl (by decide) (by decide) rfl rfl rfl fun b46 => ?_)
        refine op (e_append1 0 rfl st_23 rfl rfl rfl hO rfl rfl (by omega) (by omega) (fun _ => rfl) fun A47 cap47 R47 hO47 => ?_)
        refine op (y (x_assign rfl) rfl ?_)
        refine nil ?_
        refine n_in ?_
        refine n_then ?_
        refine region ?_
        refine op (y (x_move rfl) rfl ?_)
        refine op (y (x_add rfl rfl _ (wr (by omega) (by omega))) rfl ?_)
        refine op (y (x_assign rfl) rfl ?_)
        refine nil ?_
        exact round (k - (i + 1)) [(0, .slice _ l.length cap), (1, .int .i64 a), (5, .int .i64 (k : Nat)), (6, .slice _ (i + 1) _), (7, .int .i64 ((i + 1) : Nat))] (by omega) ⟨rfl, rfl, rfl, rfl, rfl, trivial⟩ ⟨i + 1, _, _, _, rfl, rfl, rfl, rfl, by omega, by rw [take_snoc' hx]; exact hO47.snoc⟩
      · try simp only [decide_eq_true_eq, decide_eq_false_iff_not, beq_iff_eq, bne_iff_ne, ne_eq, beq_eq_false_iff_ne, bne_eq_false_iff_eq, Bool.not_eq_true', Bool.not_eq_false', Bool.not_eq_true, Bool.not_eq_false, Decidable.not_not, Int.not_lt, Int.not_le] at h8
        obtain rfl : k = i := by omega
        have e4 : putI l a = l.take k ++ a :: l.drop k := by
          obtain ⟨e1, e2⟩ := takeWhile_at (fun x => decide (x < a)) l k hk hall hnot
          rw [putI, e1, e2, if_neg]
          intro h; rw [List.head?_drop] at h; exact hne h
        refine exit ?_
        refine e_then ?_
        refine e_then ?_
        refine e_in ?_
        refine n_then ?_
        refine seq ?_
        refine region ?_
        refine op (y (x_move rfl) rfl ?_)
        refine op (y (x_move rfl) rfl ?_)
        refine op (e_slice1 rfl Try.underlying23 ti_3 rfl rfl (by decide) (by decide) rfl rfl rfl fun b50 => ?_)
        refine op (e_append1 0 rfl st_23 rfl rfl rfl hO rfl rfl (by omega) (by omega) (fun _ => rfl) fun A51 cap51 R51 hO51 => ?_)
        refine op (y (x_assign rfl) rfl ?_)
        refine nil ?_
        refine n_then ?_
        refine seq ?_
        refine seq ?_
        refine region ?_
        refine op (y (x_move rfl) rfl ?_)
        refine op (y (x_assign rfl) rfl ?_)
        refine nil ?_
        refine n_then ?_
        refine block ?_
        refine loop (fun m F ro' L' => ∃ (i : Nat) (A2 : Option Addr) (cap2 : Nat) (R : List Blk), (m = l.length - i) ∧ (F = [(0, .slice A l.length cap), (1, .int .i64 a), (6, .slice A2 (i + 1) cap2), (8, .int .i64 (i : Nat))]) ∧ (ro = ro') ∧ (L' = R :: L) ∧ (k ≤ i) ∧ (i ≤ l.length) ∧ (OwnS 3 1 A2 (i + 1) cap2 ((l.take k ++ a :: (l.drop k).take (i - k)).flatMap encInt) R)) (l.length - k) [(0, .slice A l.length cap), (1, .int .i64 a), (6, .slice _ (k + 1) _), (8, .int .i64 (k : Nat))] ⟨rfl, rfl, rfl, rfl, trivial⟩ ⟨k, _, _, _, rfl, rfl, rfl, rfl, by omega, by omega, by simpa using hO51.snoc (l := l.take k) (x := a) (enc := encInt)⟩ ?_
        rintro m F ro' L' ⟨i, A2, cap2, R, rfl, rfl, rfl, rfl, hki, hi, hO⟩
        refine seq ?_
        refine seq ?_
        refine region ?_
        refine op (y (x_move rfl) rfl ?_)
        refine op (y (x_move rfl) rfl ?_)
        refine op (y (x_lenSl sz_23 rfl) rfl ?_)
        refine op (y (x_lss rfl rfl) rfl ?_)
        refine nil ?_
        refine n_then ?_
        refine cond rfl (fun h13 => ?_) (fun h13 => ?_)
        · try simp only [decide_eq_true_eq, decide_eq_false_iff_not, beq_iff_eq, bne_iff_ne, ne_eq, beq_eq_false_iff_ne, bne_eq_false_iff_eq, Bool.not_eq_true', Bool.not_eq_false', Bool.not_eq_true, Bool.not_eq_false, Decidable.not_not, Int.not_lt, Int.not_le] at h13
          refine skip ?_
          refine n_then ?_
          refine seq ?_
          refine block ?_
          obtain ⟨bbx, offx, rfl, hcx⟩ := hl.at_ (i := i) (by omega)
          have hx := List.getElem?_eq_getElem (show i < l.length from by omega)
          have cx0 := hcx i _ hx 0 _ rfl
          refine region ?_
          refine op (y (x_move rfl) rfl ?_)
          refine op (y (x_move rfl) rfl ?_)
          refine op (y (x_move rfl) rfl ?_)
          refine op (y (x_indexNat sz_23 rfl rfl (by omega)) rfl ?_)
          refine op (y (x_load1 ag_3 rfl (by first | assumption | exact Cell.own 0 rfl rfl | exact Cell.own 1 rfl rfl | exact Cell.own 2 rfl rfl | exact Cell.own 3 rfl rfl | exact Cell.own 4 rfl rfl | exact Cell.own 5 rfl rfl | exact Cell.ofRo (by assumption))) rfl ?_)
          refine op (e_slice1 rfl Try.underlying23 ti_3 rfl rfl (by decide) (by decide) rfl rfl rfl fun b64 => ?_)
          refine op (e_append1 0 rfl st_23 rfl rfl rfl hO rfl rfl (by omega) (by omega) (fun _ => rfl) fun A65 cap65 R65 hO65 => ?_)
          refine op (y (x_assign rfl) rfl ?_)
          refine nil ?_
          refine n_in ?_
          refine n_then ?_
          refine region ?_
          refine op (y (x_move rfl) rfl ?_)
          refine op (y (x_add rfl rfl _ (wr (by omega) (by omega))) rfl ?_)
          refine op (y (x_assign rfl) rfl ?_)
          refine nil ?_
          exact round (l.length - (i + 1)) [(0, .slice _ l.length cap), (1, .int .i64 a), (6, .slice _ ((i + 1) + 1) _), (8, .int .i64 ((i + 1) : Nat))] (by omega) ⟨rfl, rfl, rfl, rfl, trivial⟩ ⟨i + 1, _, _, _, rfl, rfl, rfl, rfl, by omega, by omega, by
              have e : i + 1 - k = (i - k) + 1 := by omega
              rw [e, take_snoc' (l := l.drop k) (k := i - k) (x := l[i]) (by rw [List.getElem?_drop]; rw [← hx]; congr 1; omega)]
              have := hO65.snoc
              simpa using this⟩
        · try simp only [decide_eq_true_eq, decide_eq_false_iff_not, beq_iff_eq, bne_iff_ne, ne_eq, beq_eq_false_iff_ne, bne_eq_false_iff_eq, Bool.not_eq_true', Bool.not_eq_false', Bool.not_eq_true, Bool.not_eq_false, Decidable.not_not, Int.not_lt, Int.not_le] at h13
          refine exit ?_
          refine e_then ?_
          refine e_then ?_
          refine e_in ?_
          refine n_then ?_
          refine seq ?_
          refine region ?_
          refine op (y (x_move rfl) rfl ?_)
          refine op (y (x_assign rfl) rfl ?_)
          refine nil ?_
          refine n_then ?_
          refine ret ?_
          obtain rfl : i = l.length := by omega
          have e3 : (l.drop k).take (l.length - k) = l.drop k := List.take_of_length_le (by simp)
          rw [e3, ← e4] at hO
          have hlen : (putI l a).length = l.length + 1 := by rw [e4]; simp; omega
          refine ufreeze fun ro2 hle2 hR => ?_
          exact done rfl (.tmp rfl (.nil)) (hle2) (L) (⟨_, .refl _, .refl _⟩) (⟨_, _, by rw [hlen]; rfl, OwnS.sl (hO.cast hlen.symm rfl) (fun _ _ => rfl) hR, rfl⟩)

def AheadR (l : List (Int × Int)) (b : Int) : List Int := ((l.filter (fun p => decide (p.2 = b))).map (·.1)).foldl putI []
theorem AheadR_snoc (l : List (Int × Int)) (b : Int) (p : Int × Int) : AheadR (l ++ [p]) b = if p.2 = b then putI (AheadR l b) p.1 else AheadR l b := by
  unfold AheadR
  split <;> rename_i h <;> simp [h]
theorem AheadR_spec (l : List (Int × Int)) (b : Int) : (AheadR l b).Pairwise (· < ·) ∧ (∀ x, x ∈ AheadR l b ↔ (x, b) ∈ l) := by
  unfold AheadR
  have key : ∀ (m acc : List Int), acc.Pairwise (· < ·) → (m.foldl putI acc).Pairwise (· < ·) ∧ ∀ x, x ∈ m.foldl putI acc ↔ x ∈ acc ∨ x ∈ m := by
    intro m
    induction m with
    | nil => intro acc h; simp [h]
    | cons a m ih =>
      intro acc h
      obtain ⟨h1, h2⟩ := ih _ (putI_sorted (n := a) h)
      refine ⟨h1, fun x => ?_⟩
      rw [List.foldl_cons, h2, mem_putI]
      simp only [List.mem_cons]
      grind
  obtain ⟨h1, h2⟩ := key ((l.filter (fun p => decide (p.2 = b))).map (·.1)) [] (by simp)
  refine ⟨h1, fun x => ?_⟩
  rw [h2]
  simp

theorem AheadR_c (l : List (Int × Int)) (A : Option Addr) (cap : Nat) (b : Int) (ro : Ro) (L : List (List Blk)) (hl : Sl ro 2 encPair A cap l) (hn : l.length ≤ 1000000) :
    CT Try.prog 41 [.slice A l.length cap, .int .i64 b].toArray ro L (PS 1 encInt (AheadR l b) L) := by
  have hcap : l.length ≤ 9223372036854775807 := by have := hl.1; have := hl.2.1; unfold maxLen at this; omega
  refine enter Try.func41 rfl Try.ntmps41 rfl ?_
  refine seq ?_
  refine region ?_
  refine op (y (x_assign rfl) rfl ?_)
  refine nil ?_
  refine n_then ?_
  refine seq ?_
  refine region ?_
  refine op (y (x_assign rfl) rfl ?_)
  refine nil ?_
  refine n_then ?_
  refine seq ?_
  refine seq ?_
  refine region ?_
  refine op (y (x_assign rfl) rfl ?_)
  refine nil ?_
  refine n_then ?_
  refine block ?_
  refine loop (fun m F ro' L' => ∃ (k : Nat) (A2 : Option Addr) (cap2 : Nat), (m = l.length - k) ∧ (F = [(0, .slice A l.length cap), (1, .int .i64 b), (5, .slice A2 (AheadR (l.take k) b).length cap2), (6, .int .i64 (k : Nat))]) ∧ (L = L') ∧ (k ≤ l.length) ∧ (ro.le ro') ∧ (Sl ro' 1 encInt A2 cap2 (AheadR (l.take k) b)) ∧ ((AheadR (l.take k) b).length ≤ k)) (l.length - 0) [(0, .slice A l.length cap), (1, .int .i64 b), (5, .slice none (AheadR (l.take 0) b).length 0), (6, .int .i64 (0 : Nat))] ⟨rfl, rfl, rfl, rfl, trivial⟩ ⟨0, none, 0, rfl, rfl, rfl, by omega, Ro.le.refl _, ⟨by simp [AheadR], by simp [maxLen], by simp [AheadR], fun h => absurd rfl h⟩, by simp [AheadR]⟩ ?_
  rintro m F ro' L' ⟨k, A2, cap2, rfl, rfl, rfl, hk, hle, hO, hlen⟩
  refine seq ?_
  refine seq ?_
  refine region ?_
  refine op (y (x_move rfl) rfl ?_)
  refine op (y (x_move rfl) rfl ?_)
  refine op (y (x_lenSl sz_26 rfl) rfl ?_)
  refine op (y (x_lss rfl rfl) rfl ?_)
  refine nil ?_
  refine n_then ?_
  refine cond rfl (fun h3 => ?_) (fun h3 => ?_)
  · try simp only [decide_eq_true_eq, decide_eq_false_iff_not, beq_iff_eq, bne_iff_ne, ne_eq, beq_eq_false_iff_ne, bne_eq_false_iff_eq, Bool.not_eq_true', Bool.not_eq_false', Bool.not_eq_true, Bool.not_eq_false, Decidable.not_not, Int.not_lt, Int.not_le] at h3
    refine skip ?_
    refine n_then ?_
    refine seqM (fun F ro' L' => ∃ (A2 : Option Addr) (cap2 : Nat), (F = [(0, .slice A l.length cap), (1, .int .i64 b), (5, .slice A2 (AheadR (l.take (k + 1)) b).length cap2), (6, .int .i64 (k : Nat))]) ∧ (L = L') ∧ (k < l.length) ∧ (ro.le ro') ∧ (Sl ro' 1 encInt A2 cap2 (AheadR (l.take (k + 1)) b)) ∧ ((AheadR (l.take (k + 1)) b).length ≤ k + 1)) ?_ ?_
    · skip
      refine block ?_
      refine seq ?_
      obtain ⟨bbx, offx, rfl, hcx⟩ := (hl.mono hle).at_ (i := k) (by omega)
      have hx := List.getElem?_eq_getElem (show k < l.length from by omega)
      have cx0 := hcx k _ hx 0 _ rfl
      have cx1 := hcx k _ hx 1 _ rfl
      have hsn := AheadR_snoc (l.take k) b l[k]
      rw [← take_snoc' hx] at hsn
      refine region ?_
      refine op (y (x_move rfl) rfl ?_)
      refine op (y (x_move rfl) rfl ?_)
      refine op (y (x_indexNat sz_26 rfl rfl (by omega)) rfl ?_)
      refine op (y (x_fieldAddr fo_46_1 rfl) rfl ?_)
      refine op (y (x_load1 ag_3 rfl (by first | assumption | exact Cell.own 0 rfl rfl | exact Cell.own 1 rfl rfl | exact Cell.own 2 rfl rfl | exact Cell.own 3 rfl rfl | exact Cell.own 4 rfl rfl | exact Cell.own 5 rfl rfl | exact Cell.ofRo (by assumption))) rfl ?_)
      refine op (y (x_move rfl) rfl ?_)
      refine op (y (x_eql rfl rfl) rfl ?_)
      refine nil ?_
      refine n_then ?_
      refine cond rfl (fun h5 => ?_) (fun h5 => ?_)
      · try simp only [decide_eq_true_eq, decide_eq_false_iff_not, beq_iff_eq, bne_iff_ne, ne_eq, beq_eq_false_iff_ne, bne_eq_false_iff_eq, Bool.not_eq_true', Bool.not_eq_false', Bool.not_eq_true, Bool.not_eq_false, Decidable.not_not, Int.not_lt, Int.not_le] at h5
        refine region ?_
        refine op (y (x_move rfl) rfl ?_)
        refine op (y (x_move rfl) rfl ?_)
        refine op (y (x_move rfl) rfl ?_)
        refine op (y (x_indexNat sz_26 rfl rfl (by omega)) rfl ?_)
        refine op (y (x_fieldAddr fo_46_0 rfl) rfl ?_)
        refine op (y (x_load1 ag_3 rfl (by first | assumption | exact Cell.own 0 rfl rfl | exact Cell.own 1 rfl rfl | exact Cell.own 2 rfl rfl | exact Cell.own 3 rfl rfl | exact Cell.own 4 rfl rfl | exact Cell.own 5 rfl rfl | exact Cell.ofRo (by assumption))) rfl ?_)
        refine op (e_call rfl fn_86 rfl rfl (PutInt_c (AheadR (l.take k) b) A2 cap2 _ ro' _ hO (by omega)) fun v26 ro26 L26 hle26 hp26 => ?_)
        obtain ⟨A3, cap3, rfl, hO3, rfl⟩ := hp26
        rw [if_pos h5] at hsn
        rw [← hsn] at hO3 ⊢
        refine op (y (x_assign rfl) rfl ?_)
        refine nil ?_
        refine n_in ?_
        exact mid [(0, .slice _ l.length cap), (1, .int .i64 b), (5, .slice A3 (AheadR (l.take (k + 1)) b).length cap3), (6, .int .i64 (k : Nat))] ⟨rfl, rfl, rfl, rfl, trivial⟩ ⟨A3, cap3, rfl, rfl, by omega, hle.trans hle26, hO3, by
              rw [hsn]
              by_cases hm : (l[k]).1 ∈ AheadR (l.take k) b
              · rw [putI_of_mem (AheadR_spec _ _).1 hm]; omega
              · rw [putI_len hm]; omega⟩
      · try simp only [decide_eq_true_eq, decide_eq_false_iff_not, beq_iff_eq, bne_iff_ne, ne_eq, beq_eq_false_iff_ne, bne_eq_false_iff_eq, Bool.not_eq_true', Bool.not_eq_false', Bool.not_eq_true, Bool.not_eq_false, Decidable.not_not, Int.not_lt, Int.not_le] at h5
        rw [if_neg h5] at hsn
        rw [← hsn] at hO
        rw [← hsn]
        refine skip ?_
        refine n_in ?_
        exact mid [(0, .slice _ l.length cap), (1, .int .i64 b), (5, .slice _ (AheadR (l.take (k + 1)) b).length _), (6, .int .i64 (k : Nat))] ⟨rfl, rfl, rfl, rfl, trivial⟩ ⟨_, _, rfl, rfl, by omega, hle, hO, by rw [hsn]; omega⟩
    · rintro F ro' L' ⟨A2, cap2, rfl, rfl, hk2, hle, hO, hlen⟩
      refine region ?_
      refine op (y (x_move rfl) rfl ?_)
      refine op (y (x_add rfl rfl _ (wr (by omega) (by omega))) rfl ?_)
      refine op (y (x_assign rfl) rfl ?_)
      refine nil ?_
      exact round (l.length - (k + 1)) [(0, .slice _ l.length cap), (1, .int .i64 b), (5, .slice _ (AheadR (l.take (k + 1)) b).length _), (6, .int .i64 ((k + 1) : Nat))] (by omega) ⟨rfl, rfl, rfl, rfl, trivial⟩ ⟨k + 1, _, _, rfl, rfl, rfl, by omega, hle, hO, hlen⟩
  · try simp only [decide_eq_true_eq, decide_eq_false_iff_not, beq_iff_eq, bne_iff_ne, ne_eq, beq_eq_false_iff_ne, bne_eq_false_iff_eq, Bool.not_eq_true', Bool.not_eq_false', Bool.not_eq_true, Bool.not_eq_false, Decidable.not_not, Int.not_lt, Int.not_le] at h3
    refine exit ?_
    refine e_then ?_
    refine e_then ?_
    refine e_in ?_
    refine n_then ?_
    refine seq ?_
    refine region ?_
    refine op (y (x_move rfl) rfl ?_)
    refine op (y (x_assign rfl) rfl ?_)
    refine nil ?_
    refine n_then ?_
    refine ret ?_
    obtain rfl : k = l.length := by omega
    rw [List.take_length] at *
    exact done rfl (.tmp rfl (.nil)) (hle) (L) (⟨_, .refl _, .refl _⟩) (⟨_, _, rfl, hO, rfl⟩)

def BehindR (l : List (Int × Int)) (b : Int) : List Int := ((l.filter (fun p => decide (p.1 = b))).map (·.2)).foldl putI []
theorem BehindR_snoc (l : List (Int × Int)) (b : Int) (p : Int × Int) : BehindR (l ++ [p]) b = if p.1 = b then putI (BehindR l b) p.2 else BehindR l b := by
  unfold BehindR
  split <;> rename_i h <;> simp [h]
theorem BehindR_spec (l : List (Int × Int)) (b : Int) : (BehindR l b).Pairwise (· < ·) ∧ (∀ x, x ∈ BehindR l b ↔ (b, x) ∈ l) := by
  unfold BehindR
  have key : ∀ (m acc : List Int), acc.Pairwise (· < ·) → (m.foldl putI acc).Pairwise (· < ·) ∧ ∀ x, x ∈ m.foldl putI acc ↔ x ∈ acc ∨ x ∈ m := by
    intro m
    induction m with
    | nil => intro acc h; simp [h]
    | cons a m ih =>
      intro acc h
      obtain ⟨h1, h2⟩ := ih _ (putI_sorted (n := a) h)
      refine ⟨h1, fun x => ?_⟩
      rw [List.foldl_cons, h2, mem_putI]
      simp only [List.mem_cons]
      grind
  obtain ⟨h1, h2⟩ := key ((l.filter (fun p => decide (p.1 = b))).map (·.2)) [] (by simp)
  refine ⟨h1, fun x => ?_⟩
  rw [h2]
  simp

theorem BehindR_c (l : List (Int × Int)) (A : Option Addr) (cap : Nat) (b : Int) (ro : Ro) (L : List (List Blk)) (hl : Sl ro 2 encPair A cap l) (hn : l.length ≤ 1000000) :
    CT Try.prog 43 [.slice A l.length cap, .int .i64 b].toArray ro L (PS 1 encInt (BehindR l b) L) := by
  have hcap : l.length ≤ 9223372036854775807 := by have := hl.1; have := hl.2.1; unfold maxLen at this; omega
  refine enter Try.func43 rfl Try.ntmps43 rfl ?_
  refine seq ?_
  refine region ?_
  refine op (y (x_assign rfl) rfl ?_)
  refine nil ?_
  refine n_then ?_
  refine seq ?_
  refine region ?_
  refine op (y (x_assign rfl) rfl ?_)
  refine nil ?_
  refine n_then ?_
  refine seq ?_
  refine seq ?_
  refine region ?_
  refine op (y (x_assign rfl) rfl ?_)
  refine nil ?_
  refine n_then ?_
  refine block ?_
  refine loop (fun m F ro' L' => ∃ (k : Nat) (A2 : Option Addr) (cap2 : Nat), (m = l.length - k) ∧ (F = [(0, .slice A l.length cap), (1, .int .i64 b), (5, .slice A2 (BehindR (l.take k) b).length cap2), (6, .int .i64 (k : Nat))]) ∧ (L = L') ∧ (k ≤ l.length) ∧ (ro.le ro') ∧ (Sl ro' 1 encInt A2 cap2 (BehindR (l.take k) b)) ∧ ((BehindR (l.take k) b).length ≤ k)) (l.length - 0) [(0, .slice A l.length cap), (1, .int .i64 b), (5, .slice none (BehindR (l.take 0) b).length 0), (6, .int .i64 (0 : Nat))] ⟨rfl, rfl, rfl, rfl, trivial⟩ ⟨0, none, 0, rfl, rfl, rfl, by omega, Ro.le.refl _, ⟨by simp [BehindR], by simp [maxLen], by simp [BehindR], fun h => absurd rfl h⟩, by simp [BehindR]⟩ ?_
  rintro m F ro' L' ⟨k, A2, cap2, rfl, rfl, rfl, hk, hle, hO, hlen⟩
  refine seq ?_
  refine seq ?_
  refine region ?_
  refine op (y (x_move rfl) rfl ?_)
  refine op (y (x_move rfl) rfl ?_)
  refine op (y (x_lenSl sz_26 rfl) rfl ?_)
  refine op (y (x_lss rfl rfl) rfl ?_)
  refine nil ?_
  refine n_then ?_
  refine cond rfl (fun h3 => ?_) (fun h3 => ?_)
  · try simp only [decide_eq_true_eq, decide_eq_false_iff_not, beq_iff_eq, bne_iff_ne, ne_eq, beq_eq_false_iff_ne, bne_eq_false_iff_eq, Bool.not_eq_true', Bool.not_eq_false', Bool.not_eq_true, Bool.not_eq_false, Decidable.not_not, Int.not_lt, Int.not_le] at h3
    refine skip ?_
    refine n_then ?_
    refine seqM (fun F ro' L' => ∃ (A2 : Option Addr) (cap2 : Nat), (F = [(0, .slice A l.length cap), (1, .int .i64 b), (5, .slice A2 (BehindR (l.take (k + 1)) b).length cap2), (6, .int .i64 (k : Nat))]) ∧ (L = L') ∧ (k < l.length) ∧ (ro.le ro') ∧ (Sl ro' 1 encInt A2 cap2 (BehindR (l.take (k + 1)) b)) ∧ ((BehindR (l.take (k + 1)) b).length ≤ k + 1)) ?_ ?_
    · skip
      refine block ?_
      refine seq ?_
      obtain ⟨bbx, offx, rfl, hcx⟩ := (hl.mono hle).at_ (i := k) (by omega)
      have hx := List.getElem?_eq_getElem (show k < l.length from by omega)
      have cx0 := hcx k _ hx 0 _ rfl
      have cx1 := hcx k _ hx 1 _ rfl
      have hsn := BehindR_snoc (l.take k) b l[k]
      rw [← take_snoc' hx] at hsn
      refine region ?_
      refine op (y (x_move rfl) rfl ?_)
      refine op (y (x_move rfl) rfl ?_)
      refine op (y (x_indexNat sz_26 rfl rfl (by omega)) rfl ?_)
      refine op (y (x_fieldAddr fo_46_0 rfl) rfl ?_)
      refine op (y (x_load1 ag_3 rfl (by first | assumption | exact Cell.own 0 rfl rfl | exact Cell.own 1 rfl rfl | exact Cell.own 2 rfl rfl | exact Cell.own 3 rfl rfl | exact Cell.own 4 rfl rfl | exact Cell.own 5 rfl rfl | exact Cell.ofRo (by assumption))) rfl ?_)
      refine op (y (x_move rfl) rfl ?_)
      refine op (y (x_eql rfl rfl) rfl ?_)
      refine nil ?_
      refine n_then ?_
      refine cond rfl (fun h5 => ?_) (fun h5 => ?_)
      · try simp only [decide_eq_true_eq, decide_eq_false_iff_not, beq_iff_eq, bne_iff_ne, ne_eq, beq_eq_false_iff_ne, bne_eq_false_iff_eq, Bool.not_eq_true', Bool.not_eq_false', Bool.not_eq_true, Bool.not_eq_false, Decidable.not_not, Int.not_lt, Int.not_le] at h5
        refine region ?_
        refine op (y (x_move rfl) rfl ?_)
        refine op (y (x_move rfl) rfl ?_)
        refine op (y (x_move rfl) rfl ?_)
        refine op (y (x_indexNat sz_26 rfl rfl (by omega)) rfl ?_)
        refine op (y (x_fieldAddr fo_46_1 rfl) rfl ?_)
        refine op (y (x_load1 ag_3 rfl (by first | assumption | exact Cell.own 0 rfl rfl | exact Cell.own 1 rfl rfl | exact Cell.own 2 rfl rfl | exact Cell.own 3 rfl rfl | exact Cell.own 4 rfl rfl | exact Cell.own 5 rfl rfl | exact Cell.ofRo (by assumption))) rfl ?_)
        refine op (e_call rfl fn_86 rfl rfl (PutInt_c (BehindR (l.take k) b) A2 cap2 _ ro' _ hO (by omega)) fun v26 ro26 L26 hle26 hp26 => ?_)
        obtain ⟨A3, cap3, rfl, hO3, rfl⟩ := hp26
        rw [if_pos h5] at hsn
        rw [← hsn] at hO3 ⊢
        refine op (y (x_assign rfl) rfl ?_)
        refine nil ?_
        refine n_in ?_
        exact mid [(0, .slice _ l.length cap), (1, .int .i64 b), (5, .slice A3 (BehindR (l.take (k + 1)) b).length cap3), (6, .int .i64 (k : Nat))] ⟨rfl, rfl, rfl, rfl, trivial⟩ ⟨A3, cap3, rfl, rfl, by omega, hle.trans hle26, hO3, by
              rw [hsn]
              by_cases hm : (l[k]).2 ∈ BehindR (l.take k) b
              · rw [putI_of_mem (BehindR_spec _ _).1 hm]; omega
              · rw [putI_len hm]; omega⟩
      · try simp only [decide_eq_true_eq, decide_eq_false_iff_not, beq_iff_eq, bne_iff_ne, ne_eq, beq_eq_false_iff_ne, bne_eq_false_iff_eq, Bool.not_eq_true', Bool.not_eq_false', Bool.not_eq_true, Bool.not_eq_false, Decidable.not_not, Int.not_lt, Int.not_le] at h5
        rw [if_neg h5] at hsn
        rw [← hsn] at hO
        rw [← hsn]
        refine skip ?_
        refine n_in ?_
        exact mid [(0, .slice _ l.length cap), (1, .int .i64 b), (5, .slice _ (BehindR (l.take (k + 1)) b).length _), (6, .int .i64 (k : Nat))] ⟨rfl, rfl, rfl, rfl, trivial⟩ ⟨_, _, rfl, rfl, by omega, hle, hO, by rw [hsn]; omega⟩
    · rintro F ro' L' ⟨A2, cap2, rfl, rfl, hk2, hle, hO, hlen⟩
      refine region ?_
      refine op (y (x_move rfl) rfl ?_)
      refine op (y (x_add rfl rfl _ (wr (by omega) (by omega))) rfl ?_)
      refine op (y (x_assign rfl) rfl ?_)
      refine nil ?_
      exact round (l.length - (k + 1)) [(0, .slice _ l.length cap), (1, .int .i64 b), (5, .slice _ (BehindR (l.take (k + 1)) b).length _), (6, .int .i64 ((k + 1) : Nat))] (by omega) ⟨rfl, rfl, rfl, rfl, trivial⟩ ⟨k + 1, _, _, rfl, rfl, rfl, by omega, hle, hO, hlen⟩
  · try simp only [decide_eq_true_eq, decide_eq_false_iff_not, beq_iff_eq, bne_iff_ne, ne_eq, beq_eq_false_iff_ne, bne_eq_false_iff_eq, Bool.not_eq_true', Bool.not_eq_false', Bool.not_eq_true, Bool.not_eq_false, Decidable.not_not, Int.not_lt, Int.not_le] at h3
    refine exit ?_
    refine e_then ?_
    refine e_then ?_
    refine e_in ?_
    refine n_then ?_
    refine seq ?_
    refine region ?_
    refine op (y (x_move rfl) rfl ?_)
    refine op (y (x_assign rfl) rfl ?_)
    refine nil ?_
    refine n_then ?_
    refine ret ?_
    obtain rfl : k = l.length := by omega
    rw [List.take_length] at *
    exact done rfl (.tmp rfl (.nil)) (hle) (L) (⟨_, .refl _, .refl _⟩) (⟨_, _, rfl, hO, rfl⟩)

end Go.Proofs.Ytlmeblhcipkgmaa
