/- The walk of the reference of graphs: the order. -/
import Derived.Test.YtlmeblhcipkgmaaG17
import Derived.Test.YtlmeblhcipkgmaaU24
namespace Go.Proofs.Ytlmeblhcipkgmaa
open Go Go.U
set_option maxRecDepth 20000
set_option linter.unusedSimpArgs false
set_option linter.unusedVariables false

open Go.RowKit
theorem tfree_iff {E : List Ed} {N dn : List Int} (hNO : ∀ u w, w ∈ Ob E u → u ∈ N) (n : Int) : tfree (Ob E) N dn n = true ↔ n ∉ dn ∧ ∀ e ∈ E, e.2.1 = n → e.1 ∈ dn := by
  unfold tfree
  simp only [Bool.and_eq_true, Bool.not_eq_true', decide_eq_false_iff_not, List.all_eq_true, Bool.or_eq_true, decide_eq_true_eq]
  constructor
  · rintro ⟨h1, h2⟩
    refine ⟨h1, fun e he h3 => ?_⟩
    have h4 : n ∈ Ob E e.1 := mem_Ob.2 ⟨e.2.2, by rw [← h3]; exact he⟩
    rcases h2 e.1 (hNO _ _ h4) with h5 | h5
    · exact h5
    · exact absurd h4 h5
  · rintro ⟨h1, h2⟩
    refine ⟨h1, fun a _ => ?_⟩
    by_cases h : n ∈ Ob E a
    · obtain ⟨c, hc⟩ := mem_Ob.1 h
      exact .inl (h2 _ hc rfl)
    · exact .inr h

theorem GinO_c (l : List Int) (A : Option Addr) (cap : Nat) (R : List Blk) (a : Int) (ro : Ro) (L : List (List Blk)) (hO : OwnS 3 1 A l.length cap (l.flatMap encInt) R) (hL : ∀ q ∈ R, q ∈ L.flatten) (hn : l.length ≤ 100000) :
    CT Try.prog 99 [.slice A l.length cap, .int .i64 a].toArray ro L (PQ (.bool (decide (a ∈ l))) ro L) := by
  refine enter Try.func99 rfl Try.ntmps99 rfl ?_
  refine seq ?_
  refine region ?_
  refine op (y (x_assign rfl) rfl ?_)
  refine nil ?_
  refine n_then ?_
  refine seq ?_
  refine seq ?_
  refine region ?_
  refine op (y (x_assign rfl) rfl ?_)
  refine nil ?_
  refine n_then ?_
  refine block ?_
  refine loop (fun m F ro' L' => ∃ (k : Nat), (m = l.length - k) ∧ (F = [(0, .slice A l.length cap), (1, .int .i64 a), (5, .int .i64 (k : Nat))]) ∧ (ro = ro') ∧ (L = L') ∧ (k ≤ l.length) ∧ (∀ j : Nat, j < k → l[j]? ≠ some a)) (l.length - 0) [(0, .slice A l.length cap), (1, .int .i64 a), (5, .int .i64 (0 : Nat))] ⟨rfl, rfl, rfl, trivial⟩ ⟨0, rfl, rfl, rfl, rfl, by omega, by intro j hj; omega⟩ ?_
  rintro m F ro' L' ⟨k, rfl, rfl, rfl, rfl, hk, hall⟩
  refine seq ?_
  refine seq ?_
  refine region ?_
  refine op (y (x_move rfl) rfl ?_)
  refine op (y (x_move rfl) rfl ?_)
  refine op (y (x_lenSl sz_23 rfl) rfl ?_)
  refine op (y (x_lss rfl rfl) rfl ?_)
  refine nil ?_
  refine n_then ?_
  refine cond rfl (fun h2 => ?_) (fun h2 => ?_)
  · try simp only [decide_eq_true_eq, decide_eq_false_iff_not, beq_iff_eq, bne_iff_ne, ne_eq, beq_eq_false_iff_ne, bne_eq_false_iff_eq, Bool.not_eq_true', Bool.not_eq_false', Bool.not_eq_true, Bool.not_eq_false, Decidable.not_not, Int.not_lt, Int.not_le] at h2
    refine skip ?_
    refine n_then ?_
    refine seq ?_
    refine block ?_
    refine seq ?_
    have hjl : k < l.length := by omega
    obtain ⟨b5, off5, cur5, rfl, rfl, y2, hx, hc5⟩ := OwnS.intAt hO hjl rfl
    refine region ?_
    refine op (y (x_move rfl) rfl ?_)
    refine op (y (x_move rfl) rfl ?_)
    refine op (y (x_indexNat sz_23 rfl rfl (by omega)) rfl ?_)
    refine op (y (x_load1 ag_3 rfl (Cell.blk (hL _ (List.mem_singleton.2 rfl)) hc5)) rfl ?_)
    refine op (y (x_move rfl) rfl ?_)
    refine op (y (x_eql rfl rfl) rfl ?_)
    refine nil ?_
    refine n_then ?_
    refine cond rfl (fun h4 => ?_) (fun h4 => ?_)
    · try simp only [decide_eq_true_eq, decide_eq_false_iff_not, beq_iff_eq, bne_iff_ne, ne_eq, beq_eq_false_iff_ne, bne_eq_false_iff_eq, Bool.not_eq_true', Bool.not_eq_false', Bool.not_eq_true, Bool.not_eq_false, Decidable.not_not, Int.not_lt, Int.not_le] at h4
      refine seq ?_
      refine region ?_
      refine op (y (x_assign rfl) rfl ?_)
      refine nil ?_
      refine n_then ?_
      refine ret ?_
      refine r_in ?_
      refine r_then ?_
      refine r_then ?_
      refine r_in ?_
      refine r_then ?_
      exact done rfl (.tmp rfl (.nil)) (Ro.le.refl _) (L) (⟨_, .refl _, .refl _⟩) (⟨by rw [decide_eq_true]; rfl; exact List.mem_of_getElem? (i := k) (by rw [hx, h4]), rfl, rfl⟩)
    · try simp only [decide_eq_true_eq, decide_eq_false_iff_not, beq_iff_eq, bne_iff_ne, ne_eq, beq_eq_false_iff_ne, bne_eq_false_iff_eq, Bool.not_eq_true', Bool.not_eq_false', Bool.not_eq_true, Bool.not_eq_false, Decidable.not_not, Int.not_lt, Int.not_le] at h4
      refine skip ?_
      refine n_in ?_
      refine n_then ?_
      refine region ?_
      refine op (y (x_move rfl) rfl ?_)
      refine op (y (x_add rfl rfl _ (wr (by omega) (by omega))) rfl ?_)
      refine op (y (x_assign rfl) rfl ?_)
      refine nil ?_
      exact round (l.length - (k + 1)) [(0, .slice _ l.length cap), (1, .int .i64 a), (5, .int .i64 ((k + 1) : Nat))] (by omega) ⟨rfl, rfl, rfl, trivial⟩ ⟨k + 1, rfl, rfl, rfl, rfl, by omega, upto (p := fun j => l[j]? ≠ some a) hall (fun e => h4 (by rw [hx] at e; simpa using e))⟩
  · try simp only [decide_eq_true_eq, decide_eq_false_iff_not, beq_iff_eq, bne_iff_ne, ne_eq, beq_eq_false_iff_ne, bne_eq_false_iff_eq, Bool.not_eq_true', Bool.not_eq_false', Bool.not_eq_true, Bool.not_eq_false, Decidable.not_not, Int.not_lt, Int.not_le] at h2
    refine exit ?_
    refine e_then ?_
    refine e_then ?_
    refine e_in ?_
    refine n_then ?_
    refine seq ?_
    refine region ?_
    refine op (y (x_assign rfl) rfl ?_)
    refine nil ?_
    refine n_then ?_
    refine ret ?_
    exact done rfl (.tmp rfl (.nil)) (Ro.le.refl _) (L) (⟨_, .refl _, .refl _⟩) (⟨by rw [decide_eq_false]; rfl; exact not_mem_of (fun j hj => hall j (by omega)), rfl, rfl⟩)

theorem fr_step {E : List Ed} {dn : List Int} {n : Int} {k : Nat} {e : Ed} (h : E[k]? = some e) : (∀ x ∈ E.take (k + 1), x.2.1 = n → x.1 ∈ dn) ↔ (∀ x ∈ E.take k, x.2.1 = n → x.1 ∈ dn) ∧ (e.2.1 = n → e.1 ∈ dn) := by
  rw [take_snoc' h]
  constructor
  · intro h1
    exact ⟨fun x hx => h1 x (List.mem_append_left _ hx), h1 e (List.mem_append_right _ (List.mem_singleton.2 rfl))⟩
  · rintro ⟨h1, h2⟩ x hx
    rcases List.mem_append.1 hx with hx | hx
    · exact h1 x hx
    · rw [List.mem_singleton.1 hx]; exact h2

theorem GTopo_c (N : List Int) (E : List Ed) (A : Option Addr) (cap : Nat) (B : Option Addr) (cap2 : Nat) (ro : Ro) (L : List (List Blk)) (hA : Sl ro 1 encInt A cap N) (hB : Sl ro 3 encEdge B cap2 E) (hn : N.length ≤ 1000) (hne : E.length ≤ 1000) (hNO : ∀ u w, w ∈ Ob E u → u ∈ N) :
    CT Try.prog 68 [gv A N.length cap B E.length cap2].toArray ro L (PT E N L) := by
  have hcapn : N.length ≤ 9223372036854775807 := by omega
  have hcape : E.length ≤ 9223372036854775807 := by omega
  refine enter Try.func68 rfl Try.ntmps68 rfl ?_
  refine seq ?_
  refine region ?_
  refine op (e_box rfl rfl rfl fun b1 => ?_)
  refine op (y (x_assign rfl) rfl ?_)
  refine op (y (x_assign rfl) rfl ?_)
  refine nil ?_
  refine n_then ?_
  refine seq ?_
  refine region ?_
  refine op (y (x_assign rfl) rfl ?_)
  refine nil ?_
  refine n_then ?_
  refine seq ?_
  refine block ?_
  refine emp ?_
  refine loop (fun m F ro' L' => ∃ (dn : List Int) (A4 : Option Addr) (cap4 : Nat) (R4 : List Blk), (m = N.length - dn.length) ∧ (F = [(1, .pointer (some ⟨b1, 0, none⟩)), (4, .slice A4 dn.length cap4)]) ∧ (ro = ro') ∧ (L' = R4 :: [(b1, .cells [.slice A N.length cap, .slice B E.length cap2].toArray 63 (0, 0))] :: L) ∧ (dn.length ≤ N.length) ∧ (topoR (Ob E) N = tgo (Ob E) N (N.length - dn.length) dn) ∧ (OwnS 3 1 A4 dn.length cap4 (dn.flatMap encInt) R4)) (N.length - (([] : List Int)).length) [(1, .pointer (some ⟨b1, 0, none⟩)), (4, .slice none (([] : List Int)).length 0)] ⟨rfl, rfl, trivial⟩ ⟨([] : List Int), none, 0, _, rfl, rfl, rfl, rfl, by simp, rfl, OwnS.none_ 3 1⟩ ?_
  rintro m F ro' L' ⟨dn, A4, cap4, R4, rfl, rfl, rfl, rfl, hdl, htg, hO⟩
  refine seq ?_
  refine seq ?_
  refine region ?_
  refine op (y (x_move rfl) rfl ?_)
  refine op (y (x_lenSl sz_23 rfl) rfl ?_)
  refine op (y (x_fieldAddr fo_63_0 rfl) rfl ?_)
  refine op (y (x_load1 ag_23 rfl (Cell.own 1 rfl rfl)) rfl ?_)
  refine op (y (x_lenSl sz_23 rfl) rfl ?_)
  refine op (y (x_lss rfl rfl) rfl ?_)
  refine nil ?_
  refine n_then ?_
  refine cond rfl (fun h2 => ?_) (fun h2 => ?_)
  · try simp only [decide_eq_true_eq, decide_eq_false_iff_not, beq_iff_eq, bne_iff_ne, ne_eq, beq_eq_false_iff_ne, bne_eq_false_iff_eq, Bool.not_eq_true', Bool.not_eq_false', Bool.not_eq_true, Bool.not_eq_false, Decidable.not_not, Int.not_lt, Int.not_le] at h2
    refine skip ?_
    refine n_then ?_
    refine block ?_
    refine seq ?_
    refine region ?_
    refine op (y (x_assign rfl) rfl ?_)
    refine nil ?_
    refine n_then ?_
    refine seq ?_
    refine seq ?_
    refine region ?_
    refine op (y (x_assign rfl) rfl ?_)
    refine nil ?_
    refine n_then ?_
    refine block ?_
    refine loop (fun m F ro' L' => ∃ (i : Nat) (fd : Bool) (d2 : List Int) (A4 : Option Addr) (cap4 : Nat) (R4 : List Blk), (m = N.length - i) ∧ (F = [(1, .pointer (some ⟨b1, 0, none⟩)), (4, .slice A4 d2.length cap4), (5, .bool fd), (6, .int .i64 (i : Nat))]) ∧ (ro = ro') ∧ (L' = R4 :: [(b1, .cells [.slice A N.length cap, .slice B E.length cap2].toArray 63 (0, 0))] :: L) ∧ (i ≤ N.length) ∧ ((fd = false ∧ d2 = dn ∧ ∀ j : Nat, j < i → ∀ a, N[j]? = some a → tfree (Ob E) N dn a = false) ∨ (fd = true ∧ ∃ n, tpick (Ob E) N dn = some n ∧ d2 = dn ++ [n])) ∧ (OwnS 3 1 A4 d2.length cap4 (d2.flatMap encInt) R4)) (N.length - 0) [(1, .pointer (some ⟨b1, 0, none⟩)), (4, .slice _ dn.length _), (5, .bool false), (6, .int .i64 (0 : Nat))] ⟨rfl, rfl, rfl, rfl, trivial⟩ ⟨0, false, dn, _, _, _, rfl, rfl, rfl, rfl, by omega, .inl ⟨rfl, rfl, by intro j hj; omega⟩, hO⟩ ?_
    rintro m F ro' L' ⟨i, fd, d2, A4, cap4, R4, rfl, rfl, rfl, rfl, hi, hfd, hO⟩
    refine seq ?_
    refine seq ?_
    refine region ?_
    refine op (y (x_move rfl) rfl ?_)
    refine op (y (x_fieldAddr fo_63_0 rfl) rfl ?_)
    refine op (y (x_load1 ag_23 rfl (Cell.own 1 rfl rfl)) rfl ?_)
    refine op (y (x_lenSl sz_23 rfl) rfl ?_)
    refine op (y (x_lss rfl rfl) rfl ?_)
    refine op (y (x_move rfl) rfl ?_)
    refine bsplit 21 rfl (fun g21 => ?_) (fun g21 => ?_)
    · try simp only [decide_eq_true_eq, decide_eq_false_iff_not, beq_iff_eq, bne_iff_ne, ne_eq, beq_eq_false_iff_ne, bne_eq_false_iff_eq, Bool.not_eq_true', Bool.not_eq_false', Bool.not_eq_true, Bool.not_eq_false, Decidable.not_not, Int.not_lt, Int.not_le] at g21
      refine opG rfl rfl (y (x_move rfl) rfl ?_)
      refine opG rfl rfl (y (x_not rfl) rfl ?_)
      refine op (y (x_pickT rfl rfl) rfl ?_)
      refine nil ?_
      refine n_then ?_
      refine cond rfl (fun h5 => ?_) (fun h5 => ?_)
      · try simp only [decide_eq_true_eq, decide_eq_false_iff_not, beq_iff_eq, bne_iff_ne, ne_eq, beq_eq_false_iff_ne, bne_eq_false_iff_eq, Bool.not_eq_true', Bool.not_eq_false', Bool.not_eq_true, Bool.not_eq_false, Decidable.not_not, Int.not_lt, Int.not_le] at h5
        refine skip ?_
        refine n_then ?_
        refine seqM (fun F ro' L' => ∃ (fd : Bool) (d2 : List Int) (A4 : Option Addr) (cap4 : Nat) (R4 : List Blk), (F = [(1, .pointer (some ⟨b1, 0, none⟩)), (4, .slice A4 d2.length cap4), (5, .bool fd), (6, .int .i64 (i : Nat))]) ∧ (ro = ro') ∧ (L' = R4 :: [(b1, .cells [.slice A N.length cap, .slice B E.length cap2].toArray 63 (0, 0))] :: L) ∧ (i < N.length) ∧ ((fd = false ∧ d2 = dn ∧ ∀ j : Nat, j < i + 1 → ∀ a, N[j]? = some a → tfree (Ob E) N dn a = false) ∨ (fd = true ∧ ∃ n, tpick (Ob E) N dn = some n ∧ d2 = dn ++ [n])) ∧ (OwnS 3 1 A4 d2.length cap4 (d2.flatMap encInt) R4)) ?_ ?_
        · skip
          refine block ?_
          refine seq ?_
          have hil : i < N.length := by omega
          have hf0 : fd = false := by simpa using h5
          obtain ⟨rfl, hall⟩ : dn = d2 ∧ ∀ j : Nat, j < i → ∀ a, N[j]? = some a → tfree (Ob E) N dn a = false := by
            rcases hfd with ⟨_, h1, h2⟩ | ⟨h1, _⟩
            · exact ⟨h1.symm, h2⟩
            · rw [hf0] at h1; cases h1
          subst hf0
          obtain ⟨bbx, offx, rfl, hcx⟩ := hA.at_ (i := i) (by omega)
          have hx := List.getElem?_eq_getElem (show i < N.length from by omega)
          have cx0 := hcx i _ hx 0 _ rfl
          refine region ?_
          refine op (y (x_fieldAddr fo_63_0 rfl) rfl ?_)
          refine op (y (x_load1 ag_23 rfl (Cell.own 1 rfl rfl)) rfl ?_)
          refine op (y (x_move rfl) rfl ?_)
          refine op (y (x_indexNat sz_23 rfl rfl (by omega)) rfl ?_)
          refine op (y (x_load1 ag_3 rfl (by first | assumption | exact Cell.own 0 rfl rfl | exact Cell.own 1 rfl rfl | exact Cell.own 2 rfl rfl | exact Cell.own 3 rfl rfl | exact Cell.own 4 rfl rfl | exact Cell.own 5 rfl rfl | exact Cell.ofRo (by assumption))) rfl ?_)
          refine op (y (x_assign rfl) rfl ?_)
          refine nil ?_
          refine n_then ?_
          refine seq ?_
          refine region ?_
          refine op (y (x_move rfl) rfl ?_)
          refine op (y (x_move rfl) rfl ?_)
          refine op (e_call rfl fn_99 rfl rfl (GinO_c dn A4 cap4 R4 N[i] _ _ hO (fun z hz => mem0 hz) (by omega)) fun v34 ro34 L34 hle34 hp34 => ?_)
          obtain ⟨rfl, rfl, rfl⟩ := hp34
          refine op (y (x_not rfl) rfl ?_)
          refine op (y (x_assign rfl) rfl ?_)
          refine nil ?_
          refine n_then ?_
          refine seq ?_
          refine seq ?_
          refine region ?_
          refine op (y (x_assign rfl) rfl ?_)
          refine nil ?_
          refine n_then ?_
          refine block ?_
          refine loop (fun m F ro' L' => ∃ (k : Nat) (fr : Bool), (m = E.length - k) ∧ (F = [(1, .pointer (some ⟨b1, 0, none⟩)), (4, .slice A4 dn.length cap4), (5, .bool false), (6, .int .i64 (i : Nat)), (7, .int .i64 N[i]), (8, .bool fr), (9, .int .i64 (k : Nat))]) ∧ (ro = ro') ∧ (L' = R4 :: [(b1, .cells [.slice (some ⟨bbx, offx, none⟩) N.length cap, .slice B E.length cap2].toArray 63 (0, 0))] :: L) ∧ (k ≤ E.length) ∧ (fr = true ↔ N[i] ∉ dn ∧ ∀ e ∈ E.take k, e.2.1 = N[i] → e.1 ∈ dn)) (E.length - 0) [(1, .pointer (some ⟨b1, 0, none⟩)), (4, .slice A4 dn.length cap4), (5, .bool false), (6, .int .i64 (i : Nat)), (7, .int .i64 N[i]), (8, .bool ((!decide (N[i] ∈ dn)))), (9, .int .i64 (0 : Nat))] ⟨rfl, rfl, rfl, rfl, rfl, rfl, rfl, trivial⟩ ⟨0, (!decide (N[i] ∈ dn)), rfl, rfl, rfl, rfl, by omega, by simp⟩ ?_
          rintro m F ro' L' ⟨k, fr, rfl, rfl, rfl, rfl, hk, hfr⟩
          refine seq ?_
          refine seq ?_
          refine region ?_
          refine op (y (x_move rfl) rfl ?_)
          refine op (y (x_fieldAddr fo_63_1 rfl) rfl ?_)
          refine op (y (x_load1 ag_61 rfl (Cell.own 1 rfl rfl)) rfl ?_)
          refine op (y (x_lenSl sz_61 rfl) rfl ?_)
          refine op (y (x_lss rfl rfl) rfl ?_)
          refine nil ?_
          refine n_then ?_
          refine cond rfl (fun h10 => ?_) (fun h10 => ?_)
          · try simp only [decide_eq_true_eq, decide_eq_false_iff_not, beq_iff_eq, bne_iff_ne, ne_eq, beq_eq_false_iff_ne, bne_eq_false_iff_eq, Bool.not_eq_true', Bool.not_eq_false', Bool.not_eq_true, Bool.not_eq_false, Decidable.not_not, Int.not_lt, Int.not_le] at h10
            refine skip ?_
            refine n_then ?_
            refine seqM (fun F ro' L' => ∃ (fr : Bool), (F = [(1, .pointer (some ⟨b1, 0, none⟩)), (4, .slice A4 dn.length cap4), (5, .bool false), (6, .int .i64 (i : Nat)), (7, .int .i64 N[i]), (8, .bool fr), (9, .int .i64 (k : Nat))]) ∧ (ro = ro') ∧ (L' = R4 :: [(b1, .cells [.slice (some ⟨bbx, offx, none⟩) N.length cap, .slice B E.length cap2].toArray 63 (0, 0))] :: L) ∧ (k < E.length) ∧ (fr = true ↔ N[i] ∉ dn ∧ ∀ e ∈ E.take (k + 1), e.2.1 = N[i] → e.1 ∈ dn)) ?_ ?_
            · skip
              refine block ?_
              refine seq ?_
              obtain ⟨bbz, offz, rfl, hcz⟩ := hB.at_ (i := k) (by omega)
              have hz := List.getElem?_eq_getElem (show k < E.length from by omega)
              have cz0 := hcz k _ hz 0 _ rfl
              have cz1 := hcz k _ hz 1 _ rfl
              refine region ?_
              refine op (y (x_fieldAddr fo_63_1 rfl) rfl ?_)
              refine op (y (x_load1 ag_61 rfl (Cell.own 1 rfl rfl)) rfl ?_)
              refine op (y (x_move rfl) rfl ?_)
              refine op (y (x_indexNat sz_61 rfl rfl (by omega)) rfl ?_)
              refine op (y (x_fieldAddr fo_87_1 rfl) rfl ?_)
              refine op (y (x_load1 ag_3 rfl (by first | assumption | exact Cell.own 0 rfl rfl | exact Cell.own 1 rfl rfl | exact Cell.own 2 rfl rfl | exact Cell.own 3 rfl rfl | exact Cell.own 4 rfl rfl | exact Cell.own 5 rfl rfl | exact Cell.ofRo (by assumption))) rfl ?_)
              refine op (y (x_move rfl) rfl ?_)
              refine op (y (x_eql rfl rfl) rfl ?_)
              refine op (y (x_move rfl) rfl ?_)
              refine bsplit 51 rfl (fun g51 => ?_) (fun g51 => ?_)
              · try simp only [decide_eq_true_eq, decide_eq_false_iff_not, beq_iff_eq, bne_iff_ne, ne_eq, beq_eq_false_iff_ne, bne_eq_false_iff_eq, Bool.not_eq_true', Bool.not_eq_false', Bool.not_eq_true, Bool.not_eq_false, Decidable.not_not, Int.not_lt, Int.not_le] at g51
                refine opG rfl rfl (y (x_move rfl) rfl ?_)
                refine opG rfl rfl (y (x_fieldAddr fo_63_1 rfl) rfl ?_)
                refine opG rfl rfl (y (x_load1 ag_61 rfl (Cell.own 1 rfl rfl)) rfl ?_)
                refine opG rfl rfl (y (x_move rfl) rfl ?_)
                refine opG rfl rfl (y (x_indexNat sz_61 rfl rfl (by omega)) rfl ?_)
                refine opG rfl rfl (y (x_fieldAddr fo_87_0 rfl) rfl ?_)
                refine opG rfl rfl (y (x_load1 ag_3 rfl (by first | assumption | exact Cell.own 0 rfl rfl | exact Cell.own 1 rfl rfl | exact Cell.own 2 rfl rfl | exact Cell.own 3 rfl rfl | exact Cell.own 4 rfl rfl | exact Cell.own 5 rfl rfl | exact Cell.ofRo (by assumption))) rfl ?_)
                refine opG rfl rfl (e_call rfl fn_99 rfl rfl (GinO_c dn A4 cap4 R4 E[k].1 _ _ hO (fun z hz => mem0 hz) (by omega)) fun v59 ro59 L59 hle59 hp59 => ?_)
                obtain ⟨rfl, rfl, rfl⟩ := hp59
                refine opG rfl rfl (y (x_not rfl) rfl ?_)
                refine op (y (x_pickT rfl rfl) rfl ?_)
                refine nil ?_
                refine n_then ?_
                refine cond rfl (fun h12 => ?_) (fun h12 => ?_)
                · try simp only [decide_eq_true_eq, decide_eq_false_iff_not, beq_iff_eq, bne_iff_ne, ne_eq, beq_eq_false_iff_ne, bne_eq_false_iff_eq, Bool.not_eq_true', Bool.not_eq_false', Bool.not_eq_true, Bool.not_eq_false, Decidable.not_not, Int.not_lt, Int.not_le] at h12
                  refine region ?_
                  refine op (y (x_assign rfl) rfl ?_)
                  refine nil ?_
                  refine n_in ?_
                  exact mid [(1, .pointer (some ⟨b1, 0, none⟩)), (4, .slice A4 dn.length cap4), (5, .bool false), (6, .int .i64 (i : Nat)), (7, .int .i64 N[i]), (8, .bool false), (9, .int .i64 (k : Nat))] ⟨rfl, rfl, rfl, rfl, rfl, rfl, rfl, trivial⟩ ⟨false, rfl, rfl, rfl, by omega, by
                      rw [fr_step hz]
                      constructor
                      · intro h; cases h
                      · rintro ⟨_, _, h⟩
                        exact absurd (h (by assumption)) (by assumption)⟩
                · try simp only [decide_eq_true_eq, decide_eq_false_iff_not, beq_iff_eq, bne_iff_ne, ne_eq, beq_eq_false_iff_ne, bne_eq_false_iff_eq, Bool.not_eq_true', Bool.not_eq_false', Bool.not_eq_true, Bool.not_eq_false, Decidable.not_not, Int.not_lt, Int.not_le] at h12
                  refine skip ?_
                  refine n_in ?_
                  exact mid [(1, .pointer (some ⟨b1, 0, none⟩)), (4, .slice A4 dn.length cap4), (5, .bool false), (6, .int .i64 (i : Nat)), (7, .int .i64 N[i]), (8, .bool fr), (9, .int .i64 (k : Nat))] ⟨rfl, rfl, rfl, rfl, rfl, rfl, rfl, trivial⟩ ⟨fr, rfl, rfl, rfl, by omega, by
                      rw [fr_step hz, ← and_assoc, ← hfr]
                      refine ⟨fun h => ⟨h, fun e => ?_⟩, fun h => h.1⟩
                      first
                      | assumption
                      | exact absurd e (by assumption)⟩
              · try simp only [decide_eq_true_eq, decide_eq_false_iff_not, beq_iff_eq, bne_iff_ne, ne_eq, beq_eq_false_iff_ne, bne_eq_false_iff_eq, Bool.not_eq_true', Bool.not_eq_false', Bool.not_eq_true, Bool.not_eq_false, Decidable.not_not, Int.not_lt, Int.not_le] at g51
                refine opN rfl rfl rfl rfl ?_
                refine opN rfl rfl rfl rfl ?_
                refine opN rfl rfl rfl rfl ?_
                refine opN rfl rfl rfl rfl ?_
                refine opN rfl rfl rfl rfl ?_
                refine opN rfl rfl rfl rfl ?_
                refine opN rfl rfl rfl rfl ?_
                refine opN rfl rfl rfl rfl ?_
                refine opN rfl rfl rfl rfl ?_
                refine op (y (x_pickF rfl rfl) rfl ?_)
                refine nil ?_
                refine n_then ?_
                refine condF rfl ?_
                refine skip ?_
                refine n_in ?_
                exact mid [(1, .pointer (some ⟨b1, 0, none⟩)), (4, .slice A4 dn.length cap4), (5, .bool false), (6, .int .i64 (i : Nat)), (7, .int .i64 N[i]), (8, .bool fr), (9, .int .i64 (k : Nat))] ⟨rfl, rfl, rfl, rfl, rfl, rfl, rfl, trivial⟩ ⟨fr, rfl, rfl, rfl, by omega, by
                    rw [fr_step hz, ← and_assoc, ← hfr]
                    refine ⟨fun h => ⟨h, fun e => ?_⟩, fun h => h.1⟩
                    first
                    | assumption
                    | exact absurd e (by assumption)⟩
            · rintro F ro' L' ⟨fr, rfl, rfl, rfl, hkl, hfr2⟩
              refine region ?_
              refine op (y (x_move rfl) rfl ?_)
              refine op (y (x_add rfl rfl _ (wr (by omega) (by omega))) rfl ?_)
              refine op (y (x_assign rfl) rfl ?_)
              refine nil ?_
              exact round (E.length - (k + 1)) [(1, .pointer (some ⟨b1, 0, none⟩)), (4, .slice A4 dn.length cap4), (5, .bool false), (6, .int .i64 (i : Nat)), (7, .int .i64 N[i]), (8, .bool fr), (9, .int .i64 ((k + 1) : Nat))] (by omega) ⟨rfl, rfl, rfl, rfl, rfl, rfl, rfl, trivial⟩ ⟨k + 1, fr, rfl, rfl, rfl, rfl, by omega, hfr2⟩
          · try simp only [decide_eq_true_eq, decide_eq_false_iff_not, beq_iff_eq, bne_iff_ne, ne_eq, beq_eq_false_iff_ne, bne_eq_false_iff_eq, Bool.not_eq_true', Bool.not_eq_false', Bool.not_eq_true, Bool.not_eq_false, Decidable.not_not, Int.not_lt, Int.not_le] at h10
            refine exit ?_
            refine e_then ?_
            refine e_then ?_
            refine e_in ?_
            refine n_then ?_
            refine seq ?_
            obtain rfl : k = E.length := by omega
            rw [List.take_length] at hfr
            have hfr := (tfree_iff hNO N[i]).trans hfr.symm
            refine region ?_
            refine op (y (x_move rfl) rfl ?_)
            refine nil ?_
            refine n_then ?_
            refine cond rfl (fun h14 => ?_) (fun h14 => ?_)
            · try simp only [decide_eq_true_eq, decide_eq_false_iff_not, beq_iff_eq, bne_iff_ne, ne_eq, beq_eq_false_iff_ne, bne_eq_false_iff_eq, Bool.not_eq_true', Bool.not_eq_false', Bool.not_eq_true, Bool.not_eq_false, Decidable.not_not, Int.not_lt, Int.not_le] at h14
              refine seq ?_
              refine region ?_
              refine op (y (x_move rfl) rfl ?_)
              refine op (y (x_move rfl) rfl ?_)
              refine op (e_slice1 rfl Try.underlying23 ti_3 rfl rfl (by decide) (by decide) rfl rfl rfl fun b65 => ?_)
              refine op (e_append1 0 rfl st_23 rfl rfl rfl hO rfl rfl (by omega) (by omega) (fun _ => rfl) fun A66 cap66 R66 hO66 => ?_)
              refine op (y (x_assign rfl) rfl ?_)
              refine nil ?_
              refine n_then ?_
              refine region ?_
              refine op (y (x_assign rfl) rfl ?_)
              refine nil ?_
              refine n_in ?_
              have hdl2 : (dn ++ [N[i]]).length = dn.length + 1 := by simp
              rw [← hdl2] at hO66 ⊢
              exact mid [(1, .pointer (some ⟨b1, 0, none⟩)), (4, .slice _ ((dn ++ [N[i]])).length _), (5, .bool true), (6, .int .i64 (i : Nat))] ⟨rfl, rfl, rfl, rfl, trivial⟩ ⟨true, (dn ++ [N[i]]), _, _, _, rfl, rfl, rfl, by omega, .inr ⟨rfl, N[i], find_at hall hx (hfr.2 h14), rfl⟩, hO66.snoc⟩
            · try simp only [decide_eq_true_eq, decide_eq_false_iff_not, beq_iff_eq, bne_iff_ne, ne_eq, beq_eq_false_iff_ne, bne_eq_false_iff_eq, Bool.not_eq_true', Bool.not_eq_false', Bool.not_eq_true, Bool.not_eq_false, Decidable.not_not, Int.not_lt, Int.not_le] at h14
              refine skip ?_
              refine n_in ?_
              exact mid [(1, .pointer (some ⟨b1, 0, none⟩)), (4, .slice _ dn.length _), (5, .bool false), (6, .int .i64 (i : Nat))] ⟨rfl, rfl, rfl, rfl, trivial⟩ ⟨false, dn, _, _, _, rfl, rfl, rfl, by omega, .inl ⟨rfl, rfl, upto (p := fun j => ∀ a, N[j]? = some a → tfree (Ob E) N dn a = false) hall (fun a e => by
                    rw [hx] at e; cases e
                    cases hf : tfree (Ob E) N dn N[i] with
                    | false => rfl
                    | true => rw [hfr.1 hf] at h14; cases h14)⟩, hO⟩
        · rintro F ro' L' ⟨fd, d2, A4, cap4, R4, rfl, rfl, rfl, hil, hfd, hO⟩
          refine region ?_
          refine op (y (x_move rfl) rfl ?_)
          refine op (y (x_add rfl rfl _ (wr (by omega) (by omega))) rfl ?_)
          refine op (y (x_assign rfl) rfl ?_)
          refine nil ?_
          exact round (N.length - (i + 1)) [(1, .pointer (some ⟨b1, 0, none⟩)), (4, .slice _ d2.length _), (5, .bool fd), (6, .int .i64 ((i + 1) : Nat))] (by omega) ⟨rfl, rfl, rfl, rfl, trivial⟩ ⟨i + 1, fd, d2, _, _, _, rfl, rfl, rfl, rfl, by omega, hfd, hO⟩
      · try simp only [decide_eq_true_eq, decide_eq_false_iff_not, beq_iff_eq, bne_iff_ne, ne_eq, beq_eq_false_iff_ne, bne_eq_false_iff_eq, Bool.not_eq_true', Bool.not_eq_false', Bool.not_eq_true, Bool.not_eq_false, Decidable.not_not, Int.not_lt, Int.not_le] at h5
        refine exit ?_
        refine e_then ?_
        refine e_then ?_
        refine e_in ?_
        refine n_then ?_
        refine seq ?_
        refine region ?_
        refine op (y (x_move rfl) rfl ?_)
        refine op (y (x_not rfl) rfl ?_)
        refine nil ?_
        refine n_then ?_
        refine cond rfl (fun h17 => ?_) (fun h17 => ?_)
        · try simp only [decide_eq_true_eq, decide_eq_false_iff_not, beq_iff_eq, bne_iff_ne, ne_eq, beq_eq_false_iff_ne, bne_eq_false_iff_eq, Bool.not_eq_true', Bool.not_eq_false', Bool.not_eq_true, Bool.not_eq_false, Decidable.not_not, Int.not_lt, Int.not_le] at h17
          refine seq ?_
          refine region ?_
          refine op (y (x_assign rfl) rfl ?_)
          refine op (y (x_assign rfl) rfl ?_)
          refine nil ?_
          refine n_then ?_
          refine ret ?_
          refine r_in ?_
          refine r_then ?_
          refine r_in ?_
          refine r_then ?_
          have hpn : tpick (Ob E) N dn = none := by
            rcases hfd with ⟨_, _, hall⟩ | ⟨h, _⟩
            · exact find_no (fun j hj c hc => hall j (by first | omega | (simp_all; done)) c hc)
            · rw [h] at h17; cases h17
          obtain ⟨ll, hll⟩ : ∃ z, N.length - dn.length = z + 1 := ⟨N.length - dn.length - 1, by omega⟩
          have htn : topoR (Ob E) N = none := by rw [htg, hll]; simp only [tgo, hpn]
          refine drop0 ?_
          refine drop0 ?_
          refine emp ?_
          exact done rfl (.tmp rfl (.tmp rfl (.nil))) (Ro.le.refl _) (_) (⟨_, .refl _, .refl _⟩) (⟨none, 0, [], rfl, .inl ⟨htn, rfl, OwnS.none_ 3 1⟩⟩)
        · try simp only [decide_eq_true_eq, decide_eq_false_iff_not, beq_iff_eq, bne_iff_ne, ne_eq, beq_eq_false_iff_ne, bne_eq_false_iff_eq, Bool.not_eq_true', Bool.not_eq_false', Bool.not_eq_true, Bool.not_eq_false, Decidable.not_not, Int.not_lt, Int.not_le] at h17
          refine skip ?_
          refine n_in ?_
          obtain ⟨nn, hpn, rfl⟩ : ∃ n, tpick (Ob E) N dn = some n ∧ d2 = dn ++ [n] := by
            rcases hfd with ⟨h, _⟩ | ⟨_, h⟩
            · rw [h] at h17; simp at h17
            · exact h
          have hdl2 : (dn ++ [nn]).length = dn.length + 1 := by simp
          exact round (N.length - ((dn ++ [nn])).length) [(1, .pointer (some ⟨b1, 0, none⟩)), (4, .slice _ ((dn ++ [nn])).length _)] (by rw [hdl2]; omega) ⟨rfl, rfl, trivial⟩ ⟨(dn ++ [nn]), _, _, _, rfl, rfl, rfl, rfl, by rw [hdl2]; omega, by
              rw [htg, show N.length - dn.length = (N.length - (dn ++ [nn]).length) + 1 by rw [hdl2]; omega]
              simp only [tgo, hpn], hO⟩
    · try simp only [decide_eq_true_eq, decide_eq_false_iff_not, beq_iff_eq, bne_iff_ne, ne_eq, beq_eq_false_iff_ne, bne_eq_false_iff_eq, Bool.not_eq_true', Bool.not_eq_false', Bool.not_eq_true, Bool.not_eq_false, Decidable.not_not, Int.not_lt, Int.not_le] at g21
      refine opN rfl rfl rfl rfl ?_
      refine opN rfl rfl rfl rfl ?_
      refine op (y (x_pickF rfl rfl) rfl ?_)
      refine nil ?_
      refine n_then ?_
      refine condF rfl ?_
      refine exit ?_
      refine e_then ?_
      refine e_then ?_
      refine e_in ?_
      refine n_then ?_
      refine seq ?_
      refine region ?_
      refine op (y (x_move rfl) rfl ?_)
      refine op (y (x_not rfl) rfl ?_)
      refine nil ?_
      refine n_then ?_
      refine cond rfl (fun h17 => ?_) (fun h17 => ?_)
      · try simp only [decide_eq_true_eq, decide_eq_false_iff_not, beq_iff_eq, bne_iff_ne, ne_eq, beq_eq_false_iff_ne, bne_eq_false_iff_eq, Bool.not_eq_true', Bool.not_eq_false', Bool.not_eq_true, Bool.not_eq_false, Decidable.not_not, Int.not_lt, Int.not_le] at h17
        refine seq ?_
        refine region ?_
        refine op (y (x_assign rfl) rfl ?_)
        refine op (y (x_assign rfl) rfl ?_)
        refine nil ?_
        refine n_then ?_
        refine ret ?_
        refine r_in ?_
        refine r_then ?_
        refine r_in ?_
        refine r_then ?_
        have hpn : tpick (Ob E) N dn = none := by
          rcases hfd with ⟨_, _, hall⟩ | ⟨h, _⟩
          · exact find_no (fun j hj c hc => hall j (by first | omega | (simp_all; done)) c hc)
          · rw [h] at h17; cases h17
        obtain ⟨ll, hll⟩ : ∃ z, N.length - dn.length = z + 1 := ⟨N.length - dn.length - 1, by omega⟩
        have htn : topoR (Ob E) N = none := by rw [htg, hll]; simp only [tgo, hpn]
        refine drop0 ?_
        refine drop0 ?_
        refine emp ?_
        exact done rfl (.tmp rfl (.tmp rfl (.nil))) (Ro.le.refl _) (_) (⟨_, .refl _, .refl _⟩) (⟨none, 0, [], rfl, .inl ⟨htn, rfl, OwnS.none_ 3 1⟩⟩)
      · try simp only [decide_eq_true_eq, decide_eq_false_iff_not, beq_iff_eq, bne_iff_ne, ne_eq, beq_eq_false_iff_ne, bne_eq_false_iff_eq, Bool.not_eq_true', Bool.not_eq_false', Bool.not_eq_true, Bool.not_eq_false, Decidable.not_not, Int.not_lt, Int.not_le] at h17
        refine skip ?_
        refine n_in ?_
        obtain ⟨nn, hpn, rfl⟩ : ∃ n, tpick (Ob E) N dn = some n ∧ d2 = dn ++ [n] := by
          rcases hfd with ⟨h, _⟩ | ⟨_, h⟩
          · rw [h] at h17; simp at h17
          · exact h
        have hdl2 : (dn ++ [nn]).length = dn.length + 1 := by simp
        exact round (N.length - ((dn ++ [nn])).length) [(1, .pointer (some ⟨b1, 0, none⟩)), (4, .slice _ ((dn ++ [nn])).length _)] (by rw [hdl2]; omega) ⟨rfl, rfl, trivial⟩ ⟨(dn ++ [nn]), _, _, _, rfl, rfl, rfl, rfl, by rw [hdl2]; omega, by
            rw [htg, show N.length - dn.length = (N.length - (dn ++ [nn]).length) + 1 by rw [hdl2]; omega]
            simp only [tgo, hpn], hO⟩
  · try simp only [decide_eq_true_eq, decide_eq_false_iff_not, beq_iff_eq, bne_iff_ne, ne_eq, beq_eq_false_iff_ne, bne_eq_false_iff_eq, Bool.not_eq_true', Bool.not_eq_false', Bool.not_eq_true, Bool.not_eq_false, Decidable.not_not, Int.not_lt, Int.not_le] at h2
    refine exit ?_
    refine e_then ?_
    refine e_then ?_
    refine e_in ?_
    refine n_then ?_
    refine seq ?_
    refine region ?_
    refine op (y (x_move rfl) rfl ?_)
    refine op (y (x_assign rfl) rfl ?_)
    refine op (y (x_assign rfl) rfl ?_)
    refine nil ?_
    refine n_then ?_
    refine ret ?_
    have htn : topoR (Ob E) N = some dn := by rw [htg, show N.length - dn.length = 0 by omega]; rfl
    refine drop1 ?_
    exact done rfl (.tmp rfl (.tmp rfl (.nil))) (Ro.le.refl _) (_) (⟨_, .refl _, .refl _⟩) (⟨A4, cap4, R4, rfl, .inr ⟨dn, htn, by omega, rfl, hO⟩⟩)

end Go.Proofs.Ytlmeblhcipkgmaa
