/- The walk of the statement on the cycle. -/
import Derived.Test.YtlmeblhcipkgmaaG17
import Derived.Test.YtlmeblhcipkgmaaU25
namespace Go.Proofs.Ytlmeblhcipkgmaa
open Go Go.U
set_option maxRecDepth 20000
set_option linter.unusedSimpArgs false
set_option linter.unusedVariables false

open Go.RowKit
/-- where a node stands -/
def Pl (l : List Int) (n : Int) (i : Int) : Prop := (i = -1 ∧ n ∉ l) ∨ ∃ k : Nat, i = k ∧ l[k]? = some n ∧ ∀ j : Nat, j < k → l[j]? ≠ some n
theorem Pl.of {l : List Int} (hn : l.Nodup) {n i : Int} (h : Pl l n i) {k : Nat} (hk : l[k]? = some n) : i = k := by
  rcases h with ⟨_, h⟩ | ⟨q, rfl, h1, _⟩
  · exact absurd (List.mem_of_getElem? hk) h
  · rw [nodup_get hn h1 hk]
theorem Pl.ge {l : List Int} {n i : Int} (h : Pl l n i) (hm : n ∈ l) : 0 ≤ i := by
  rcases h with ⟨_, h⟩ | ⟨q, rfl, h1, _⟩
  · exact absurd hm h
  · omega
theorem Pl.iff {l : List Int} {n i : Int} (h : Pl l n i) : 0 ≤ i ↔ n ∈ l := by
  rcases h with ⟨rfl, h⟩ | ⟨q, rfl, h1, _⟩
  · exact ⟨fun h => by omega, fun h2 => absurd h2 h⟩
  · exact ⟨fun _ => List.mem_of_getElem? h1, fun _ => by omega⟩
def PPl (l : List Int) (n : Int) (ro : Ro) (L : List (List Blk)) : Value → Ro → List (List Blk) → Prop := fun v ro' L' => ∃ i : Int, v = .int .i64 i ∧ Pl l n i ∧ ro = ro' ∧ L = L'
theorem InS.sl {ps : List (List Int)} {vs : List Value} {RI : List Blk} (h : InS ps vs RI) {ro' : Ro} (hR : ∀ q ∈ RI, ro'.cells q.1 = some q.2) {i : Nat} {p : List Int} (hp : ps[i]? = some p) : ∃ A, vs[i]? = some (.slice A p.length p.length) ∧ Sl ro' 1 encInt A p.length p := by
  obtain ⟨T, rfl, rfl, rfl, h4⟩ := h
  rw [List.getElem?_map, Option.map_eq_some_iff] at hp
  obtain ⟨t, ht, rfl⟩ := hp
  have htm := List.mem_of_getElem? ht
  exact ⟨t.2.1, by rw [List.getElem?_map, ht]; rfl, OwnS.sl (h4 t htm) (fun _ _ => rfl) (fun q hq => hR q (List.mem_flatMap.2 ⟨t, htm, hq⟩))⟩
theorem OwnS.vals {e : Nat} {A : Option Addr} {m cap : Nat} {vs : List Value} {R : List Blk} (h : OwnS e 1 A m cap vs R) (hl : vs.length = m) {ro' : Ro} (hR : ∀ q ∈ R, ro'.cells q.1 = some q.2) : Sl ro' 1 (fun v : Value => [v]) A cap vs := by
  subst hl
  exact OwnS.sl (enc := fun v : Value => [v]) (by rw [flatMap_one, List.map_id']; exact h) (fun _ _ => rfl) hR
theorem kinds_nil {E : List Ed} {a b : Int} : (kindsR E a b).length = 0 ↔ b ∉ Ob E a := by
  rw [mem_Ob]
  constructor
  · rintro h ⟨c, hc⟩
    have h1 := ((kindsR_spec E a b).2 c).2 hc
    rw [List.eq_nil_of_length_eq_zero h] at h1; cases h1
  · intro h
    cases hk : kindsR E a b with
    | nil => rfl
    | cons c l => exact absurd ⟨c, ((kindsR_spec E a b).2 c).1 (by rw [hk]; simp)⟩ h
theorem al_step {E : List Ed} {ps : List (List Int)} {i : Nat} {p : List Int} (hp : ps[i]? = some p) : (∀ q ∈ ps.take (i + 1), alone (Ob E) q) ↔ (∀ q ∈ ps.take i, alone (Ob E) q) ∧ alone (Ob E) p := by
  rw [take_snoc' hp]
  constructor
  · intro h
    exact ⟨fun q hq => h q (List.mem_append_left _ hq), h p (List.mem_append_right _ (List.mem_singleton.2 rfl))⟩
  · rintro ⟨h1, h2⟩ q hq
    rcases List.mem_append.1 hq with hq | hq
    · exact h1 q hq
    · rw [List.mem_singleton.1 hq]; exact h2

theorem Place_c (l : List Int) (A : Option Addr) (cap : Nat) (a : Int) (ro : Ro) (L : List (List Blk)) (hl : Sl ro 1 encInt A cap l) :
    CT Try.prog 51 [.slice A l.length cap, .int .i64 a].toArray ro L (PPl l a ro L) := by
  have hcap : l.length ≤ 9223372036854775807 := by have := hl.1; have := hl.2.1; unfold maxLen at this; omega
  refine enter Try.func51 rfl Try.ntmps51 rfl ?_
  refine seq ?_
  refine region ?_
  refine op (y (x_assign rfl) rfl ?_)
  refine nil ?_
  refine n_then ?_
  refine seq ?_
  refine seq ?_
  refine region ?_
  refine op (y (x_assign rfl) rfl ?_)
  refine nil ?_
  refine n_then ?_
  refine block ?_
  refine loop (fun m F ro' L' => ∃ (k : Nat), (m = l.length - k) ∧ (F = [(0, .slice A l.length cap), (1, .int .i64 a), (5, .int .i64 (k : Nat))]) ∧ (ro = ro') ∧ (L = L') ∧ (k ≤ l.length) ∧ (∀ j : Nat, j < k → l[j]? ≠ some a)) (l.length - 0) [(0, .slice A l.length cap), (1, .int .i64 a), (5, .int .i64 (0 : Nat))] ⟨rfl, rfl, rfl, trivial⟩ ⟨0, rfl, rfl, rfl, rfl, by omega, by intro j hj; omega⟩ ?_
  rintro m F ro' L' ⟨k, rfl, rfl, rfl, rfl, hk, hall⟩
  refine seq ?_
  refine seq ?_
  refine region ?_
  refine op (y (x_move rfl) rfl ?_)
  refine op (y (x_move rfl) rfl ?_)
  refine op (y (x_lenSl sz_23 rfl) rfl ?_)
  refine op (y (x_lss rfl rfl) rfl ?_)
  refine nil ?_
  refine n_then ?_
  refine cond rfl (fun h2 => ?_) (fun h2 => ?_)
  · try simp only [decide_eq_true_eq, decide_eq_false_iff_not, beq_iff_eq, bne_iff_ne, ne_eq, beq_eq_false_iff_ne, bne_eq_false_iff_eq, Bool.not_eq_true', Bool.not_eq_false', Bool.not_eq_true, Bool.not_eq_false, Decidable.not_not, Int.not_lt, Int.not_le] at h2
    refine skip ?_
    refine n_then ?_
    refine seq ?_
    refine block ?_
    refine seq ?_
    obtain ⟨bbx, offx, rfl, hcx⟩ := hl.at_ (i := k) (by omega)
    have hx := List.getElem?_eq_getElem (show k < l.length from by omega)
    have cx0 := hcx k _ hx 0 _ rfl
    refine region ?_
    refine op (y (x_move rfl) rfl ?_)
    refine op (y (x_move rfl) rfl ?_)
    refine op (y (x_indexNat sz_23 rfl rfl (by omega)) rfl ?_)
    refine op (y (x_load1 ag_3 rfl (by first | assumption | exact Cell.own 0 rfl rfl | exact Cell.own 1 rfl rfl | exact Cell.own 2 rfl rfl | exact Cell.own 3 rfl rfl | exact Cell.own 4 rfl rfl | exact Cell.own 5 rfl rfl | exact Cell.ofRo (by assumption))) rfl ?_)
    refine op (y (x_move rfl) rfl ?_)
    refine op (y (x_eql rfl rfl) rfl ?_)
    refine nil ?_
    refine n_then ?_
    refine cond rfl (fun h4 => ?_) (fun h4 => ?_)
    · try simp only [decide_eq_true_eq, decide_eq_false_iff_not, beq_iff_eq, bne_iff_ne, ne_eq, beq_eq_false_iff_ne, bne_eq_false_iff_eq, Bool.not_eq_true', Bool.not_eq_false', Bool.not_eq_true, Bool.not_eq_false, Decidable.not_not, Int.not_lt, Int.not_le] at h4
      refine seq ?_
      refine region ?_
      refine op (y (x_move rfl) rfl ?_)
      refine op (y (x_assign rfl) rfl ?_)
      refine nil ?_
      refine n_then ?_
      refine ret ?_
      refine r_in ?_
      refine r_then ?_
      refine r_then ?_
      refine r_in ?_
      refine r_then ?_
      exact done rfl (.tmp rfl (.nil)) (Ro.le.refl _) (L) (⟨_, .refl _, .refl _⟩) (⟨_, rfl, .inr ⟨k, rfl, by rw [hx, h4], hall⟩, rfl, rfl⟩)
    · try simp only [decide_eq_true_eq, decide_eq_false_iff_not, beq_iff_eq, bne_iff_ne, ne_eq, beq_eq_false_iff_ne, bne_eq_false_iff_eq, Bool.not_eq_true', Bool.not_eq_false', Bool.not_eq_true, Bool.not_eq_false, Decidable.not_not, Int.not_lt, Int.not_le] at h4
      refine skip ?_
      refine n_in ?_
      refine n_then ?_
      refine region ?_
      refine op (y (x_move rfl) rfl ?_)
      refine op (y (x_add rfl rfl _ (wr (by omega) (by omega))) rfl ?_)
      refine op (y (x_assign rfl) rfl ?_)
      refine nil ?_
      exact round (l.length - (k + 1)) [(0, .slice _ l.length cap), (1, .int .i64 a), (5, .int .i64 ((k + 1) : Nat))] (by omega) ⟨rfl, rfl, rfl, trivial⟩ ⟨k + 1, rfl, rfl, rfl, rfl, by omega, upto (p := fun j => l[j]? ≠ some a) hall (fun e => h4 (by rw [hx] at e; simpa using e))⟩
  · try simp only [decide_eq_true_eq, decide_eq_false_iff_not, beq_iff_eq, bne_iff_ne, ne_eq, beq_eq_false_iff_ne, bne_eq_false_iff_eq, Bool.not_eq_true', Bool.not_eq_false', Bool.not_eq_true, Bool.not_eq_false, Decidable.not_not, Int.not_lt, Int.not_le] at h2
    refine exit ?_
    refine e_then ?_
    refine e_then ?_
    refine e_in ?_
    refine n_then ?_
    refine seq ?_
    refine region ?_
    refine op (y (x_assign rfl) rfl ?_)
    refine nil ?_
    refine n_then ?_
    refine ret ?_
    exact done rfl (.tmp rfl (.nil)) (Ro.le.refl _) (L) (⟨_, .refl _, .refl _⟩) (⟨_, rfl, .inl ⟨rfl, not_mem_of (fun j hj => hall j (by omega))⟩, rfl, rfl⟩)

theorem PlaceO_c (l : List Int) (A : Option Addr) (cap : Nat) (R : List Blk) (a : Int) (ro : Ro) (L : List (List Blk)) (hO : OwnS 3 1 A l.length cap (l.flatMap encInt) R) (hL : ∀ q ∈ R, q ∈ L.flatten) (hn : l.length ≤ 100000) :
    CT Try.prog 51 [.slice A l.length cap, .int .i64 a].toArray ro L (PPl l a ro L) := by
  refine enter Try.func51 rfl Try.ntmps51 rfl ?_
  refine seq ?_
  refine region ?_
  refine op (y (x_assign rfl) rfl ?_)
  refine nil ?_
  refine n_then ?_
  refine seq ?_
  refine seq ?_
  refine region ?_
  refine op (y (x_assign rfl) rfl ?_)
  refine nil ?_
  refine n_then ?_
  refine block ?_
  refine loop (fun m F ro' L' => ∃ (k : Nat), (m = l.length - k) ∧ (F = [(0, .slice A l.length cap), (1, .int .i64 a), (5, .int .i64 (k : Nat))]) ∧ (ro = ro') ∧ (L = L') ∧ (k ≤ l.length) ∧ (∀ j : Nat, j < k → l[j]? ≠ some a)) (l.length - 0) [(0, .slice A l.length cap), (1, .int .i64 a), (5, .int .i64 (0 : Nat))] ⟨rfl, rfl, rfl, trivial⟩ ⟨0, rfl, rfl, rfl, rfl, by omega, by intro j hj; omega⟩ ?_
  rintro m F ro' L' ⟨k, rfl, rfl, rfl, rfl, hk, hall⟩
  refine seq ?_
  refine seq ?_
  refine region ?_
  refine op (y (x_move rfl) rfl ?_)
  refine op (y (x_move rfl) rfl ?_)
  refine op (y (x_lenSl sz_23 rfl) rfl ?_)
  refine op (y (x_lss rfl rfl) rfl ?_)
  refine nil ?_
  refine n_then ?_
  refine cond rfl (fun h2 => ?_) (fun h2 => ?_)
  · try simp only [decide_eq_true_eq, decide_eq_false_iff_not, beq_iff_eq, bne_iff_ne, ne_eq, beq_eq_false_iff_ne, bne_eq_false_iff_eq, Bool.not_eq_true', Bool.not_eq_false', Bool.not_eq_true, Bool.not_eq_false, Decidable.not_not, Int.not_lt, Int.not_le] at h2
    refine skip ?_
    refine n_then ?_
    refine seq ?_
    refine block ?_
    refine seq ?_
    have hjl : k < l.length := by omega
    obtain ⟨b5, off5, cur5, rfl, rfl, y2, hx, hc5⟩ := OwnS.intAt hO hjl rfl
    refine region ?_
    refine op (y (x_move rfl) rfl ?_)
    refine op (y (x_move rfl) rfl ?_)
    refine op (y (x_indexNat sz_23 rfl rfl (by omega)) rfl ?_)
    refine op (y (x_load1 ag_3 rfl (Cell.blk (hL _ (List.mem_singleton.2 rfl)) hc5)) rfl ?_)
    refine op (y (x_move rfl) rfl ?_)
    refine op (y (x_eql rfl rfl) rfl ?_)
    refine nil ?_
    refine n_then ?_
    refine cond rfl (fun h4 => ?_) (fun h4 => ?_)
    · try simp only [decide_eq_true_eq, decide_eq_false_iff_not, beq_iff_eq, bne_iff_ne, ne_eq, beq_eq_false_iff_ne, bne_eq_false_iff_eq, Bool.not_eq_true', Bool.not_eq_false', Bool.not_eq_true, Bool.not_eq_false, Decidable.not_not, Int.not_lt, Int.not_le] at h4
      refine seq ?_
      refine region ?_
      refine op (y (x_move rfl) rfl ?_)
      refine op (y (x_assign rfl) rfl ?_)
      refine nil ?_
      refine n_then ?_
      refine ret ?_
      refine r_in ?_
      refine r_then ?_
      refine r_then ?_
      refine r_in ?_
      refine r_then ?_
      exact done rfl (.tmp rfl (.nil)) (Ro.le.refl _) (L) (⟨_, .refl _, .refl _⟩) (⟨_, rfl, .inr ⟨k, rfl, by rw [hx, h4], hall⟩, rfl, rfl⟩)
    · try simp only [decide_eq_true_eq, decide_eq_false_iff_not, beq_iff_eq, bne_iff_ne, ne_eq, beq_eq_false_iff_ne, bne_eq_false_iff_eq, Bool.not_eq_true', Bool.not_eq_false', Bool.not_eq_true, Bool.not_eq_false, Decidable.not_not, Int.not_lt, Int.not_le] at h4
      refine skip ?_
      refine n_in ?_
      refine n_then ?_
      refine region ?_
      refine op (y (x_move rfl) rfl ?_)
      refine op (y (x_add rfl rfl _ (wr (by omega) (by omega))) rfl ?_)
      refine op (y (x_assign rfl) rfl ?_)
      refine nil ?_
      exact round (l.length - (k + 1)) [(0, .slice _ l.length cap), (1, .int .i64 a), (5, .int .i64 ((k + 1) : Nat))] (by omega) ⟨rfl, rfl, rfl, trivial⟩ ⟨k + 1, rfl, rfl, rfl, rfl, by omega, upto (p := fun j => l[j]? ≠ some a) hall (fun e => h4 (by rw [hx] at e; simpa using e))⟩
  · try simp only [decide_eq_true_eq, decide_eq_false_iff_not, beq_iff_eq, bne_iff_ne, ne_eq, beq_eq_false_iff_ne, bne_eq_false_iff_eq, Bool.not_eq_true', Bool.not_eq_false', Bool.not_eq_true, Bool.not_eq_false, Decidable.not_not, Int.not_lt, Int.not_le] at h2
    refine exit ?_
    refine e_then ?_
    refine e_then ?_
    refine e_in ?_
    refine n_then ?_
    refine seq ?_
    refine region ?_
    refine op (y (x_assign rfl) rfl ?_)
    refine nil ?_
    refine n_then ?_
    refine ret ?_
    exact done rfl (.tmp rfl (.nil)) (Ro.le.refl _) (L) (⟨_, .refl _, .refl _⟩) (⟨_, rfl, .inl ⟨rfl, not_mem_of (fun j hj => hall j (by omega))⟩, rfl, rfl⟩)

theorem eq0n {n : Nat} (h : 0 < n) : (((n : Nat) : Int) == 0) = false := by simp; omega
theorem rem_next {n i : Nat} (hn : 0 < n) : ((i : Int) + 1).tmod ((n : Nat) : Int) = (((i + 1) % n : Nat) : Int) := by
  rw [show (i : Int) + 1 = ((i + 1 : Nat) : Int) by omega]
  exact (Int.ofNat_tmod (i + 1) n).symm

theorem GraphCycle_c (l : List Ed) (A : Option Addr) (cap : Nat) (o : List Int) (B : Option Addr) (capo : Nat) (ro : Ro) (L : List (List Blk)) (hl : Sl ro 3 encEdge A cap l) (ho : Sl ro 1 encInt B capo o) (h64 : ∀ e ∈ l, I64 e.1 ∧ I64 e.2.1 ∧ I64 e.2.2) (ho64 : ∀ e ∈ o, I64 e) :
    CT Try.prog 10 [.slice A l.length cap, .slice B o.length capo].toArray ro L (PV (.bool true) L) := by
  have hcap : l.length ≤ 9223372036854775807 := by have := hl.1; have := hl.2.1; unfold maxLen at this; omega
  have hcapo : o.length ≤ 9223372036854775807 := by have := ho.1; have := ho.2.1; unfold maxLen at this; omega
  refine enter Try.func10 rfl Try.ntmps10 rfl ?_
  refine seq ?_
  refine region ?_
  refine op (y (x_assign rfl) rfl ?_)
  refine nil ?_
  refine n_then ?_
  refine seq ?_
  refine region ?_
  refine op (e_call rfl fn_44 rfl rfl (GFirst_c _ _) fun v23 ro23 L23 hle23 hp23 => ?_)
  obtain ⟨rfl, rfl⟩ := hp23
  have hl1 := hl.mono hle23
  have ho1 := ho.mono hle23
  refine op (y (x_assign rfl) rfl ?_)
  refine nil ?_
  refine n_then ?_
  refine seq ?_
  refine seq ?_
  refine region ?_
  refine op (y (x_move rfl) rfl ?_)
  refine op (y (x_not rfl) rfl ?_)
  refine nil ?_
  refine n_then ?_
  refine condF rfl ?_
  refine skip ?_
  refine n_then ?_
  refine seq ?_
  refine seq ?_
  refine region ?_
  refine op (y (x_move rfl) rfl ?_)
  refine op (y (x_lenSl sz_59 rfl) rfl ?_)
  refine op (y (x_gtr rfl rfl) rfl ?_)
  refine op (y (x_move rfl) rfl ?_)
  refine bsplit 29 rfl (fun g29 => ?_) (fun g29 => ?_)
  · try simp only [decide_eq_true_eq, decide_eq_false_iff_not, beq_iff_eq, bne_iff_ne, ne_eq, beq_eq_false_iff_ne, bne_eq_false_iff_eq, Bool.not_eq_true', Bool.not_eq_false', Bool.not_eq_true, Bool.not_eq_false, Decidable.not_not, Int.not_lt, Int.not_le] at g29
    refine opN rfl rfl rfl rfl ?_
    refine opN rfl rfl rfl rfl ?_
    refine opN rfl rfl rfl rfl ?_
    refine op (y (x_pickT rfl rfl) rfl ?_)
    refine op (y (x_move rfl) rfl ?_)
    refine opN rfl rfl rfl rfl ?_
    refine opN rfl rfl rfl rfl ?_
    refine op (y (x_pickT rfl rfl) rfl ?_)
    refine nil ?_
    refine n_then ?_
    refine condT rfl ?_
    refine seq ?_
    refine region ?_
    refine op (y (x_move rfl) rfl ?_)
    refine op (y (x_assign rfl) rfl ?_)
    refine nil ?_
    refine n_then ?_
    refine ret ?_
    refine r_then ?_
    exact done rfl (.tmp rfl (.nil)) (hle23) (L) (⟨_, .refl _, .refl _⟩) (⟨rfl, rfl⟩)
  · try simp only [decide_eq_true_eq, decide_eq_false_iff_not, beq_iff_eq, bne_iff_ne, ne_eq, beq_eq_false_iff_ne, bne_eq_false_iff_eq, Bool.not_eq_true', Bool.not_eq_false', Bool.not_eq_true, Bool.not_eq_false, Decidable.not_not, Int.not_lt, Int.not_le] at g29
    refine opG rfl rfl (y (x_move rfl) rfl ?_)
    refine opG rfl rfl (y (x_lenSl sz_23 rfl) rfl ?_)
    refine opG rfl rfl (y (x_gtr rfl rfl) rfl ?_)
    refine op (y (x_pickF rfl rfl) rfl ?_)
    refine op (y (x_move rfl) rfl ?_)
    refine bsplit 34 rfl (fun g34 => ?_) (fun g34 => ?_)
    · try simp only [decide_eq_true_eq, decide_eq_false_iff_not, beq_iff_eq, bne_iff_ne, ne_eq, beq_eq_false_iff_ne, bne_eq_false_iff_eq, Bool.not_eq_true', Bool.not_eq_false', Bool.not_eq_true, Bool.not_eq_false, Decidable.not_not, Int.not_lt, Int.not_le] at g34
      refine opN rfl rfl rfl rfl ?_
      refine opN rfl rfl rfl rfl ?_
      refine op (y (x_pickT rfl rfl) rfl ?_)
      refine nil ?_
      refine n_then ?_
      refine condT rfl ?_
      refine seq ?_
      refine region ?_
      refine op (y (x_move rfl) rfl ?_)
      refine op (y (x_assign rfl) rfl ?_)
      refine nil ?_
      refine n_then ?_
      refine ret ?_
      refine r_then ?_
      exact done rfl (.tmp rfl (.nil)) (hle23) (L) (⟨_, .refl _, .refl _⟩) (⟨rfl, rfl⟩)
    · try simp only [decide_eq_true_eq, decide_eq_false_iff_not, beq_iff_eq, bne_iff_ne, ne_eq, beq_eq_false_iff_ne, bne_eq_false_iff_eq, Bool.not_eq_true', Bool.not_eq_false', Bool.not_eq_true, Bool.not_eq_false, Decidable.not_not, Int.not_lt, Int.not_le] at g34
      refine opG rfl rfl (y (x_move rfl) rfl ?_)
      refine opG rfl rfl (y (x_not rfl) rfl ?_)
      refine op (y (x_pickF rfl rfl) rfl ?_)
      refine nil ?_
      refine n_then ?_
      refine condF rfl ?_
      refine skip ?_
      refine n_then ?_
      refine seq ?_
      refine region ?_
      refine op (y (x_move rfl) rfl ?_)
      refine op (y (x_move rfl) rfl ?_)
      refine op (e_call rfl fn_45 rfl rfl (GMade_c l _ _ o _ _ _ _ hl1 ho1 (by omega) (by omega) h64 ho64) fun v42 ro42 L42 hle42 hp42 => ?_)
      obtain ⟨x, R, A2, cap2, B2, cap3, rfl, hR, hA2, hB2, hLL⟩ := hp42
      subst hLL
      obtain ⟨hs1, hs2, hs3⟩ := mkE_spec l l.length (Nat.le_refl _)
      rw [List.take_length] at hs1 hs2 hs3
      obtain ⟨hq1, hq2, hq3⟩ := mkN_spec l o o.length (Nat.le_refl _)
      rw [List.take_length] at hq1 hq2 hq3
      have hNO : ∀ u w, w ∈ Ob (mkE l) u → u ∈ mkN l o := fun u w h => by
        obtain ⟨c, hc⟩ := mem_Ob.1 h
        exact (hq3 u).2 (.inr ⟨_, (hs3 _).1 hc, .inl rfl⟩)
      have hNO2 : ∀ u w, w ∈ Ob (mkE l) u → w ∈ mkN l o := fun u w h => by
        obtain ⟨c, hc⟩ := mem_Ob.1 h
        exact (hq3 w).2 (.inr ⟨_, (hs3 _).1 hc, .inr rfl⟩)
      have hl2 := hl1.mono hle42
      have ho2 := ho1.mono hle42
      generalize mkN l o = N at *
      generalize mkE l = E at *
      refine op (y (x_move rfl) rfl ?_)
      refine op (y (x_extract rfl rfl) rfl ?_)
      refine op (y (x_extract rfl rfl) rfl ?_)
      refine op (e_alloc rfl zc_63 rfl fun b7 => ?_)
      refine op (y (x_assign rfl) rfl ?_)
      first | refine op (e_store 0 rfl rfl ts_63 rfl rfl rfl rfl rfl rfl ?_) | refine op (e_store 1 rfl rfl ts_63 rfl rfl rfl rfl rfl rfl ?_) | refine op (e_store 2 rfl rfl ts_63 rfl rfl rfl rfl rfl rfl ?_) | refine op (e_store 3 rfl rfl ts_63 rfl rfl rfl rfl rfl rfl ?_) | refine op (e_store 4 rfl rfl ts_63 rfl rfl rfl rfl rfl rfl ?_) | refine op (e_store 5 rfl rfl ts_63 rfl rfl rfl rfl rfl rfl ?_)
      refine nil ?_
      refine n_then ?_
      refine seq ?_
      refine seq ?_
      refine region ?_
      refine op (y (x_move rfl) rfl ?_)
      refine op (y (x_ptrEqNil Try.underlying60 rfl rfl) rfl ?_)
      refine nil ?_
      refine n_then ?_
      refine condF rfl ?_
      refine skip ?_
      refine n_then ?_
      refine seq ?_
      refine region ?_
      refine op (y (x_move rfl) rfl ?_)
      refine op (e_call rfl fn_47 rfl rfl (GrCycle_c x N E R _ _ hR (by simp) hq1 (by omega) (by omega)) fun v48 ro48 L48 hle48 hp48 => ?_)
      obtain ⟨A48, cap48, R48, rfl, hO48, hLL⟩ := hp48
      subst hLL
      refine ufreeze fun ro48x hle48x hR48 => ?_
      have hC0 := OwnS.sl hO48 (fun _ _ => rfl) hR48
      have hcl : (cycR (Ob E) N).length ≤ 1000 := by
        by_cases hz : cycR (Ob E) N = []
        · rw [hz]; simp
        · obtain ⟨k, n, hI⟩ := cyc_is hNO hz
          have := hI.lst.le hNO
          rw [hI.len]; omega
      refine op (y (x_assign rfl) rfl ?_)
      refine nil ?_
      refine n_then ?_
      refine seq ?_
      refine region ?_
      refine op (y (x_move rfl) rfl ?_)
      refine op (e_call rfl fn_50 rfl rfl (GrNodes_c x N E R _ _ hR (by simp) (by omega) (by omega)) fun v50 ro50 L50 hle50 hp50 => ?_)
      obtain ⟨A50, cap50, R50, rfl, hO50, rfl, rfl⟩ := hp50
      refine ufreeze fun ro50x hle50x hR50 => ?_
      rw [srt_id hq1] at hO50 ⊢
      have hS0 := OwnS.sl hO50 (fun _ _ => rfl) hR50
      have hC1 := hC0.mono hle50x
      refine op (y (x_assign rfl) rfl ?_)
      refine nil ?_
      refine n_then ?_
      refine seqM (fun F ro' L' => (F = [(0, .slice A l.length cap), (6, .pointer (some ⟨x, 0, none⟩)), (8, .slice A48 (cycR (Ob E) N).length cap48)]) ∧ (L' = [(b7, .cells [.slice A2 N.length cap2, .slice B2 E.length cap3].toArray 63 (0, 0))] :: R :: L) ∧ (ro50x.le ro') ∧ (Sl ro' 1 encInt A48 cap48 (cycR (Ob E) N))) ?_ ?_
      · skip
        refine seq ?_
        refine region ?_
        refine op (y (x_assign rfl) rfl ?_)
        refine nil ?_
        refine n_then ?_
        refine block ?_
        refine loop (fun m F ro' L' => ∃ (i : Nat), (m = N.length - i) ∧ (F = [(0, .slice A l.length cap), (6, .pointer (some ⟨x, 0, none⟩)), (8, .slice A48 (cycR (Ob E) N).length cap48), (9, .slice A50 N.length cap50), (10, .int .i64 (i : Nat))]) ∧ (L' = [(b7, .cells [.slice A2 N.length cap2, .slice B2 E.length cap3].toArray 63 (0, 0))] :: R :: L) ∧ (i ≤ N.length) ∧ (ro50x.le ro') ∧ (Sl ro' 1 encInt A48 cap48 (cycR (Ob E) N)) ∧ (Sl ro' 1 encInt A50 cap50 N) ∧ (∀ j : Nat, j < i → ∀ b, N[j]? = some b → (fin (Ob E) N b b).isSome = false)) (N.length - 0) [(0, .slice A l.length cap), (6, .pointer (some ⟨x, 0, none⟩)), (8, .slice A48 (cycR (Ob E) N).length cap48), (9, .slice A50 N.length cap50), (10, .int .i64 (0 : Nat))] ⟨rfl, rfl, rfl, rfl, rfl, trivial⟩ ⟨0, rfl, rfl, rfl, by omega, Ro.le.refl _, hC1, hS0, by intro j hj; omega⟩ ?_
        rintro m F ro' L' ⟨i, rfl, rfl, rfl, hi, hle9, hC, hS, hno⟩
        refine seq ?_
        refine seq ?_
        refine region ?_
        refine op (y (x_move rfl) rfl ?_)
        refine op (y (x_move rfl) rfl ?_)
        refine op (y (x_lenSl sz_23 rfl) rfl ?_)
        refine op (y (x_lss rfl rfl) rfl ?_)
        refine nil ?_
        refine n_then ?_
        refine cond rfl (fun h12 => ?_) (fun h12 => ?_)
        · try simp only [decide_eq_true_eq, decide_eq_false_iff_not, beq_iff_eq, bne_iff_ne, ne_eq, beq_eq_false_iff_ne, bne_eq_false_iff_eq, Bool.not_eq_true', Bool.not_eq_false', Bool.not_eq_true, Bool.not_eq_false, Decidable.not_not, Int.not_lt, Int.not_le] at h12
          refine skip ?_
          refine n_then ?_
          refine seq ?_
          refine block ?_
          refine seq ?_
          have hil : i < N.length := by omega
          obtain ⟨bbx, offx, rfl, hcx⟩ := hS.at_ (i := i) (by omega)
          have hx := List.getElem?_eq_getElem (show i < N.length from by omega)
          have cx0 := hcx i _ hx 0 _ rfl
          refine drawL (by kernel_rfl) ?_
          refine d_take 0 rfl (by kernel_rfl) (by kernel_rfl) (by kernel_rfl) (fun _ _ _ h => h) rfl (.inl rfl) (x_move rfl) (fun w hi => J.of_le (by first | exact Ro.le.refl _ | assumption) (fun x hx => hx) hi) ?_
          refine d_take 1 rfl (by kernel_rfl) (by kernel_rfl) (by kernel_rfl) (fun _ _ _ h => h) rfl (.inl rfl) (x_move rfl) (fun w hi => J.of_le (by first | exact Ro.le.refl _ | assumption) (fun x hx => hx) hi) ?_
          refine d_take 2 rfl (by kernel_rfl) (by kernel_rfl) (by kernel_rfl) (fun _ _ _ h => h) rfl (.inl rfl) (x_move rfl) (fun w hi => J.of_le (by first | exact Ro.le.refl _ | assumption) (fun x hx => hx) hi) ?_
          refine d_take 3 rfl (by kernel_rfl) (by kernel_rfl) (by kernel_rfl) (fun _ _ _ h => h) rfl (.inl rfl) (x_indexNat sz_23 rfl rfl (by omega)) (fun w hi => J.of_le (by first | exact Ro.le.refl _ | assumption) (fun x hx => hx) hi) ?_
          refine d_take 4 rfl (by kernel_rfl) (by kernel_rfl) (by kernel_rfl) (fun _ _ _ h => h) rfl (.inl rfl) (x_load1 ag_3 rfl (by first | assumption | exact Cell.own 0 rfl rfl | exact Cell.own 1 rfl rfl | exact Cell.own 2 rfl rfl | exact Cell.own 3 rfl rfl | exact Cell.own 4 rfl rfl | exact Cell.own 5 rfl rfl | exact Cell.ofRo (by assumption))) (fun w hi => J.of_le (by first | exact Ro.le.refl _ | assumption) (fun x hx => hx) hi) ?_
          refine d_take 6 rfl (by kernel_rfl) (by kernel_rfl) (by kernel_rfl) (fun _ _ _ h => h) rfl (.inl rfl) (x_move rfl) (fun w hi => J.of_le (by first | exact Ro.le.refl _ | assumption) (fun x hx => hx) hi) ?_
          refine d_take 7 rfl (by kernel_rfl) (by kernel_rfl) (by kernel_rfl) (fun _ _ _ h => h) rfl (.inl rfl) (x_move rfl) (fun w hi => J.of_le (by first | exact Ro.le.refl _ | assumption) (fun x hx => hx) hi) ?_
          refine d_take 8 rfl (by kernel_rfl) (by kernel_rfl) (by kernel_rfl) (fun _ _ _ h => h) rfl (.inl rfl) (x_indexNat sz_23 rfl rfl (by omega)) (fun w hi => J.of_le (by first | exact Ro.le.refl _ | assumption) (fun x hx => hx) hi) ?_
          refine d_take 9 rfl (by kernel_rfl) (by kernel_rfl) (by kernel_rfl) (fun _ _ _ h => h) rfl (.inl rfl) (x_load1 ag_3 rfl (by first | assumption | exact Cell.own 0 rfl rfl | exact Cell.own 1 rfl rfl | exact Cell.own 2 rfl rfl | exact Cell.own 3 rfl rfl | exact Cell.own 4 rfl rfl | exact Cell.own 5 rfl rfl | exact Cell.ofRo (by assumption))) (fun w hi => J.of_le (by first | exact Ro.le.refl _ | assumption) (fun x hx => hx) hi) ?_
          refine d_one 5 rfl (by kernel_rfl) (.inl rfl) (e_call rfl fn_53 rfl rfl (GrReach_c x N E R _ _ hR (by simp) (by omega) (by omega) N[i]) fun v62 ro62 L62 hle62 hp62 => ?_)
          obtain ⟨to, hRS, A62, cap62, R62, rfl, hO62, rfl, rfl⟩ := hp62
          refine ufreeze fun ro62x hle62x hR62 => ?_
          have hS62 := OwnS.sl hO62 (fun _ _ => rfl) hR62
          have hto : N[i] ∈ to ↔ (fin (Ob E) N N[i] N[i]).isSome = true := (hRS.2 _).trans (fin_tg hNO).symm
          refine d_next (fun w hi => J.of_le (by first | exact Ro.le.refl _ | assumption) (fun x hx => hx) hi) ?_
          refine d_one 10 rfl (by kernel_rfl) (.inl rfl) (e_call rfl fn_51 rfl rfl (Place_c to A62 cap62 N[i] _ _ hS62) fun v67 ro67 L67 hle67 hp67 => ?_)
          obtain ⟨pi, rfl, hPl, rfl, rfl⟩ := hp67
          have hpi := hPl.iff
          refine d_next (fun w hi => J.of_le (by first | exact Ro.le.refl _ | assumption) (fun x hx => hx) hi) ?_
          refine d_take 11 rfl (by kernel_rfl) (by kernel_rfl) (by kernel_rfl) (fun _ _ _ h => h) rfl (.inl rfl) (x_geq rfl rfl) (fun w hi => J.of_le (by first | exact Ro.le.refl _ | assumption) (fun x hx => hx) hi) ?_
          refine d_take 12 rfl (by kernel_rfl) (by kernel_rfl) (by kernel_rfl) (fun _ _ _ h => h) rfl (.inl rfl) (x_assign rfl) (fun w hi => J.of_le (by first | exact Ro.le.refl _ | assumption) (fun x hx => hx) hi) ?_
          refine d_end (by kernel_rfl) ?_
          refine n_then ?_
          refine seq ?_
          refine seq ?_
          refine region ?_
          refine op (y (x_move rfl) rfl ?_)
          refine nil ?_
          refine n_then ?_
          refine cond rfl (fun h15 => ?_) (fun h15 => ?_)
          · try simp only [decide_eq_true_eq, decide_eq_false_iff_not, beq_iff_eq, bne_iff_ne, ne_eq, beq_eq_false_iff_ne, bne_eq_false_iff_eq, Bool.not_eq_true', Bool.not_eq_false', Bool.not_eq_true, Bool.not_eq_false, Decidable.not_not, Int.not_lt, Int.not_le] at h15
            have hself := hto.1 (hpi.1 h15)
            have hcne : (cycR (Ob E) N) ≠ [] := fun h => by
              have := cyc_nil.1 h _ (List.getElem_mem hil)
              rw [hself] at this; cases this
            obtain ⟨kc, nc, hI⟩ := cyc_is hNO hcne
            have hkc : N[i] = kc := (cyc_first hI.fst hx hno).1 hself
            have hpos := hI.pos
            have hlen := hI.len
            have hC2 := hC.mono hle62x
            obtain ⟨bbc, offc, rfl, hcc⟩ := hC2.at_ (i := 0) (by omega)
            have cc0 := hcc 0 _ hI.hd 0 _ rfl
            refine seq ?_
            refine seq ?_
            refine drawL (by kernel_rfl) ?_
            refine d_take 0 rfl (by kernel_rfl) (by kernel_rfl) (by kernel_rfl) (fun _ _ _ h => h) rfl (.inl rfl) (x_move rfl) (fun w hi => by first | exact hi.j | exact J.of_le (Ro.le.refl _) (fun x hx => List.mem_append_right _ hx) hi | exact J.of_le (Ro.le.refl _) (fun x hx => List.mem_append_right _ (List.mem_append_right _ hx)) hi | exact J.of_le (Ro.le.refl _) (fun x hx => absurd hx (by simp)) hi | exact J.of_le (by assumption) (fun x hx => absurd hx (by simp)) hi) ?_
            refine d_take 1 rfl (by kernel_rfl) (by kernel_rfl) (by kernel_rfl) (fun _ _ _ h => h) rfl (.inl rfl) (x_lenSl sz_23 rfl) (fun w hi => by first | exact hi.j | exact J.of_le (Ro.le.refl _) (fun x hx => List.mem_append_right _ hx) hi | exact J.of_le (Ro.le.refl _) (fun x hx => List.mem_append_right _ (List.mem_append_right _ hx)) hi | exact J.of_le (Ro.le.refl _) (fun x hx => absurd hx (by simp)) hi | exact J.of_le (by assumption) (fun x hx => absurd hx (by simp)) hi) ?_
            refine d_take 2 rfl (by kernel_rfl) (by kernel_rfl) (by kernel_rfl) (fun _ _ _ h => h) rfl (.inl rfl) ((x_eql rfl rfl).as (v' := .bool false) (by rw [eq0n (by omega)])) (fun w hi => by first | exact hi.j | exact J.of_le (Ro.le.refl _) (fun x hx => List.mem_append_right _ hx) hi | exact J.of_le (Ro.le.refl _) (fun x hx => List.mem_append_right _ (List.mem_append_right _ hx)) hi | exact J.of_le (Ro.le.refl _) (fun x hx => absurd hx (by simp)) hi | exact J.of_le (by assumption) (fun x hx => absurd hx (by simp)) hi) ?_
            refine d_take 3 rfl (by kernel_rfl) (by kernel_rfl) (by kernel_rfl) (fun _ _ _ h => h) rfl (.inl rfl) (x_move rfl) (fun w hi => by first | exact hi.j | exact J.of_le (Ro.le.refl _) (fun x hx => List.mem_append_right _ hx) hi | exact J.of_le (Ro.le.refl _) (fun x hx => List.mem_append_right _ (List.mem_append_right _ hx)) hi | exact J.of_le (Ro.le.refl _) (fun x hx => absurd hx (by simp)) hi | exact J.of_le (by assumption) (fun x hx => absurd hx (by simp)) hi) ?_
            refine d_take 4 rfl (by kernel_rfl) (by kernel_rfl) (by kernel_rfl) (fun _ _ _ h => h) rfl (.inr ⟨_, _, _, rfl, rfl, rfl⟩) (x_move rfl) (fun w hi => by first | exact hi.j | exact J.of_le (Ro.le.refl _) (fun x hx => List.mem_append_right _ hx) hi | exact J.of_le (Ro.le.refl _) (fun x hx => List.mem_append_right _ (List.mem_append_right _ hx)) hi | exact J.of_le (Ro.le.refl _) (fun x hx => absurd hx (by simp)) hi | exact J.of_le (by assumption) (fun x hx => absurd hx (by simp)) hi) ?_
            refine d_take 5 rfl (by kernel_rfl) (by kernel_rfl) (by kernel_rfl) (fun _ _ _ h => h) rfl (.inr ⟨_, _, _, rfl, rfl, rfl⟩) (x_indexNat (j := 0) sz_23 rfl rfl (by omega)) (fun w hi => by first | exact hi.j | exact J.of_le (Ro.le.refl _) (fun x hx => List.mem_append_right _ hx) hi | exact J.of_le (Ro.le.refl _) (fun x hx => List.mem_append_right _ (List.mem_append_right _ hx)) hi | exact J.of_le (Ro.le.refl _) (fun x hx => absurd hx (by simp)) hi | exact J.of_le (by assumption) (fun x hx => absurd hx (by simp)) hi) ?_
            refine d_take 6 rfl (by kernel_rfl) (by kernel_rfl) (by kernel_rfl) (fun _ _ _ h => h) rfl (.inr ⟨_, _, _, rfl, rfl, rfl⟩) (x_load1 ag_3 rfl (by first | assumption | exact Cell.own 0 rfl rfl | exact Cell.own 1 rfl rfl | exact Cell.own 2 rfl rfl | exact Cell.own 3 rfl rfl | exact Cell.own 4 rfl rfl | exact Cell.own 5 rfl rfl | exact Cell.ofRo (by assumption))) (fun w hi => by first | exact hi.j | exact J.of_le (Ro.le.refl _) (fun x hx => List.mem_append_right _ hx) hi | exact J.of_le (Ro.le.refl _) (fun x hx => List.mem_append_right _ (List.mem_append_right _ hx)) hi | exact J.of_le (Ro.le.refl _) (fun x hx => absurd hx (by simp)) hi | exact J.of_le (by assumption) (fun x hx => absurd hx (by simp)) hi) ?_
            refine d_take 7 rfl (by kernel_rfl) (by kernel_rfl) (by kernel_rfl) (fun _ _ _ h => h) rfl (.inr ⟨_, _, _, rfl, rfl, rfl⟩) (x_move rfl) (fun w hi => by first | exact hi.j | exact J.of_le (Ro.le.refl _) (fun x hx => List.mem_append_right _ hx) hi | exact J.of_le (Ro.le.refl _) (fun x hx => List.mem_append_right _ (List.mem_append_right _ hx)) hi | exact J.of_le (Ro.le.refl _) (fun x hx => absurd hx (by simp)) hi | exact J.of_le (by assumption) (fun x hx => absurd hx (by simp)) hi) ?_
            refine d_take 8 rfl (by kernel_rfl) (by kernel_rfl) (by kernel_rfl) (fun _ _ _ h => h) rfl (.inr ⟨_, _, _, rfl, rfl, rfl⟩) (x_move rfl) (fun w hi => by first | exact hi.j | exact J.of_le (Ro.le.refl _) (fun x hx => List.mem_append_right _ hx) hi | exact J.of_le (Ro.le.refl _) (fun x hx => List.mem_append_right _ (List.mem_append_right _ hx)) hi | exact J.of_le (Ro.le.refl _) (fun x hx => absurd hx (by simp)) hi | exact J.of_le (by assumption) (fun x hx => absurd hx (by simp)) hi) ?_
            refine d_take 9 rfl (by kernel_rfl) (by kernel_rfl) (by kernel_rfl) (fun _ _ _ h => h) rfl (.inr ⟨_, _, _, rfl, rfl, rfl⟩) (x_indexNat sz_23 rfl rfl (by omega)) (fun w hi => by first | exact hi.j | exact J.of_le (Ro.le.refl _) (fun x hx => List.mem_append_right _ hx) hi | exact J.of_le (Ro.le.refl _) (fun x hx => List.mem_append_right _ (List.mem_append_right _ hx)) hi | exact J.of_le (Ro.le.refl _) (fun x hx => absurd hx (by simp)) hi | exact J.of_le (by assumption) (fun x hx => absurd hx (by simp)) hi) ?_
            refine d_take 10 rfl (by kernel_rfl) (by kernel_rfl) (by kernel_rfl) (fun _ _ _ h => h) rfl (.inr ⟨_, _, _, rfl, rfl, rfl⟩) (x_load1 ag_3 rfl (Cell.ofRo (hle62x.cell cx0))) (fun w hi => by first | exact hi.j | exact J.of_le (Ro.le.refl _) (fun x hx => List.mem_append_right _ hx) hi | exact J.of_le (Ro.le.refl _) (fun x hx => List.mem_append_right _ (List.mem_append_right _ hx)) hi | exact J.of_le (Ro.le.refl _) (fun x hx => absurd hx (by simp)) hi | exact J.of_le (by assumption) (fun x hx => absurd hx (by simp)) hi) ?_
            refine d_take 11 rfl (by kernel_rfl) (by kernel_rfl) (by kernel_rfl) (fun _ _ _ h => h) rfl (.inr ⟨_, _, _, rfl, rfl, rfl⟩) ((x_neq rfl rfl).as (v' := .bool false) (by rw [hkc]; simp)) (fun w hi => by first | exact hi.j | exact J.of_le (Ro.le.refl _) (fun x hx => List.mem_append_right _ hx) hi | exact J.of_le (Ro.le.refl _) (fun x hx => List.mem_append_right _ (List.mem_append_right _ hx)) hi | exact J.of_le (Ro.le.refl _) (fun x hx => absurd hx (by simp)) hi | exact J.of_le (by assumption) (fun x hx => absurd hx (by simp)) hi) ?_
            refine d_take 12 rfl (by kernel_rfl) (by kernel_rfl) (by kernel_rfl) (fun _ _ _ h => h) rfl (.inl rfl) (x_pickF rfl rfl) (fun w hi => by first | exact hi.j | exact J.of_le (Ro.le.refl _) (fun x hx => List.mem_append_right _ hx) hi | exact J.of_le (Ro.le.refl _) (fun x hx => List.mem_append_right _ (List.mem_append_right _ hx)) hi | exact J.of_le (Ro.le.refl _) (fun x hx => absurd hx (by simp)) hi | exact J.of_le (by assumption) (fun x hx => absurd hx (by simp)) hi) ?_
            refine d_end (by kernel_rfl) ?_
            refine n_then ?_
            refine condF rfl ?_
            refine skip ?_
            refine n_then ?_
            refine exit ?_
            refine e_then ?_
            refine e_out rfl ?_
            refine e_then ?_
            refine e_then ?_
            refine e_in ?_
            exact mid [(0, .slice A l.length cap), (6, .pointer (some ⟨x, 0, none⟩)), (8, .slice _ (cycR (Ob E) N).length cap48)] ⟨rfl, rfl, rfl, trivial⟩ ⟨rfl, rfl, hle9.trans hle62x, hC2⟩
          · try simp only [decide_eq_true_eq, decide_eq_false_iff_not, beq_iff_eq, bne_iff_ne, ne_eq, beq_eq_false_iff_ne, bne_eq_false_iff_eq, Bool.not_eq_true', Bool.not_eq_false', Bool.not_eq_true, Bool.not_eq_false, Decidable.not_not, Int.not_lt, Int.not_le] at h15
            refine skip ?_
            refine n_then ?_
            refine seq ?_
            have hnself : (fin (Ob E) N N[i] N[i]).isSome = false := by
              cases hf : (fin (Ob E) N N[i] N[i]).isSome with
              | false => rfl
              | true =>
                have := hpi.2 (hto.2 hf)
                omega
            refine region ?_
            refine op (y (x_move rfl) rfl ?_)
            refine op (y (x_add rfl rfl _ (wr (by omega) (by omega))) rfl ?_)
            refine op (y (x_move rfl) rfl ?_)
            refine op (y (x_lenSl sz_23 rfl) rfl ?_)
            refine op (y (x_eql rfl rfl) rfl ?_)
            refine op (y (x_move rfl) rfl ?_)
            refine bsplit 88 rfl (fun g88 => ?_) (fun g88 => ?_)
            · try simp only [decide_eq_true_eq, decide_eq_false_iff_not, beq_iff_eq, bne_iff_ne, ne_eq, beq_eq_false_iff_ne, bne_eq_false_iff_eq, Bool.not_eq_true', Bool.not_eq_false', Bool.not_eq_true, Bool.not_eq_false, Decidable.not_not, Int.not_lt, Int.not_le] at g88
              have hce : (cycR (Ob E) N).length = 0 := by
                have h1 : (cycR (Ob E) N) = [] := cyc_nil.2 (fun q hq => by
                  obtain ⟨j, hj, e⟩ := List.getElem_of_mem hq
                  have hj2 : N[j]? = some q := by rw [List.getElem?_eq_getElem hj, e]
                  rcases Nat.lt_or_ge j i with h | h
                  · exact hno j h q hj2
                  · have h2 : j = i := by omega
                    subst h2
                    rw [← e]; exact hnself)
                rw [h1]; rfl
              refine opG rfl rfl (y (x_move rfl) rfl ?_)
              refine opG rfl rfl (y (x_lenSl sz_23 rfl) rfl ?_)
              refine opG rfl rfl (y ((x_neq rfl rfl).as (v' := .bool false) (by rw [hce]; rfl)) rfl ?_)
              refine op (y (x_pickT rfl rfl) rfl ?_)
              refine nil ?_
              refine n_then ?_
              refine condF rfl ?_
              refine skip ?_
              refine n_in ?_
              refine n_then ?_
              refine region ?_
              refine op (y (x_move rfl) rfl ?_)
              refine op (y (x_add rfl rfl _ (wr (by omega) (by omega))) rfl ?_)
              refine op (y (x_assign rfl) rfl ?_)
              refine nil ?_
              exact round (N.length - (i + 1)) [(0, .slice A l.length cap), (6, .pointer (some ⟨x, 0, none⟩)), (8, .slice A48 (cycR (Ob E) N).length cap48), (9, .slice _ N.length cap50), (10, .int .i64 ((i + 1) : Nat))] (by omega) ⟨rfl, rfl, rfl, rfl, rfl, trivial⟩ ⟨i + 1, rfl, rfl, rfl, by omega, hle9.trans hle62x, hC.mono hle62x, hS.mono hle62x, upto (p := fun j => ∀ b, N[j]? = some b → (fin (Ob E) N b b).isSome = false) hno (fun b e => by rw [hx] at e; cases e; exact hnself)⟩
            · try simp only [decide_eq_true_eq, decide_eq_false_iff_not, beq_iff_eq, bne_iff_ne, ne_eq, beq_eq_false_iff_ne, bne_eq_false_iff_eq, Bool.not_eq_true', Bool.not_eq_false', Bool.not_eq_true, Bool.not_eq_false, Decidable.not_not, Int.not_lt, Int.not_le] at g88
              refine opN rfl rfl rfl rfl ?_
              refine opN rfl rfl rfl rfl ?_
              refine opN rfl rfl rfl rfl ?_
              refine op (y (x_pickF rfl rfl) rfl ?_)
              refine nil ?_
              refine n_then ?_
              refine condF rfl ?_
              refine skip ?_
              refine n_in ?_
              refine n_then ?_
              refine region ?_
              refine op (y (x_move rfl) rfl ?_)
              refine op (y (x_add rfl rfl _ (wr (by omega) (by omega))) rfl ?_)
              refine op (y (x_assign rfl) rfl ?_)
              refine nil ?_
              exact round (N.length - (i + 1)) [(0, .slice A l.length cap), (6, .pointer (some ⟨x, 0, none⟩)), (8, .slice A48 (cycR (Ob E) N).length cap48), (9, .slice _ N.length cap50), (10, .int .i64 ((i + 1) : Nat))] (by omega) ⟨rfl, rfl, rfl, rfl, rfl, trivial⟩ ⟨i + 1, rfl, rfl, rfl, by omega, hle9.trans hle62x, hC.mono hle62x, hS.mono hle62x, upto (p := fun j => ∀ b, N[j]? = some b → (fin (Ob E) N b b).isSome = false) hno (fun b e => by rw [hx] at e; cases e; exact hnself)⟩
        · try simp only [decide_eq_true_eq, decide_eq_false_iff_not, beq_iff_eq, bne_iff_ne, ne_eq, beq_eq_false_iff_ne, bne_eq_false_iff_eq, Bool.not_eq_true', Bool.not_eq_false', Bool.not_eq_true, Bool.not_eq_false, Decidable.not_not, Int.not_lt, Int.not_le] at h12
          refine exit ?_
          refine e_then ?_
          refine e_then ?_
          refine e_in ?_
          exact mid [(0, .slice A l.length cap), (6, .pointer (some ⟨x, 0, none⟩)), (8, .slice A48 (cycR (Ob E) N).length cap48)] ⟨rfl, rfl, rfl, trivial⟩ ⟨rfl, rfl, hle9, hC⟩
      · rintro F ro' L' ⟨rfl, rfl, hle9, hC⟩
        refine seq ?_
        refine seq ?_
        refine region ?_
        refine op (y (x_assign rfl) rfl ?_)
        refine nil ?_
        refine n_then ?_
        refine block ?_
        refine loop (fun m F rob' Lb' => ∃ (i : Nat), (m = (cycR (Ob E) N).length - i) ∧ (F = [(0, .slice A l.length cap), (6, .pointer (some ⟨x, 0, none⟩)), (8, .slice A48 (cycR (Ob E) N).length cap48), (12, .int .i64 (i : Nat))]) ∧ (ro' = rob') ∧ (Lb' = [(b7, .cells [.slice A2 N.length cap2, .slice B2 E.length cap3].toArray 63 (0, 0))] :: R :: L) ∧ (i ≤ (cycR (Ob E) N).length)) ((cycR (Ob E) N).length - 0) [(0, .slice A l.length cap), (6, .pointer (some ⟨x, 0, none⟩)), (8, .slice A48 (cycR (Ob E) N).length cap48), (12, .int .i64 (0 : Nat))] ⟨rfl, rfl, rfl, rfl, trivial⟩ ⟨0, rfl, rfl, rfl, rfl, by omega⟩ ?_
        rintro m F rob' Lb' ⟨i, rfl, rfl, rfl, rfl, hi⟩
        refine seq ?_
        refine seq ?_
        refine region ?_
        refine op (y (x_move rfl) rfl ?_)
        refine op (y (x_move rfl) rfl ?_)
        refine op (y (x_lenSl sz_23 rfl) rfl ?_)
        refine op (y (x_lss rfl rfl) rfl ?_)
        refine nil ?_
        refine n_then ?_
        refine cond rfl (fun h21 => ?_) (fun h21 => ?_)
        · try simp only [decide_eq_true_eq, decide_eq_false_iff_not, beq_iff_eq, bne_iff_ne, ne_eq, beq_eq_false_iff_ne, bne_eq_false_iff_eq, Bool.not_eq_true', Bool.not_eq_false', Bool.not_eq_true, Bool.not_eq_false, Decidable.not_not, Int.not_lt, Int.not_le] at h21
          refine skip ?_
          refine n_then ?_
          refine seq ?_
          refine block ?_
          refine seq ?_
          have hil : i < (cycR (Ob E) N).length := by omega
          have hcne : (cycR (Ob E) N) ≠ [] := fun h => by rw [h] at hil; simp at hil
          obtain ⟨kc, nc, hI⟩ := cyc_is hNO hcne
          have hlen := hI.len
          have hmod : (i + 1) % (cycR (Ob E) N).length < (cycR (Ob E) N).length := Nat.mod_lt _ (by omega)
          obtain ⟨bby, offy, rfl, hcy⟩ := hC.at_ (i := ((i + 1) % (cycR (Ob E) N).length)) (hmod)
          have hy := List.getElem?_eq_getElem (show ((i + 1) % (cycR (Ob E) N).length) < (cycR (Ob E) N).length from hmod)
          have cy0 := hcy ((i + 1) % (cycR (Ob E) N).length) _ hy 0 _ rfl
          have hxi := List.getElem?_eq_getElem hil
          have cyi := hcy i _ hxi 0 _ rfl
          have hzO : (cycR (Ob E) N)[(i + 1) % (cycR (Ob E) N).length] ∈ Ob E (cycR (Ob E) N)[i] := by
            rcases Nat.lt_or_ge (i + 1) (cycR (Ob E) N).length with h | h
            · have e : (i + 1) % (cycR (Ob E) N).length = i + 1 := Nat.mod_eq_of_lt h
              exact hI.step i _ _ hxi (by rw [← hy]; rw [e])
            · have e : (i + 1) % (cycR (Ob E) N).length = 0 := by rw [show i + 1 = (cycR (Ob E) N).length by omega]; exact Nat.mod_self _
              have e4 : (cycR (Ob E) N)[(i + 1) % (cycR (Ob E) N).length]? = some kc := by rw [e]; exact hI.hd
              rw [Option.some.inj (hy.symm.trans e4)]
              exact hI.close _ (by rw [show nc - 1 = i by omega]; exact hxi)
          have hkn : 0 < (kindsR E (cycR (Ob E) N)[i] (cycR (Ob E) N)[(i + 1) % (cycR (Ob E) N).length]).length := Nat.pos_of_ne_zero (fun h => kinds_nil.1 h hzO)
          refine region ?_
          refine op (y (x_move rfl) rfl ?_)
          refine op (y (x_move rfl) rfl ?_)
          refine op (y (x_add rfl rfl _ (wr (by omega) (by omega))) rfl ?_)
          refine op (y (x_move rfl) rfl ?_)
          refine op (y (x_lenSl sz_23 rfl) rfl ?_)
          refine op (y (x_rem rfl rfl (by omega) _ (rem_next (by omega))) rfl ?_)
          refine op (y (x_indexNat sz_23 rfl rfl hmod) rfl ?_)
          refine op (y (x_load1 ag_3 rfl (by first | assumption | exact Cell.own 0 rfl rfl | exact Cell.own 1 rfl rfl | exact Cell.own 2 rfl rfl | exact Cell.own 3 rfl rfl | exact Cell.own 4 rfl rfl | exact Cell.own 5 rfl rfl | exact Cell.ofRo (by assumption))) rfl ?_)
          refine op (y (x_assign rfl) rfl ?_)
          refine nil ?_
          refine n_then ?_
          refine seq ?_
          refine region ?_
          refine op (y (x_move rfl) rfl ?_)
          refine op (y (x_move rfl) rfl ?_)
          refine op (y (x_move rfl) rfl ?_)
          refine op (y (x_indexNat sz_23 rfl rfl (by omega)) rfl ?_)
          refine op (y (x_load1 ag_3 rfl (by first | assumption | exact Cell.own 0 rfl rfl | exact Cell.own 1 rfl rfl | exact Cell.own 2 rfl rfl | exact Cell.own 3 rfl rfl | exact Cell.own 4 rfl rfl | exact Cell.own 5 rfl rfl | exact Cell.ofRo (by assumption))) rfl ?_)
          refine op (y (x_move rfl) rfl ?_)
          refine op (e_call rfl fn_49 rfl rfl (GrKinds_c x N E R _ _ hR (by simp) (by omega) (by omega) _ _) fun v113 ro113 L113 hle113 hp113 => ?_)
          obtain ⟨A113, cap113, R113, rfl, hO113, rfl, rfl⟩ := hp113
          refine drop0 ?_
          refine op (y (x_lenSl sz_23 rfl) rfl ?_)
          refine op (y ((x_eql rfl rfl).as (v' := .bool false) (by rw [eq0n hkn])) rfl ?_)
          refine op (y (x_move rfl) rfl ?_)
          refine opG rfl rfl (y (x_move rfl) rfl ?_)
          refine opG rfl rfl (y (x_move rfl) rfl ?_)
          refine opG rfl rfl (y (x_move rfl) rfl ?_)
          refine opG rfl rfl (y (x_indexNat sz_23 rfl rfl (by omega)) rfl ?_)
          refine opG rfl rfl (y (x_load1 ag_3 rfl (by first | assumption | exact Cell.own 0 rfl rfl | exact Cell.own 1 rfl rfl | exact Cell.own 2 rfl rfl | exact Cell.own 3 rfl rfl | exact Cell.own 4 rfl rfl | exact Cell.own 5 rfl rfl | exact Cell.ofRo (by assumption))) rfl ?_)
          refine opG rfl rfl (e_call rfl fn_51 rfl rfl (Place_c (cycR (Ob E) N) _ cap48 _ _ _ hC) fun v122 ro122 L122 hle122 hp122 => ?_)
          obtain ⟨pi, rfl, hPl, rfl, rfl⟩ := hp122
          have hpe := hPl.of hI.nodup hxi
          refine opG rfl rfl (y (x_move rfl) rfl ?_)
          refine opG rfl rfl (y ((x_neq rfl rfl).as (v' := .bool false) (by rw [hpe]; simp)) rfl ?_)
          refine op (y (x_pickF rfl rfl) rfl ?_)
          refine nil ?_
          refine n_then ?_
          refine condF rfl ?_
          refine skip ?_
          refine n_in ?_
          refine n_then ?_
          refine region ?_
          refine op (y (x_move rfl) rfl ?_)
          refine op (y (x_add rfl rfl _ (wr (by omega) (by omega))) rfl ?_)
          refine op (y (x_assign rfl) rfl ?_)
          refine nil ?_
          exact round ((cycR (Ob E) N).length - (i + 1)) [(0, .slice A l.length cap), (6, .pointer (some ⟨x, 0, none⟩)), (8, .slice _ (cycR (Ob E) N).length cap48), (12, .int .i64 ((i + 1) : Nat))] (by omega) ⟨rfl, rfl, rfl, rfl, trivial⟩ ⟨i + 1, rfl, rfl, rfl, rfl, by omega⟩
        · try simp only [decide_eq_true_eq, decide_eq_false_iff_not, beq_iff_eq, bne_iff_ne, ne_eq, beq_eq_false_iff_ne, bne_eq_false_iff_eq, Bool.not_eq_true', Bool.not_eq_false', Bool.not_eq_true, Bool.not_eq_false, Decidable.not_not, Int.not_lt, Int.not_le] at h21
          refine exit ?_
          refine e_then ?_
          refine e_then ?_
          refine e_in ?_
          refine n_then ?_
          refine seq ?_
          refine seq ?_
          refine region ?_
          refine op (y (x_move rfl) rfl ?_)
          refine op (y (x_lenSl sz_23 rfl) rfl ?_)
          refine op (y (x_eql rfl rfl) rfl ?_)
          refine nil ?_
          refine n_then ?_
          refine cond rfl (fun h26 => ?_) (fun h26 => ?_)
          · try simp only [decide_eq_true_eq, decide_eq_false_iff_not, beq_iff_eq, bne_iff_ne, ne_eq, beq_eq_false_iff_ne, bne_eq_false_iff_eq, Bool.not_eq_true', Bool.not_eq_false', Bool.not_eq_true, Bool.not_eq_false, Decidable.not_not, Int.not_lt, Int.not_le] at h26
            refine seq ?_
            refine region ?_
            refine op (y (x_assign rfl) rfl ?_)
            refine nil ?_
            refine n_then ?_
            refine ret ?_
            refine r_then ?_
            refine drop0 ?_
            refine drop0 ?_
            exact done rfl (.tmp rfl (.nil)) ((((((hle23).trans hle42).trans hle48).trans hle48x).trans hle50x).trans hle9) (L) (⟨_, .refl _, .refl _⟩) (⟨rfl, rfl⟩)
          · try simp only [decide_eq_true_eq, decide_eq_false_iff_not, beq_iff_eq, bne_iff_ne, ne_eq, beq_eq_false_iff_ne, bne_eq_false_iff_eq, Bool.not_eq_true', Bool.not_eq_false', Bool.not_eq_true, Bool.not_eq_false, Decidable.not_not, Int.not_lt, Int.not_le] at h26
            refine skip ?_
            refine n_then ?_
            refine seq ?_
            have hcne : (cycR (Ob E) N) ≠ [] := fun h => by rw [h] at h26; simp at h26
            obtain ⟨kc, nc, hI⟩ := cyc_is hNO hcne
            have hpos := hI.pos
            have hlen := hI.len
            obtain ⟨bbc, offc, rfl, hcc⟩ := hC.at_ (i := 0) (by omega)
            have cc0 := hcc 0 _ hI.hd 0 _ rfl
            have hkN : kc ∈ N := hI.lst.inN hNO
            have hkc : [kc].length = 1 := rfl
            refine region ?_
            refine op (y (x_move rfl) rfl ?_)
            refine op (y (x_indexNat (j := 0) sz_23 rfl rfl (by omega)) rfl ?_)
            refine op (y (x_load1 ag_3 rfl (by first | assumption | exact Cell.own 0 rfl rfl | exact Cell.own 1 rfl rfl | exact Cell.own 2 rfl rfl | exact Cell.own 3 rfl rfl | exact Cell.own 4 rfl rfl | exact Cell.own 5 rfl rfl | exact Cell.ofRo (by assumption))) rfl ?_)
            refine op (e_slice1 rfl Try.underlying23 ti_3 rfl rfl (by decide) (by decide) rfl rfl rfl fun b132 => ?_)
            refine op (y (x_assign rfl) rfl ?_)
            refine nil ?_
            refine n_then ?_
            refine seq ?_
            refine seq ?_
            refine region ?_
            refine op (y (x_assign rfl) rfl ?_)
            refine nil ?_
            refine n_then ?_
            refine block ?_
            refine loop (fun m F rob' Lb' => ∃ (j : Nat) (att : List Int) (A14 : Option Addr) (cap14 : Nat) (R14 : List Blk), (m = (cycR (Ob E) N).length + 1 - j) ∧ (F = [(0, .slice A l.length cap), (6, .pointer (some ⟨x, 0, none⟩)), (8, .slice (some ⟨bbc, offc, none⟩) (cycR (Ob E) N).length cap48), (14, .slice A14 att.length cap14), (15, .int .i64 (j : Nat))]) ∧ (ro' = rob') ∧ (Lb' = R14 :: [(b7, .cells [.slice A2 N.length cap2, .slice B2 E.length cap3].toArray 63 (0, 0))] :: R :: L) ∧ (1 ≤ j) ∧ (j ≤ (cycR (Ob E) N).length + 1) ∧ (OwnS 3 1 A14 att.length cap14 (att.flatMap encInt) R14) ∧ (att.Nodup) ∧ (∀ z, z ∈ att ↔ Wk (Ob E) z (j - 1) kc) ∧ (att.length ≤ N.length)) ((cycR (Ob E) N).length + 1 - 1) [(0, .slice A l.length cap), (6, .pointer (some ⟨x, 0, none⟩)), (8, .slice (some ⟨bbc, offc, none⟩) (cycR (Ob E) N).length cap48), (14, .slice _ ([kc]).length _), (15, .int .i64 (1 : Nat))] ⟨rfl, rfl, rfl, rfl, rfl, trivial⟩ ⟨1, [kc], _, _, _, rfl, rfl, rfl, rfl, by omega, by omega, OwnS.one, by simp, fun z => by rw [List.mem_singleton]; show z = kc ↔ kc = z; exact eq_comm, by have := List.length_pos_of_mem hkN; simp; omega⟩ ?_
            rintro m F rob' Lb' ⟨j, att, A14, cap14, R14, rfl, rfl, rfl, rfl, hj1, hj2, hT14, hnd, hmem, hatl⟩
            refine seq ?_
            refine seq ?_
            refine region ?_
            refine op (y (x_move rfl) rfl ?_)
            refine op (y (x_move rfl) rfl ?_)
            refine op (y (x_lenSl sz_23 rfl) rfl ?_)
            refine op (y (x_leq rfl rfl) rfl ?_)
            refine nil ?_
            refine n_then ?_
            refine cond rfl (fun h30 => ?_) (fun h30 => ?_)
            · try simp only [decide_eq_true_eq, decide_eq_false_iff_not, beq_iff_eq, bne_iff_ne, ne_eq, beq_eq_false_iff_ne, bne_eq_false_iff_eq, Bool.not_eq_true', Bool.not_eq_false', Bool.not_eq_true, Bool.not_eq_false, Decidable.not_not, Int.not_lt, Int.not_le] at h30
              refine skip ?_
              refine n_then ?_
              refine seq ?_
              refine block ?_
              refine seq ?_
              refine region ?_
              refine op (y (x_assign rfl) rfl ?_)
              refine nil ?_
              refine n_then ?_
              refine seq ?_
              refine seq ?_
              refine region ?_
              refine op (y (x_assign rfl) rfl ?_)
              refine nil ?_
              refine n_then ?_
              refine block ?_
              refine emp ?_
              refine loop (fun m F rob' Lb' => ∃ (i : Nat) (to : List Int) (A16 : Option Addr) (cap16 : Nat) (R16 : List Blk), (m = att.length - i) ∧ (F = [(0, .slice A l.length cap), (6, .pointer (some ⟨x, 0, none⟩)), (8, .slice (some ⟨bbc, offc, none⟩) (cycR (Ob E) N).length cap48), (14, .slice A14 att.length cap14), (15, .int .i64 (j : Nat)), (16, .slice A16 to.length cap16), (17, .int .i64 (i : Nat))]) ∧ (ro' = rob') ∧ (Lb' = R16 :: R14 :: [(b7, .cells [.slice A2 N.length cap2, .slice B2 E.length cap3].toArray 63 (0, 0))] :: R :: L) ∧ (i ≤ att.length) ∧ (OwnS 3 1 A16 to.length cap16 (to.flatMap encInt) R16) ∧ (to.Nodup) ∧ (∀ z, z ∈ to ↔ ∃ w ∈ att.take i, z ∈ Ob E w)) (att.length - 0) [(0, .slice A l.length cap), (6, .pointer (some ⟨x, 0, none⟩)), (8, .slice (some ⟨bbc, offc, none⟩) (cycR (Ob E) N).length cap48), (14, .slice A14 att.length cap14), (15, .int .i64 (j : Nat)), (16, .slice none (([] : List Int)).length 0), (17, .int .i64 (0 : Nat))] ⟨rfl, rfl, rfl, rfl, rfl, rfl, rfl, trivial⟩ ⟨0, ([] : List Int), none, 0, _, rfl, rfl, rfl, rfl, by omega, OwnS.none_ 3 1, by simp, fun z => by simp⟩ ?_
              rintro m F rob' Lb' ⟨i, to, A16, cap16, R16, rfl, rfl, rfl, rfl, hi, hO16, htn, htm⟩
              refine seq ?_
              refine seq ?_
              refine region ?_
              refine op (y (x_move rfl) rfl ?_)
              refine op (y (x_move rfl) rfl ?_)
              refine op (y (x_lenSl sz_23 rfl) rfl ?_)
              refine op (y (x_lss rfl rfl) rfl ?_)
              refine nil ?_
              refine n_then ?_
              refine cond rfl (fun h34 => ?_) (fun h34 => ?_)
              · try simp only [decide_eq_true_eq, decide_eq_false_iff_not, beq_iff_eq, bne_iff_ne, ne_eq, beq_eq_false_iff_ne, bne_eq_false_iff_eq, Bool.not_eq_true', Bool.not_eq_false', Bool.not_eq_true, Bool.not_eq_false, Decidable.not_not, Int.not_lt, Int.not_le] at h34
                refine skip ?_
                refine n_then ?_
                refine seq ?_
                refine block ?_
                refine seq ?_
                have hia : i < att.length := by omega
                obtain ⟨b5, off5, cur5, rfl, rfl, ya, hya, hc5⟩ := OwnS.intAt hT14 hia rfl
                refine region ?_
                refine op (y (x_move rfl) rfl ?_)
                refine op (y (x_move rfl) rfl ?_)
                refine op (y (x_move rfl) rfl ?_)
                refine op (y (x_indexNat sz_23 rfl rfl (by omega)) rfl ?_)
                refine op (y (x_load1 ag_3 rfl (Cell.own 1 rfl hc5)) rfl ?_)
                refine op (e_call rfl fn_54 rfl rfl (GrOut_c x N E R _ _ hR (by simp) (by omega) (by omega) ya) fun v150 ro150 L150 hle150 hp150 => ?_)
                obtain ⟨A18, cap18, R18, rfl, hO18, rfl, rfl⟩ := hp150
                have hbl : (BehindR (prE E) ya).length ≤ 1000 := by
                  have h1 := len_prs (nodup_lt (BehindR_spec (prE E) ya).1) (fun b hb => ((BehindR_spec (prE E) ya).2 b).1 hb)
                  have h2 := (prE_spec E).2.1
                  omega
                refine op (y (x_assign rfl) rfl ?_)
                refine nil ?_
                refine n_then ?_
                refine seq ?_
                refine region ?_
                refine op (y (x_assign rfl) rfl ?_)
                refine nil ?_
                refine n_then ?_
                refine block ?_
                refine loop (fun m F rob' Lb' => ∃ (q : Nat) (to2 : List Int) (A16 : Option Addr) (cap16 : Nat) (R16 : List Blk), (m = (BehindR (prE E) ya).length - q) ∧ (F = [(0, .slice A l.length cap), (6, .pointer (some ⟨x, 0, none⟩)), (8, .slice (some ⟨bbc, offc, none⟩) (cycR (Ob E) N).length cap48), (14, .slice (some ⟨b5, off5, none⟩) att.length cap14), (15, .int .i64 (j : Nat)), (17, .int .i64 (i : Nat)), (16, .slice A16 to2.length cap16), (18, .slice A18 (BehindR (prE E) ya).length cap18), (19, .int .i64 (q : Nat))]) ∧ (ro' = rob') ∧ (Lb' = R18 :: R16 :: [(b5, .cells cur5 3 (0, 0))] :: [(b7, .cells [.slice A2 N.length cap2, .slice B2 E.length cap3].toArray 63 (0, 0))] :: R :: L) ∧ (q ≤ (BehindR (prE E) ya).length) ∧ (OwnS 3 1 A16 to2.length cap16 (to2.flatMap encInt) R16) ∧ (to2.Nodup) ∧ (∀ z, z ∈ to2 ↔ (∃ w ∈ att.take i, z ∈ Ob E w) ∨ z ∈ (BehindR (prE E) ya).take q)) ((BehindR (prE E) ya).length - 0) [(0, .slice A l.length cap), (6, .pointer (some ⟨x, 0, none⟩)), (8, .slice (some ⟨bbc, offc, none⟩) (cycR (Ob E) N).length cap48), (14, .slice (some ⟨b5, off5, none⟩) att.length cap14), (15, .int .i64 (j : Nat)), (17, .int .i64 (i : Nat)), (16, .slice _ to.length _), (18, .slice A18 (BehindR (prE E) ya).length cap18), (19, .int .i64 (0 : Nat))] ⟨rfl, rfl, rfl, rfl, rfl, rfl, rfl, rfl, rfl, trivial⟩ ⟨0, to, _, _, _, rfl, rfl, rfl, rfl, by omega, hO16, htn, fun z => by rw [htm]; simp⟩ ?_
                rintro m F rob' Lb' ⟨q, to2, A16, cap16, R16, rfl, rfl, rfl, rfl, hq, hO16, htn2, htm2⟩
                refine seq ?_
                refine seq ?_
                refine region ?_
                refine op (y (x_move rfl) rfl ?_)
                refine op (y (x_move rfl) rfl ?_)
                refine op (y (x_lenSl sz_23 rfl) rfl ?_)
                refine op (y (x_lss rfl rfl) rfl ?_)
                refine nil ?_
                refine n_then ?_
                refine cond rfl (fun h38 => ?_) (fun h38 => ?_)
                · try simp only [decide_eq_true_eq, decide_eq_false_iff_not, beq_iff_eq, bne_iff_ne, ne_eq, beq_eq_false_iff_ne, bne_eq_false_iff_eq, Bool.not_eq_true', Bool.not_eq_false', Bool.not_eq_true, Bool.not_eq_false, Decidable.not_not, Int.not_lt, Int.not_le] at h38
                  refine skip ?_
                  refine n_then ?_
                  refine seqM (fun F roc' Lc' => ∃ (to2 : List Int) (A16 : Option Addr) (cap16 : Nat) (R16 : List Blk), (F = [(0, .slice A l.length cap), (6, .pointer (some ⟨x, 0, none⟩)), (8, .slice (some ⟨bbc, offc, none⟩) (cycR (Ob E) N).length cap48), (14, .slice (some ⟨b5, off5, none⟩) att.length cap14), (15, .int .i64 (j : Nat)), (17, .int .i64 (i : Nat)), (16, .slice A16 to2.length cap16), (18, .slice A18 (BehindR (prE E) ya).length cap18), (19, .int .i64 (q : Nat))]) ∧ (ro' = roc') ∧ (Lc' = R18 :: R16 :: [(b5, .cells cur5 3 (0, 0))] :: [(b7, .cells [.slice A2 N.length cap2, .slice B2 E.length cap3].toArray 63 (0, 0))] :: R :: L) ∧ (q < (BehindR (prE E) ya).length) ∧ (OwnS 3 1 A16 to2.length cap16 (to2.flatMap encInt) R16) ∧ (to2.Nodup) ∧ (∀ z, z ∈ to2 ↔ (∃ w ∈ att.take i, z ∈ Ob E w) ∨ z ∈ (BehindR (prE E) ya).take (q + 1))) ?_ ?_
                  · skip
                    refine block ?_
                    refine seq ?_
                    have hql : q < (BehindR (prE E) ya).length := by omega
                    obtain ⟨b6, off6, cur6, rfl, rfl, yq, hyq, hc6⟩ := OwnS.intAt hO18 hql rfl
                    have hyO : yq ∈ Ob E ya := List.mem_of_getElem? hyq
                    have htl2 : to2.length ≤ N.length := nodup_le htn2 (fun z hz => by
                      rcases (htm2 z).1 hz with ⟨w, _, h⟩ | h
                      · exact hNO2 _ _ h
                      · exact hNO2 _ _ (List.mem_of_mem_take h))
                    refine region ?_
                    refine op (y (x_move rfl) rfl ?_)
                    refine op (y (x_move rfl) rfl ?_)
                    refine op (y (x_move rfl) rfl ?_)
                    refine op (y (x_indexNat sz_23 rfl rfl (by omega)) rfl ?_)
                    refine op (y (x_load1 ag_3 rfl (Cell.own 0 rfl hc6)) rfl ?_)
                    refine op (e_call rfl fn_51 rfl rfl (PlaceO_c to2 A16 cap16 R16 yq _ _ hO16 (fun z hz => mem1 (mem0 hz)) (by omega)) fun v162 ro162 L162 hle162 hp162 => ?_)
                    obtain ⟨pi, rfl, hPl, rfl, rfl⟩ := hp162
                    have hpi := hPl.iff
                    refine op (y (x_lss rfl rfl) rfl ?_)
                    refine nil ?_
                    refine n_then ?_
                    refine cond rfl (fun h40 => ?_) (fun h40 => ?_)
                    · try simp only [decide_eq_true_eq, decide_eq_false_iff_not, beq_iff_eq, bne_iff_ne, ne_eq, beq_eq_false_iff_ne, bne_eq_false_iff_eq, Bool.not_eq_true', Bool.not_eq_false', Bool.not_eq_true, Bool.not_eq_false, Decidable.not_not, Int.not_lt, Int.not_le] at h40
                      refine region ?_
                      refine op (y (x_move rfl) rfl ?_)
                      refine op (y (x_move rfl) rfl ?_)
                      refine op (y (x_move rfl) rfl ?_)
                      refine op (y (x_indexNat sz_23 rfl rfl (by omega)) rfl ?_)
                      refine op (y (x_load1 ag_3 rfl (Cell.own 0 rfl hc6)) rfl ?_)
                      refine op (e_slice1 rfl Try.underlying23 ti_3 rfl rfl (by decide) (by decide) rfl rfl rfl fun b169 => ?_)
                      refine op (e_append1 1 rfl st_23 rfl rfl rfl hO16 rfl rfl (by omega) (by omega) (fun _ => rfl) fun A170 cap170 R170 hO170 => ?_)
                      refine op (y (x_assign rfl) rfl ?_)
                      refine nil ?_
                      refine n_in ?_
                      have hny : yq ∉ to2 := fun h => by have := hpi.2 h; omega
                      have hl2 : (to2 ++ [yq]).length = to2.length + 1 := by simp
                      rw [← hl2] at hO170 ⊢
                      exact mid [(0, .slice A l.length cap), (6, .pointer (some ⟨x, 0, none⟩)), (8, .slice (some ⟨bbc, offc, none⟩) (cycR (Ob E) N).length cap48), (14, .slice (some ⟨b5, off5, none⟩) att.length cap14), (15, .int .i64 (j : Nat)), (17, .int .i64 (i : Nat)), (16, .slice _ ((to2 ++ [yq])).length _), (18, .slice _ (BehindR (prE E) ya).length cap18), (19, .int .i64 (q : Nat))] ⟨rfl, rfl, rfl, rfl, rfl, rfl, rfl, rfl, rfl, trivial⟩ ⟨(to2 ++ [yq]), _, _, _, rfl, rfl, rfl, hql, hO170.snoc, by rw [List.nodup_append]; exact ⟨htn2, by simp, fun u hu w hw e => by rw [List.mem_singleton.1 hw] at e; subst e; exact hny hu⟩, fun z => by rw [List.mem_append, List.mem_singleton, htm2, take_snoc' hyq, List.mem_append, List.mem_singleton, or_assoc]⟩
                    · try simp only [decide_eq_true_eq, decide_eq_false_iff_not, beq_iff_eq, bne_iff_ne, ne_eq, beq_eq_false_iff_ne, bne_eq_false_iff_eq, Bool.not_eq_true', Bool.not_eq_false', Bool.not_eq_true, Bool.not_eq_false, Decidable.not_not, Int.not_lt, Int.not_le] at h40
                      refine skip ?_
                      refine n_in ?_
                      have hny : yq ∈ to2 := hpi.1 (by omega)
                      exact mid [(0, .slice A l.length cap), (6, .pointer (some ⟨x, 0, none⟩)), (8, .slice (some ⟨bbc, offc, none⟩) (cycR (Ob E) N).length cap48), (14, .slice (some ⟨b5, off5, none⟩) att.length cap14), (15, .int .i64 (j : Nat)), (17, .int .i64 (i : Nat)), (16, .slice _ to2.length _), (18, .slice _ (BehindR (prE E) ya).length cap18), (19, .int .i64 (q : Nat))] ⟨rfl, rfl, rfl, rfl, rfl, rfl, rfl, rfl, rfl, trivial⟩ ⟨to2, _, _, _, rfl, rfl, rfl, hql, hO16, htn2, fun z => by
                          rw [take_snoc' hyq, List.mem_append, List.mem_singleton]
                          constructor
                          · intro h
                            rcases (htm2 z).1 h with h | h
                            · exact .inl h
                            · exact .inr (.inl h)
                          · rintro (h | h | rfl)
                            · exact (htm2 z).2 (.inl h)
                            · exact (htm2 z).2 (.inr h)
                            · exact hny⟩
                  · rintro F roc' Lc' ⟨to2, A16, cap16, R16, rfl, rfl, rfl, hql, hO16, htn2, htm2⟩
                    refine region ?_
                    refine op (y (x_move rfl) rfl ?_)
                    refine op (y (x_add rfl rfl _ (wr (by omega) (by omega))) rfl ?_)
                    refine op (y (x_assign rfl) rfl ?_)
                    refine nil ?_
                    exact round ((BehindR (prE E) ya).length - (q + 1)) [(0, .slice A l.length cap), (6, .pointer (some ⟨x, 0, none⟩)), (8, .slice (some ⟨bbc, offc, none⟩) (cycR (Ob E) N).length cap48), (14, .slice (some ⟨b5, off5, none⟩) att.length cap14), (15, .int .i64 (j : Nat)), (17, .int .i64 (i : Nat)), (16, .slice _ to2.length _), (18, .slice _ (BehindR (prE E) ya).length cap18), (19, .int .i64 ((q + 1) : Nat))] (by omega) ⟨rfl, rfl, rfl, rfl, rfl, rfl, rfl, rfl, rfl, trivial⟩ ⟨q + 1, to2, _, _, _, rfl, rfl, rfl, rfl, by omega, hO16, htn2, htm2⟩
                · try simp only [decide_eq_true_eq, decide_eq_false_iff_not, beq_iff_eq, bne_iff_ne, ne_eq, beq_eq_false_iff_ne, bne_eq_false_iff_eq, Bool.not_eq_true', Bool.not_eq_false', Bool.not_eq_true, Bool.not_eq_false, Decidable.not_not, Int.not_lt, Int.not_le] at h38
                  refine exit ?_
                  refine e_then ?_
                  refine e_then ?_
                  refine e_in ?_
                  refine n_in ?_
                  refine n_then ?_
                  refine region ?_
                  refine op (y (x_move rfl) rfl ?_)
                  refine op (y (x_add rfl rfl _ (wr (by omega) (by omega))) rfl ?_)
                  refine op (y (x_assign rfl) rfl ?_)
                  refine nil ?_
                  have hqe : q = (BehindR (prE E) ya).length := by omega
                  subst hqe
                  rw [List.take_length] at htm2
                  refine drop0 ?_
                  exact round (att.length - (i + 1)) [(0, .slice A l.length cap), (6, .pointer (some ⟨x, 0, none⟩)), (8, .slice (some ⟨bbc, offc, none⟩) (cycR (Ob E) N).length cap48), (14, .slice _ att.length cap14), (15, .int .i64 (j : Nat)), (16, .slice _ to2.length _), (17, .int .i64 ((i + 1) : Nat))] (by omega) ⟨rfl, rfl, rfl, rfl, rfl, rfl, rfl, trivial⟩ ⟨i + 1, to2, _, _, _, rfl, rfl, rfl, rfl, by omega, hO16, htn2, fun z => by
                      rw [htm2, take_snoc' hya]
                      constructor
                      · rintro (⟨w, h1, h2⟩ | h)
                        · exact ⟨w, List.mem_append_left _ h1, h2⟩
                        · exact ⟨ya, List.mem_append_right _ (List.mem_singleton.2 rfl), h⟩
                      · rintro ⟨w, h1, h2⟩
                        rcases List.mem_append.1 h1 with h1 | h1
                        · exact .inl ⟨w, h1, h2⟩
                        · rw [List.mem_singleton.1 h1] at h2; exact .inr h2⟩
              · try simp only [decide_eq_true_eq, decide_eq_false_iff_not, beq_iff_eq, bne_iff_ne, ne_eq, beq_eq_false_iff_ne, bne_eq_false_iff_eq, Bool.not_eq_true', Bool.not_eq_false', Bool.not_eq_true, Bool.not_eq_false, Decidable.not_not, Int.not_lt, Int.not_le] at h34
                refine exit ?_
                refine e_then ?_
                refine e_then ?_
                refine e_in ?_
                refine n_then ?_
                refine seq ?_
                obtain rfl : i = att.length := by omega
                rw [List.take_length] at htm
                have htW : ∀ z, z ∈ to ↔ Wk (Ob E) z j kc := fun z => by
                  rw [htm]
                  obtain ⟨j2, rfl⟩ : ∃ j2, j = j2 + 1 := ⟨j - 1, by omega⟩
                  constructor
                  · rintro ⟨w, h1, h2⟩
                    exact Wk.snoc h2 ((hmem w).1 h1)
                  · intro h
                    obtain ⟨w, h1, h2⟩ := Wk.unsnoc h
                    exact ⟨w, (hmem w).2 h1, h2⟩
                have htl : to.length ≤ N.length := nodup_le htn (fun z hz => by
                  obtain ⟨w, _, h⟩ := (htm z).1 hz
                  exact hNO2 _ _ h)
                have hkk : kc ∈ to ↔ j = nc := by
                  rw [htW]
                  constructor
                  · intro h
                    have h1 := hI.lst
                    rcases Nat.lt_or_ge j nc with h2 | h2
                    · exact absurd h (h1.2.2 j (by omega) h2)
                    · omega
                  · rintro rfl; exact hI.lst.2.1
                refine drop1 ?_
                refine region ?_
                refine op (y (x_move rfl) rfl ?_)
                refine op (y (x_assign rfl) rfl ?_)
                refine nil ?_
                refine n_then ?_
                refine seq ?_
                refine region ?_
                refine op (y (x_move rfl) rfl ?_)
                refine op (y (x_move rfl) rfl ?_)
                refine op (y (x_indexNat (j := 0) sz_23 rfl rfl (by omega)) rfl ?_)
                refine op (y (x_load1 ag_3 rfl (by first | assumption | exact Cell.own 0 rfl rfl | exact Cell.own 1 rfl rfl | exact Cell.own 2 rfl rfl | exact Cell.own 3 rfl rfl | exact Cell.own 4 rfl rfl | exact Cell.own 5 rfl rfl | exact Cell.ofRo (by assumption))) rfl ?_)
                refine op (e_call rfl fn_51 rfl rfl (PlaceO_c to A16 cap16 R16 kc _ _ hO16 (fun z hz => mem0 hz) (by omega)) fun v176 ro176 L176 hle176 hp176 => ?_)
                obtain ⟨pi, rfl, hPl, rfl, rfl⟩ := hp176
                have hpi := hPl.iff
                have hde : decide (0 ≤ pi) = (((j : Nat) : Int) == ((cycR (Ob E) N).length : Nat)) := by
                  rw [Bool.eq_iff_iff, decide_eq_true_eq, beq_iff_eq, hpi, hkk]; omega
                refine op (y (x_geq rfl rfl) rfl ?_)
                refine op (y (x_move rfl) rfl ?_)
                refine op (y (x_move rfl) rfl ?_)
                refine op (y (x_lenSl sz_23 rfl) rfl ?_)
                refine op (y (x_eql rfl rfl) rfl ?_)
                refine op (y ((x_bneq Try.underlying4 rfl rfl).as (v' := .bool false) (by rw [hde]; simp)) rfl ?_)
                refine nil ?_
                refine n_then ?_
                refine condF rfl ?_
                refine skip ?_
                refine n_in ?_
                refine n_then ?_
                refine region ?_
                refine op (y (x_move rfl) rfl ?_)
                refine op (y (x_add rfl rfl _ (wr (by omega) (by omega))) rfl ?_)
                refine op (y (x_assign rfl) rfl ?_)
                refine nil ?_
                exact round ((cycR (Ob E) N).length + 1 - (j + 1)) [(0, .slice A l.length cap), (6, .pointer (some ⟨x, 0, none⟩)), (8, .slice (some ⟨bbc, offc, none⟩) (cycR (Ob E) N).length cap48), (14, .slice _ to.length _), (15, .int .i64 ((j + 1) : Nat))] (by omega) ⟨rfl, rfl, rfl, rfl, rfl, trivial⟩ ⟨j + 1, to, _, _, _, rfl, rfl, rfl, rfl, by omega, by omega, hO16, htn, htW, htl⟩
            · try simp only [decide_eq_true_eq, decide_eq_false_iff_not, beq_iff_eq, bne_iff_ne, ne_eq, beq_eq_false_iff_ne, bne_eq_false_iff_eq, Bool.not_eq_true', Bool.not_eq_false', Bool.not_eq_true, Bool.not_eq_false, Decidable.not_not, Int.not_lt, Int.not_le] at h30
              refine exit ?_
              refine e_then ?_
              refine e_then ?_
              refine e_in ?_
              refine n_then ?_
              refine seq ?_
              refine drop0 ?_
              refine region ?_
              refine op (y (x_move rfl) rfl ?_)
              refine op (e_call rfl fn_48 rfl rfl (GrParts_c x N E R _ _ hR (by simp) hq1 (by omega) (by omega)) fun v184 ro184 L184 hle184 hp184 => ?_)
              obtain ⟨ps, vs, A184, cap184, R184, RI184, rfl, hO184, hIn, hps, hLL⟩ := hp184
              subst hLL
              have hvl := InS.len hIn
              refine ufreeze fun ro184x hle184x hR184x => ?_
              have hSv := OwnS.vals hO184 hvl hR184x
              refine ufreeze fun ro184y hle184y hR184y => ?_
              have hSp := hSv.mono hle184y
              have hIs : ∀ {i : Nat} {p : List Int}, ps[i]? = some p → ∃ A, vs[i]? = some (.slice A p.length p.length) ∧ Sl ro184y 1 encInt A p.length p := fun h => InS.sl hIn hR184y h
              have hpl : ps.length ≤ 9223372036854775807 := by
                have h1 := OwnS.capLe hO184
                obtain ⟨_, ⟨_, h2, h3, _⟩ | ⟨_, _, _, _, _, h2, _, _⟩⟩ := hO184 <;> omega
              have hCz := ((hC.mono hle184).mono hle184x).mono hle184y
              have hcz : ∀ (i : Nat) (c : Int), (cycR (Ob E) N)[i]? = some c → ro184y.cell bbc (offc + i * 1 + 0) = some (.int .i64 c) := fun i c h => hle184y.cell (hle184x.cell (hle184.cell (hcc i c h 0 _ rfl)))
              have cc9 := hcz 0 _ hI.hd
              refine op (y (x_assign rfl) rfl ?_)
              refine nil ?_
              refine n_then ?_
              refine seq ?_
              refine seq ?_
              refine region ?_
              refine op (y (x_assign rfl) rfl ?_)
              refine nil ?_
              refine n_then ?_
              refine block ?_
              refine loop (fun m F rob' Lb' => ∃ (i : Nat), (m = ps.length - i) ∧ (F = [(0, .slice A l.length cap), (6, .pointer (some ⟨x, 0, none⟩)), (8, .slice (some ⟨bbc, offc, none⟩) (cycR (Ob E) N).length cap48), (20, .slice A184 ps.length cap184), (21, .int .i64 (i : Nat))]) ∧ (ro184y = rob') ∧ (Lb' = [(b7, .cells [.slice A2 N.length cap2, .slice B2 E.length cap3].toArray 63 (0, 0))] :: R :: L) ∧ (i ≤ ps.length)) (ps.length - 0) [(0, .slice A l.length cap), (6, .pointer (some ⟨x, 0, none⟩)), (8, .slice (some ⟨bbc, offc, none⟩) (cycR (Ob E) N).length cap48), (20, .slice A184 ps.length cap184), (21, .int .i64 (0 : Nat))] ⟨rfl, rfl, rfl, rfl, rfl, trivial⟩ ⟨0, rfl, rfl, rfl, rfl, by omega⟩ ?_
              rintro m F rob' Lb' ⟨i, rfl, rfl, rfl, rfl, hi⟩
              refine seq ?_
              refine seq ?_
              refine region ?_
              refine op (y (x_move rfl) rfl ?_)
              refine op (y (x_move rfl) rfl ?_)
              refine op (y (x_lenSl sz_69 rfl) rfl ?_)
              refine op (y (x_lss rfl rfl) rfl ?_)
              refine nil ?_
              refine n_then ?_
              refine cond rfl (fun h47 => ?_) (fun h47 => ?_)
              · try simp only [decide_eq_true_eq, decide_eq_false_iff_not, beq_iff_eq, bne_iff_ne, ne_eq, beq_eq_false_iff_ne, bne_eq_false_iff_eq, Bool.not_eq_true', Bool.not_eq_false', Bool.not_eq_true, Bool.not_eq_false, Decidable.not_not, Int.not_lt, Int.not_le] at h47
                refine skip ?_
                refine n_then ?_
                refine seqM (fun F ro' L' => (F = [(0, .slice A l.length cap), (6, .pointer (some ⟨x, 0, none⟩)), (8, .slice (some ⟨bbc, offc, none⟩) (cycR (Ob E) N).length cap48), (20, .slice A184 ps.length cap184), (21, .int .i64 (i : Nat))]) ∧ (ro184y = ro') ∧ (L' = [(b7, .cells [.slice A2 N.length cap2, .slice B2 E.length cap3].toArray 63 (0, 0))] :: R :: L) ∧ (i < ps.length)) ?_ ?_
                · skip
                  refine block ?_
                  refine seq ?_
                  refine seq ?_
                  have hil : i < vs.length := by omega
                  have hpx := List.getElem?_eq_getElem (show i < ps.length by omega)
                  have hpp := hIs hpx
                  have hpm : ps[i] ∈ partsR (Ob E) N := by rw [← hps]; exact List.getElem_mem _
                  generalize ps[i] = pq at *
                  obtain ⟨Aq, hvq, hSq⟩ := hpp
                  have hpos := parts_ne hpm
                  obtain ⟨bbp, offp, rfl, hcp⟩ := hSp.at_ hil
                  have cp0 := hcp i _ hvq 0 _ rfl
                  obtain ⟨bbq, offq, rfl, hcq⟩ := hSq.at_ hpos
                  have hq0 := List.getElem?_eq_getElem hpos
                  have cq0 := hcq 0 _ hq0 0 _ rfl
                  refine drawL (by kernel_rfl) ?_
                  refine d_take 0 rfl (by kernel_rfl) (by kernel_rfl) (by kernel_rfl) (fun _ _ _ h => h) rfl (.inl rfl) (x_move rfl) (fun w hi => by first | exact hi.j | exact J.of_le (Ro.le.refl _) (fun x hx => List.mem_append_right _ hx) hi | exact J.of_le (Ro.le.refl _) (fun x hx => List.mem_append_right _ (List.mem_append_right _ hx)) hi | exact J.of_le (Ro.le.refl _) (fun x hx => absurd hx (by simp)) hi | exact J.of_le (by assumption) (fun x hx => absurd hx (by simp)) hi) ?_
                  refine d_take 1 rfl (by kernel_rfl) (by kernel_rfl) (by kernel_rfl) (fun _ _ _ h => h) rfl (.inl rfl) (x_move rfl) (fun w hi => by first | exact hi.j | exact J.of_le (Ro.le.refl _) (fun x hx => List.mem_append_right _ hx) hi | exact J.of_le (Ro.le.refl _) (fun x hx => List.mem_append_right _ (List.mem_append_right _ hx)) hi | exact J.of_le (Ro.le.refl _) (fun x hx => absurd hx (by simp)) hi | exact J.of_le (by assumption) (fun x hx => absurd hx (by simp)) hi) ?_
                  refine d_take 2 rfl (by kernel_rfl) (by kernel_rfl) (by kernel_rfl) (fun _ _ _ h => h) rfl (.inl rfl) (x_indexNat sz_69 rfl rfl (by omega)) (fun w hi => by first | exact hi.j | exact J.of_le (Ro.le.refl _) (fun x hx => List.mem_append_right _ hx) hi | exact J.of_le (Ro.le.refl _) (fun x hx => List.mem_append_right _ (List.mem_append_right _ hx)) hi | exact J.of_le (Ro.le.refl _) (fun x hx => absurd hx (by simp)) hi | exact J.of_le (by assumption) (fun x hx => absurd hx (by simp)) hi) ?_
                  refine d_take 3 rfl (by kernel_rfl) (by kernel_rfl) (by kernel_rfl) (fun _ _ _ h => h) rfl (.inl rfl) (x_load1 ag_23 rfl (by first | assumption | exact Cell.own 0 rfl rfl | exact Cell.own 1 rfl rfl | exact Cell.own 2 rfl rfl | exact Cell.own 3 rfl rfl | exact Cell.own 4 rfl rfl | exact Cell.own 5 rfl rfl | exact Cell.ofRo (by assumption))) (fun w hi => by first | exact hi.j | exact J.of_le (Ro.le.refl _) (fun x hx => List.mem_append_right _ hx) hi | exact J.of_le (Ro.le.refl _) (fun x hx => List.mem_append_right _ (List.mem_append_right _ hx)) hi | exact J.of_le (Ro.le.refl _) (fun x hx => absurd hx (by simp)) hi | exact J.of_le (by assumption) (fun x hx => absurd hx (by simp)) hi) ?_
                  refine d_take 4 rfl (by kernel_rfl) (by kernel_rfl) (by kernel_rfl) (fun _ _ _ h => h) rfl (.inl rfl) (x_move rfl) (fun w hi => by first | exact hi.j | exact J.of_le (Ro.le.refl _) (fun x hx => List.mem_append_right _ hx) hi | exact J.of_le (Ro.le.refl _) (fun x hx => List.mem_append_right _ (List.mem_append_right _ hx)) hi | exact J.of_le (Ro.le.refl _) (fun x hx => absurd hx (by simp)) hi | exact J.of_le (by assumption) (fun x hx => absurd hx (by simp)) hi) ?_
                  refine d_take 5 rfl (by kernel_rfl) (by kernel_rfl) (by kernel_rfl) (fun _ _ _ h => h) rfl (.inl rfl) (x_indexNat (j := 0) sz_23 rfl rfl (by omega)) (fun w hi => by first | exact hi.j | exact J.of_le (Ro.le.refl _) (fun x hx => List.mem_append_right _ hx) hi | exact J.of_le (Ro.le.refl _) (fun x hx => List.mem_append_right _ (List.mem_append_right _ hx)) hi | exact J.of_le (Ro.le.refl _) (fun x hx => absurd hx (by simp)) hi | exact J.of_le (by assumption) (fun x hx => absurd hx (by simp)) hi) ?_
                  refine d_take 6 rfl (by kernel_rfl) (by kernel_rfl) (by kernel_rfl) (fun _ _ _ h => h) rfl (.inl rfl) (x_load1 ag_3 rfl (by first | assumption | exact Cell.own 0 rfl rfl | exact Cell.own 1 rfl rfl | exact Cell.own 2 rfl rfl | exact Cell.own 3 rfl rfl | exact Cell.own 4 rfl rfl | exact Cell.own 5 rfl rfl | exact Cell.ofRo (by assumption))) (fun w hi => by first | exact hi.j | exact J.of_le (Ro.le.refl _) (fun x hx => List.mem_append_right _ hx) hi | exact J.of_le (Ro.le.refl _) (fun x hx => List.mem_append_right _ (List.mem_append_right _ hx)) hi | exact J.of_le (Ro.le.refl _) (fun x hx => absurd hx (by simp)) hi | exact J.of_le (by assumption) (fun x hx => absurd hx (by simp)) hi) ?_
                  refine d_one 7 rfl (by kernel_rfl) (.inl rfl) (e_call rfl fn_51 rfl rfl (Place_c pq _ pq.length kc _ _ hSq) fun v198 ro198 L198 hle198 hp198 => ?_)
                  obtain ⟨pi, rfl, hPl, rfl, rfl⟩ := hp198
                  have hpi := hPl.iff
                  refine d_next (fun w hi => by first | exact hi.j | exact J.of_le (Ro.le.refl _) (fun x hx => List.mem_append_right _ hx) hi | exact J.of_le (Ro.le.refl _) (fun x hx => List.mem_append_right _ (List.mem_append_right _ hx)) hi | exact J.of_le (Ro.le.refl _) (fun x hx => absurd hx (by simp)) hi | exact J.of_le (by assumption) (fun x hx => absurd hx (by simp)) hi) ?_
                  refine d_take 8 rfl (by kernel_rfl) (by kernel_rfl) (by kernel_rfl) (fun _ _ _ h => h) rfl (.inl rfl) (x_lss rfl rfl) (fun w hi => by first | exact hi.j | exact J.of_le (Ro.le.refl _) (fun x hx => List.mem_append_right _ hx) hi | exact J.of_le (Ro.le.refl _) (fun x hx => List.mem_append_right _ (List.mem_append_right _ hx)) hi | exact J.of_le (Ro.le.refl _) (fun x hx => absurd hx (by simp)) hi | exact J.of_le (by assumption) (fun x hx => absurd hx (by simp)) hi) ?_
                  refine d_end (by kernel_rfl) ?_
                  refine n_then ?_
                  refine cond rfl (fun h49 => ?_) (fun h49 => ?_)
                  · try simp only [decide_eq_true_eq, decide_eq_false_iff_not, beq_iff_eq, bne_iff_ne, ne_eq, beq_eq_false_iff_ne, bne_eq_false_iff_eq, Bool.not_eq_true', Bool.not_eq_false', Bool.not_eq_true, Bool.not_eq_false, Decidable.not_not, Int.not_lt, Int.not_le] at h49
                    refine exit ?_
                    refine e_then ?_
                    refine e_in ?_
                    exact mid [(0, .slice A l.length cap), (6, .pointer (some ⟨x, 0, none⟩)), (8, .slice (some ⟨bbc, offc, none⟩) (cycR (Ob E) N).length cap48), (20, .slice _ ps.length cap184), (21, .int .i64 (i : Nat))] ⟨rfl, rfl, rfl, rfl, rfl, trivial⟩ ⟨rfl, rfl, rfl, by omega⟩
                  · try simp only [decide_eq_true_eq, decide_eq_false_iff_not, beq_iff_eq, bne_iff_ne, ne_eq, beq_eq_false_iff_ne, bne_eq_false_iff_eq, Bool.not_eq_true', Bool.not_eq_false', Bool.not_eq_true, Bool.not_eq_false, Decidable.not_not, Int.not_lt, Int.not_le] at h49
                    refine skip ?_
                    refine n_then ?_
                    refine seq ?_
                    refine region ?_
                    refine op (y (x_assign rfl) rfl ?_)
                    refine nil ?_
                    refine n_then ?_
                    refine block ?_
                    have hkp : kc ∈ pq := hpi.1 (by omega)
                    refine loop (fun m F rob' Lb' => ∃ (k : Nat), (m = (cycR (Ob E) N).length - k) ∧ (F = [(0, .slice A l.length cap), (6, .pointer (some ⟨x, 0, none⟩)), (8, .slice (some ⟨bbc, offc, none⟩) (cycR (Ob E) N).length cap48), (20, .slice (some ⟨bbp, offp, none⟩) ps.length cap184), (21, .int .i64 (i : Nat)), (22, .int .i64 (k : Nat))]) ∧ (ro184y = rob') ∧ (Lb' = [(b7, .cells [.slice A2 N.length cap2, .slice B2 E.length cap3].toArray 63 (0, 0))] :: R :: L) ∧ (k ≤ (cycR (Ob E) N).length)) ((cycR (Ob E) N).length - 0) [(0, .slice A l.length cap), (6, .pointer (some ⟨x, 0, none⟩)), (8, .slice (some ⟨bbc, offc, none⟩) (cycR (Ob E) N).length cap48), (20, .slice (some ⟨bbp, offp, none⟩) ps.length cap184), (21, .int .i64 (i : Nat)), (22, .int .i64 (0 : Nat))] ⟨rfl, rfl, rfl, rfl, rfl, rfl, trivial⟩ ⟨0, rfl, rfl, rfl, rfl, by omega⟩ ?_
                    rintro m F rob' Lb' ⟨k, rfl, rfl, rfl, rfl, hk⟩
                    refine seq ?_
                    refine seq ?_
                    refine region ?_
                    refine op (y (x_move rfl) rfl ?_)
                    refine op (y (x_move rfl) rfl ?_)
                    refine op (y (x_lenSl sz_23 rfl) rfl ?_)
                    refine op (y (x_lss rfl rfl) rfl ?_)
                    refine nil ?_
                    refine n_then ?_
                    refine cond rfl (fun h51 => ?_) (fun h51 => ?_)
                    · try simp only [decide_eq_true_eq, decide_eq_false_iff_not, beq_iff_eq, bne_iff_ne, ne_eq, beq_eq_false_iff_ne, bne_eq_false_iff_eq, Bool.not_eq_true', Bool.not_eq_false', Bool.not_eq_true, Bool.not_eq_false, Decidable.not_not, Int.not_lt, Int.not_le] at h51
                      refine skip ?_
                      refine n_then ?_
                      refine seq ?_
                      refine block ?_
                      refine seq ?_
                      have hkl : k < (cycR (Ob E) N).length := by omega
                      have hxk := List.getElem?_eq_getElem hkl
                      have ck0 := hcz k _ hxk
                      refine drawL (by kernel_rfl) ?_
                      refine d_take 0 rfl (by kernel_rfl) (by kernel_rfl) (by kernel_rfl) (fun _ _ _ h => h) rfl (.inl rfl) (x_move rfl) (fun w hi => by first | exact hi.j | exact J.of_le (Ro.le.refl _) (fun x hx => List.mem_append_right _ hx) hi | exact J.of_le (Ro.le.refl _) (fun x hx => List.mem_append_right _ (List.mem_append_right _ hx)) hi | exact J.of_le (Ro.le.refl _) (fun x hx => absurd hx (by simp)) hi | exact J.of_le (by assumption) (fun x hx => absurd hx (by simp)) hi) ?_
                      refine d_take 1 rfl (by kernel_rfl) (by kernel_rfl) (by kernel_rfl) (fun _ _ _ h => h) rfl (.inl rfl) (x_move rfl) (fun w hi => by first | exact hi.j | exact J.of_le (Ro.le.refl _) (fun x hx => List.mem_append_right _ hx) hi | exact J.of_le (Ro.le.refl _) (fun x hx => List.mem_append_right _ (List.mem_append_right _ hx)) hi | exact J.of_le (Ro.le.refl _) (fun x hx => absurd hx (by simp)) hi | exact J.of_le (by assumption) (fun x hx => absurd hx (by simp)) hi) ?_
                      refine d_take 2 rfl (by kernel_rfl) (by kernel_rfl) (by kernel_rfl) (fun _ _ _ h => h) rfl (.inl rfl) (x_indexNat sz_69 rfl rfl (by omega)) (fun w hi => by first | exact hi.j | exact J.of_le (Ro.le.refl _) (fun x hx => List.mem_append_right _ hx) hi | exact J.of_le (Ro.le.refl _) (fun x hx => List.mem_append_right _ (List.mem_append_right _ hx)) hi | exact J.of_le (Ro.le.refl _) (fun x hx => absurd hx (by simp)) hi | exact J.of_le (by assumption) (fun x hx => absurd hx (by simp)) hi) ?_
                      refine d_take 3 rfl (by kernel_rfl) (by kernel_rfl) (by kernel_rfl) (fun _ _ _ h => h) rfl (.inl rfl) (x_load1 ag_23 rfl (by first | assumption | exact Cell.own 0 rfl rfl | exact Cell.own 1 rfl rfl | exact Cell.own 2 rfl rfl | exact Cell.own 3 rfl rfl | exact Cell.own 4 rfl rfl | exact Cell.own 5 rfl rfl | exact Cell.ofRo (by assumption))) (fun w hi => by first | exact hi.j | exact J.of_le (Ro.le.refl _) (fun x hx => List.mem_append_right _ hx) hi | exact J.of_le (Ro.le.refl _) (fun x hx => List.mem_append_right _ (List.mem_append_right _ hx)) hi | exact J.of_le (Ro.le.refl _) (fun x hx => absurd hx (by simp)) hi | exact J.of_le (by assumption) (fun x hx => absurd hx (by simp)) hi) ?_
                      refine d_take 4 rfl (by kernel_rfl) (by kernel_rfl) (by kernel_rfl) (fun _ _ _ h => h) rfl (.inl rfl) (x_move rfl) (fun w hi => by first | exact hi.j | exact J.of_le (Ro.le.refl _) (fun x hx => List.mem_append_right _ hx) hi | exact J.of_le (Ro.le.refl _) (fun x hx => List.mem_append_right _ (List.mem_append_right _ hx)) hi | exact J.of_le (Ro.le.refl _) (fun x hx => absurd hx (by simp)) hi | exact J.of_le (by assumption) (fun x hx => absurd hx (by simp)) hi) ?_
                      refine d_take 5 rfl (by kernel_rfl) (by kernel_rfl) (by kernel_rfl) (fun _ _ _ h => h) rfl (.inl rfl) (x_move rfl) (fun w hi => by first | exact hi.j | exact J.of_le (Ro.le.refl _) (fun x hx => List.mem_append_right _ hx) hi | exact J.of_le (Ro.le.refl _) (fun x hx => List.mem_append_right _ (List.mem_append_right _ hx)) hi | exact J.of_le (Ro.le.refl _) (fun x hx => absurd hx (by simp)) hi | exact J.of_le (by assumption) (fun x hx => absurd hx (by simp)) hi) ?_
                      refine d_take 6 rfl (by kernel_rfl) (by kernel_rfl) (by kernel_rfl) (fun _ _ _ h => h) rfl (.inl rfl) (x_indexNat sz_23 rfl rfl (by omega)) (fun w hi => by first | exact hi.j | exact J.of_le (Ro.le.refl _) (fun x hx => List.mem_append_right _ hx) hi | exact J.of_le (Ro.le.refl _) (fun x hx => List.mem_append_right _ (List.mem_append_right _ hx)) hi | exact J.of_le (Ro.le.refl _) (fun x hx => absurd hx (by simp)) hi | exact J.of_le (by assumption) (fun x hx => absurd hx (by simp)) hi) ?_
                      refine d_take 7 rfl (by kernel_rfl) (by kernel_rfl) (by kernel_rfl) (fun _ _ _ h => h) rfl (.inl rfl) (x_load1 ag_3 rfl (by first | assumption | exact Cell.own 0 rfl rfl | exact Cell.own 1 rfl rfl | exact Cell.own 2 rfl rfl | exact Cell.own 3 rfl rfl | exact Cell.own 4 rfl rfl | exact Cell.own 5 rfl rfl | exact Cell.ofRo (by assumption))) (fun w hi => by first | exact hi.j | exact J.of_le (Ro.le.refl _) (fun x hx => List.mem_append_right _ hx) hi | exact J.of_le (Ro.le.refl _) (fun x hx => List.mem_append_right _ (List.mem_append_right _ hx)) hi | exact J.of_le (Ro.le.refl _) (fun x hx => absurd hx (by simp)) hi | exact J.of_le (by assumption) (fun x hx => absurd hx (by simp)) hi) ?_
                      refine d_one 8 rfl (by kernel_rfl) (.inl rfl) (e_call rfl fn_51 rfl rfl (Place_c pq _ pq.length _ _ _ hSq) fun v214 ro214 L214 hle214 hp214 => ?_)
                      obtain ⟨pj, rfl, hPj, rfl, rfl⟩ := hp214
                      have hpj := hPj.ge (hI.part hNO hpm hkp hxk)
                      refine d_next (fun w hi => by first | exact hi.j | exact J.of_le (Ro.le.refl _) (fun x hx => List.mem_append_right _ hx) hi | exact J.of_le (Ro.le.refl _) (fun x hx => List.mem_append_right _ (List.mem_append_right _ hx)) hi | exact J.of_le (Ro.le.refl _) (fun x hx => absurd hx (by simp)) hi | exact J.of_le (by assumption) (fun x hx => absurd hx (by simp)) hi) ?_
                      refine d_take 9 rfl (by kernel_rfl) (by kernel_rfl) (by kernel_rfl) (fun _ _ _ h => h) rfl (.inl rfl) ((x_lss rfl rfl).as (v' := .bool false) (by rw [decide_eq_false (by omega)])) (fun w hi => by first | exact hi.j | exact J.of_le (Ro.le.refl _) (fun x hx => List.mem_append_right _ hx) hi | exact J.of_le (Ro.le.refl _) (fun x hx => List.mem_append_right _ (List.mem_append_right _ hx)) hi | exact J.of_le (Ro.le.refl _) (fun x hx => absurd hx (by simp)) hi | exact J.of_le (by assumption) (fun x hx => absurd hx (by simp)) hi) ?_
                      refine d_end (by kernel_rfl) ?_
                      refine n_then ?_
                      refine condF rfl ?_
                      refine skip ?_
                      refine n_in ?_
                      refine n_then ?_
                      refine region ?_
                      refine op (y (x_move rfl) rfl ?_)
                      refine op (y (x_add rfl rfl _ (wr (by omega) (by omega))) rfl ?_)
                      refine op (y (x_assign rfl) rfl ?_)
                      refine nil ?_
                      exact round ((cycR (Ob E) N).length - (k + 1)) [(0, .slice A l.length cap), (6, .pointer (some ⟨x, 0, none⟩)), (8, .slice (some ⟨bbc, offc, none⟩) (cycR (Ob E) N).length cap48), (20, .slice (some ⟨bbp, offp, none⟩) ps.length cap184), (21, .int .i64 (i : Nat)), (22, .int .i64 ((k + 1) : Nat))] (by omega) ⟨rfl, rfl, rfl, rfl, rfl, rfl, trivial⟩ ⟨k + 1, rfl, rfl, rfl, rfl, by omega⟩
                    · try simp only [decide_eq_true_eq, decide_eq_false_iff_not, beq_iff_eq, bne_iff_ne, ne_eq, beq_eq_false_iff_ne, bne_eq_false_iff_eq, Bool.not_eq_true', Bool.not_eq_false', Bool.not_eq_true, Bool.not_eq_false, Decidable.not_not, Int.not_lt, Int.not_le] at h51
                      refine exit ?_
                      refine e_then ?_
                      refine e_then ?_
                      refine e_in ?_
                      refine n_in ?_
                      exact mid [(0, .slice A l.length cap), (6, .pointer (some ⟨x, 0, none⟩)), (8, .slice (some ⟨bbc, offc, none⟩) (cycR (Ob E) N).length cap48), (20, .slice _ ps.length cap184), (21, .int .i64 (i : Nat))] ⟨rfl, rfl, rfl, rfl, rfl, trivial⟩ ⟨rfl, rfl, rfl, by omega⟩
                · rintro F ro' L' ⟨rfl, rfl, rfl, hilt⟩
                  refine region ?_
                  refine op (y (x_move rfl) rfl ?_)
                  refine op (y (x_add rfl rfl _ (wr (by omega) (by omega))) rfl ?_)
                  refine op (y (x_assign rfl) rfl ?_)
                  refine nil ?_
                  exact round (ps.length - (i + 1)) [(0, .slice A l.length cap), (6, .pointer (some ⟨x, 0, none⟩)), (8, .slice (some ⟨bbc, offc, none⟩) (cycR (Ob E) N).length cap48), (20, .slice A184 ps.length cap184), (21, .int .i64 ((i + 1) : Nat))] (by omega) ⟨rfl, rfl, rfl, rfl, rfl, trivial⟩ ⟨i + 1, rfl, rfl, rfl, rfl, by omega⟩
              · try simp only [decide_eq_true_eq, decide_eq_false_iff_not, beq_iff_eq, bne_iff_ne, ne_eq, beq_eq_false_iff_ne, bne_eq_false_iff_eq, Bool.not_eq_true', Bool.not_eq_false', Bool.not_eq_true, Bool.not_eq_false, Decidable.not_not, Int.not_lt, Int.not_le] at h47
                refine exit ?_
                refine e_then ?_
                refine e_then ?_
                refine e_in ?_
                refine n_then ?_
                refine seq ?_
                refine region ?_
                refine op (y (x_assign rfl) rfl ?_)
                refine nil ?_
                refine n_then ?_
                refine ret ?_
                refine drop0 ?_
                refine drop0 ?_
                exact done rfl (.tmp rfl (.nil)) (((((((((hle23).trans hle42).trans hle48).trans hle48x).trans hle50x).trans hle9).trans hle184).trans hle184x).trans hle184y) (L) (⟨_, .refl _, .refl _⟩) (⟨rfl, rfl⟩)

end Go.Proofs.Ytlmeblhcipkgmaa
