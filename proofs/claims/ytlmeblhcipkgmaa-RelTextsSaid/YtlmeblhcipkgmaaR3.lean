/- The walks of the references of relations, the third part: what is reached, closures, circles, orders. -/
import Derived.Test.YtlmeblhcipkgmaaR2
import Derived.Test.YtlmeblhcipkgmaaU15
namespace Go.Proofs.Ytlmeblhcipkgmaa
open Go Go.U
set_option maxRecDepth 20000
set_option linter.unusedSimpArgs false
set_option linter.unusedVariables false

/-- what is met so far, and of how many the next ones -/
structure RI (l : List (Int × Int)) (a : Int) (out U : List Int) (k : Nat) : Prop where
  so : out.Pairwise (· < ·)
  nd : U.Nodup
  mem : ∀ x, x ∈ out ↔ x ∈ U
  tg : ∀ x ∈ U, TG l a x
  don : ∀ j : Nat, j < k → ∀ y, (a :: U)[j]? = some y → ∀ z, (y, z) ∈ l → z ∈ U
section
variable {l : List (Int × Int)} {a : Int} {out U : List Int} {k : Nat}
theorem RI.init : RI l a [] [] 0 := ⟨by simp, by simp, by simp, by simp, by intro j hj; omega⟩
theorem RI.len (h : RI l a out U k) : U.length ≤ l.length := by
  have := nodup_le h.nd (fun x hx => (h.tg x hx).snd)
  simpa using this
theorem RI.olen (h : RI l a out U k) : out.length ≤ l.length := by
  have := nodup_le (nodup_lt h.so) (fun x hx => (h.tg x ((h.mem x).1 hx)).snd)
  simpa using this
theorem RI.next {y : Int} (h : RI l a out U k) (hy : (a :: U)[k]? = some y) (hz : ∀ z, (y, z) ∈ l → z ∈ U) : RI l a out U (k + 1) :=
  ⟨h.so, h.nd, h.mem, h.tg, fun j hj => by
    rcases Nat.lt_or_ge j k with h1 | h1
    · exact h.don j h1
    · obtain rfl : j = k := by omega
      intro y' hy' z hz'
      rw [hy] at hy'
      cases hy'
      exact hz z hz'⟩
theorem RI.add {y z : Int} (h : RI l a out U k) (hy : (a :: U)[k]? = some y) (hz : (y, z) ∈ l) (hn : z ∉ out) : RI l a (putI out z) (U ++ [z]) k := by
  refine ⟨putI_sorted h.so, ?_, fun x => ?_, fun x hx => ?_, fun j hj y' hy' w hw => ?_⟩
  · rw [List.nodup_append]
    exact ⟨h.nd, by simp, fun x hx w hw => by rw [List.mem_singleton.1 hw]; intro e; subst e; exact hn ((h.mem _).2 hx)⟩
  · rw [mem_putI, h.mem]; simp; grind
  · rcases List.mem_append.1 hx with hx | hx
    · exact h.tg x hx
    · rw [List.mem_singleton.1 hx]
      cases k with
      | zero => simp at hy; subst hy; exact .one hz
      | succ k =>
        simp at hy
        exact .step (h.tg y (List.mem_of_getElem? hy)) hz
  · have hk : k < (a :: U).length := (List.getElem?_eq_some_iff.1 hy).1
    have e : (a :: (U ++ [z]))[j]? = (a :: U)[j]? := by
      rw [← List.cons_append, List.getElem?_append_left (by omega)]
    rw [e] at hy'
    exact List.mem_append_left _ (h.don j hj y' hy' w hw)
theorem RI.fin (h : RI l a out U (U.length + 1)) : out.Pairwise (· < ·) ∧ ∀ x, x ∈ out ↔ TG l a x := by
  refine ⟨h.so, fun x => ⟨fun hx => h.tg x ((h.mem x).1 hx), fun hx => (h.mem x).2 ?_⟩⟩
  have all : ∀ y, y ∈ a :: U → ∀ z, (y, z) ∈ l → z ∈ U := fun y hy z hz => by
    obtain ⟨j, hj, e⟩ := List.getElem_of_mem hy
    exact h.don j (by simpa using hj) y (by rw [List.getElem?_eq_getElem hj, e]) z hz
  induction hx with
  | one h1 => exact all _ (by simp) _ h1
  | step _ h1 ih => exact all _ (by simp [ih]) _ h1
end
def RS (l : List (Int × Int)) (a : Int) (to : List Int) : Prop := to.Pairwise (· < ·) ∧ ∀ x, x ∈ to ↔ TG l a x
theorem RS.len {l : List (Int × Int)} {a : Int} {to : List Int} (h : RS l a to) : to.length ≤ l.length := by
  have := nodup_le (nodup_lt h.1) (fun x hx => ((h.2 x).1 hx).snd)
  simpa using this
def PR (l : List (Int × Int)) (a : Int) (L : List (List Blk)) : Value → Ro → List (List Blk) → Prop := fun v ro' L' => ∃ to, RS l a to ∧ PS 1 encInt to L v ro' L'

theorem Reach_c (l : List (Int × Int)) (A : Option Addr) (cap : Nat) (a : Int) (ro : Ro) (L : List (List Blk)) (hl : Sl ro 2 encPair A cap l) (hn : l.length ≤ 1000000) :
    CT Try.prog 78 [.slice A l.length cap, .int .i64 a].toArray ro L (PR l a L) := by
  have hcap : l.length ≤ 9223372036854775807 := by have := hl.1; have := hl.2.1; unfold maxLen at this; omega
  refine enter Try.func78 rfl Try.ntmps78 rfl ?_
  refine seq ?_
  refine region ?_
  refine op (y (x_assign rfl) rfl ?_)
  refine nil ?_
  refine n_then ?_
  refine seq ?_
  refine region ?_
  refine op (y (x_assign rfl) rfl ?_)
  refine nil ?_
  refine n_then ?_
  refine seq ?_
  refine region ?_
  refine op (y (x_move rfl) rfl ?_)
  refine op (e_slice1 rfl Try.underlying23 ti_3 rfl rfl (by decide) (by decide) rfl rfl rfl fun b11 => ?_)
  refine op (y (x_assign rfl) rfl ?_)
  refine nil ?_
  refine n_then ?_
  refine seq ?_
  refine seq ?_
  refine region ?_
  refine op (y (x_assign rfl) rfl ?_)
  refine nil ?_
  refine n_then ?_
  refine block ?_
  refine loop (fun m F ro' L' => ∃ (k : Nat) (A2 : Option Addr) (cap2 : Nat) (A3 : Option Addr) (cap3 : Nat) (R : List Blk) (out : List Int) (U : List Int), (m = l.length + 1 - k) ∧ (F = [(0, .slice A l.length cap), (5, .slice A2 out.length cap2), (6, .slice A3 (U.length + 1) cap3), (7, .int .i64 (k : Nat))]) ∧ (L' = R :: L) ∧ (k ≤ U.length + 1) ∧ (ro.le ro') ∧ (Sl ro' 2 encPair A cap l) ∧ (Sl ro' 1 encInt A2 cap2 out) ∧ (OwnS 3 1 A3 (U.length + 1) cap3 ((a :: U).flatMap encInt) R) ∧ (RI l a out U k)) (l.length + 1 - 0) [(0, .slice A l.length cap), (5, .slice none ([]).length 0), (6, .slice _ (([]).length + 1) 1), (7, .int .i64 (0 : Nat))] ⟨rfl, rfl, rfl, rfl, trivial⟩ ⟨0, none, 0, _, 1, _, [], [], rfl, rfl, rfl, by omega, Ro.le.refl _, hl, ⟨by simp, by simp [maxLen], by simp, fun h => absurd rfl h⟩, OwnS.one, RI.init⟩ ?_
  rintro m F ro' L' ⟨k, A2, cap2, A3, cap3, R, out, U, rfl, rfl, rfl, hk, hle, hl, hO, hT, hI⟩
  have hUl := hI.len
  refine seq ?_
  refine seq ?_
  refine region ?_
  refine op (y (x_move rfl) rfl ?_)
  refine op (y (x_move rfl) rfl ?_)
  refine op (y (x_lenSl sz_23 rfl) rfl ?_)
  refine op (y (x_lss rfl rfl) rfl ?_)
  refine nil ?_
  refine n_then ?_
  refine cond rfl (fun h4 => ?_) (fun h4 => ?_)
  · try simp only [decide_eq_true_eq, decide_eq_false_iff_not, beq_iff_eq, bne_iff_ne, ne_eq, beq_eq_false_iff_ne, bne_eq_false_iff_eq, Bool.not_eq_true', Bool.not_eq_false', Bool.not_eq_true, Bool.not_eq_false, Decidable.not_not, Int.not_lt, Int.not_le] at h4
    refine skip ?_
    refine n_then ?_
    refine seq ?_
    refine block ?_
    refine seq ?_
    refine region ?_
    refine op (y (x_assign rfl) rfl ?_)
    refine nil ?_
    refine n_then ?_
    refine block ?_
    obtain ⟨yv, hy⟩ : ∃ yv, (a :: U)[k]? = some yv := ⟨(a :: U)[k]'(by simp; omega), List.getElem?_eq_getElem _⟩
    refine loop (fun m F ro2' L2' => ∃ (i : Nat) (A2 : Option Addr) (cap2 : Nat) (A3 : Option Addr) (cap3 : Nat) (R : List Blk) (out : List Int) (U : List Int), (m = l.length - i) ∧ (F = [(0, .slice A l.length cap), (5, .slice A2 out.length cap2), (6, .slice A3 (U.length + 1) cap3), (7, .int .i64 (k : Nat)), (8, .int .i64 (i : Nat))]) ∧ (L2' = R :: L) ∧ (i ≤ l.length) ∧ (ro.le ro2') ∧ (Sl ro2' 2 encPair A cap l) ∧ (Sl ro2' 1 encInt A2 cap2 out) ∧ (OwnS 3 1 A3 (U.length + 1) cap3 ((a :: U).flatMap encInt) R) ∧ (RI l a out U k) ∧ ((a :: U)[k]? = some yv) ∧ (∀ j : Nat, j < i → ∀ p, l[j]? = some p → p.1 = yv → p.2 ∈ U)) (l.length - 0) [(0, .slice A l.length cap), (5, .slice _ out.length _), (6, .slice _ (U.length + 1) _), (7, .int .i64 (k : Nat)), (8, .int .i64 (0 : Nat))] ⟨rfl, rfl, rfl, rfl, rfl, trivial⟩ ⟨0, _, _, _, _, _, out, U, rfl, rfl, rfl, by omega, hle, hl, hO, hT, hI, hy, by intro j hj; omega⟩ ?_
    rintro m F ro2' L2' ⟨i, A2, cap2, A3, cap3, R, out, U, rfl, rfl, rfl, hi, hle, hl, hO, hT, hI, hy, hin⟩
    have hUl := hI.len
    have hol := hI.olen
    refine seq ?_
    refine seq ?_
    refine region ?_
    refine op (y (x_move rfl) rfl ?_)
    refine op (y (x_move rfl) rfl ?_)
    refine op (y (x_lenSl sz_26 rfl) rfl ?_)
    refine op (y (x_lss rfl rfl) rfl ?_)
    refine nil ?_
    refine n_then ?_
    refine cond rfl (fun h7 => ?_) (fun h7 => ?_)
    · try simp only [decide_eq_true_eq, decide_eq_false_iff_not, beq_iff_eq, bne_iff_ne, ne_eq, beq_eq_false_iff_ne, bne_eq_false_iff_eq, Bool.not_eq_true', Bool.not_eq_false', Bool.not_eq_true, Bool.not_eq_false, Decidable.not_not, Int.not_lt, Int.not_le] at h7
      refine skip ?_
      refine n_then ?_
      refine seqM (fun F ro' L' => ∃ (A2 : Option Addr) (cap2 : Nat) (A3 : Option Addr) (cap3 : Nat) (R : List Blk) (out : List Int) (U : List Int), (F = [(0, .slice A l.length cap), (5, .slice A2 out.length cap2), (6, .slice A3 (U.length + 1) cap3), (7, .int .i64 (k : Nat)), (8, .int .i64 (i : Nat))]) ∧ (L' = R :: L) ∧ (ro.le ro') ∧ (Sl ro' 2 encPair A cap l) ∧ (Sl ro' 1 encInt A2 cap2 out) ∧ (OwnS 3 1 A3 (U.length + 1) cap3 ((a :: U).flatMap encInt) R) ∧ (RI l a out U k) ∧ ((a :: U)[k]? = some yv) ∧ (∀ j : Nat, j < i + 1 → ∀ p, l[j]? = some p → p.1 = yv → p.2 ∈ U)) ?_ ?_
      · skip
        refine block ?_
        refine seq ?_
        refine seq ?_
        obtain ⟨bbx, offx, rfl, hcx⟩ := hl.at_ (i := i) (by omega)
        have hx := List.getElem?_eq_getElem (show i < l.length from by omega)
        have cx0 := hcx i _ hx 0 _ rfl
        have cx1 := hcx i _ hx 1 _ rfl
        obtain ⟨b3, off3, cur3, rfl, rfl, y2, hy2, hc3⟩ := OwnS.intAt hT (k := k) (by have := (List.getElem?_eq_some_iff.1 hy).1; simpa using this) (by simp)
        rw [hy] at hy2
        cases hy2
        have hkU : k < U.length + 1 := by have := (List.getElem?_eq_some_iff.1 hy).1; simpa using this
        refine drawL (by kernel_rfl) ?_
        refine d_take 0 rfl (by kernel_rfl) (by kernel_rfl) (by kernel_rfl) (fun _ _ _ h => h) rfl (.inl rfl) (x_move rfl) (fun w hi => by first | exact hi.j | exact J.of_le (Ro.le.refl _) (fun x hx => List.mem_append_right _ hx) hi | exact J.of_le (Ro.le.refl _) (fun x hx => List.mem_append_right _ (List.mem_append_right _ hx)) hi | exact J.of_le (Ro.le.refl _) (fun x hx => absurd hx (by simp)) hi) ?_
        refine d_take 1 rfl (by kernel_rfl) (by kernel_rfl) (by kernel_rfl) (fun _ _ _ h => h) rfl (.inl rfl) (x_move rfl) (fun w hi => by first | exact hi.j | exact J.of_le (Ro.le.refl _) (fun x hx => List.mem_append_right _ hx) hi | exact J.of_le (Ro.le.refl _) (fun x hx => List.mem_append_right _ (List.mem_append_right _ hx)) hi | exact J.of_le (Ro.le.refl _) (fun x hx => absurd hx (by simp)) hi) ?_
        refine d_take 2 rfl (by kernel_rfl) (by kernel_rfl) (by kernel_rfl) (fun _ _ _ h => h) rfl (.inl rfl) (x_indexNat sz_26 rfl rfl (by omega)) (fun w hi => by first | exact hi.j | exact J.of_le (Ro.le.refl _) (fun x hx => List.mem_append_right _ hx) hi | exact J.of_le (Ro.le.refl _) (fun x hx => List.mem_append_right _ (List.mem_append_right _ hx)) hi | exact J.of_le (Ro.le.refl _) (fun x hx => absurd hx (by simp)) hi) ?_
        refine d_take 3 rfl (by kernel_rfl) (by kernel_rfl) (by kernel_rfl) (fun _ _ _ h => h) rfl (.inl rfl) (x_fieldAddr fo_46_0 rfl) (fun w hi => by first | exact hi.j | exact J.of_le (Ro.le.refl _) (fun x hx => List.mem_append_right _ hx) hi | exact J.of_le (Ro.le.refl _) (fun x hx => List.mem_append_right _ (List.mem_append_right _ hx)) hi | exact J.of_le (Ro.le.refl _) (fun x hx => absurd hx (by simp)) hi) ?_
        refine d_take 4 rfl (by kernel_rfl) (by kernel_rfl) (by kernel_rfl) (fun _ _ _ h => h) rfl (.inl rfl) (x_load1 ag_3 rfl (by first | assumption | exact Cell.own 0 rfl rfl | exact Cell.own 1 rfl rfl | exact Cell.own 2 rfl rfl | exact Cell.own 3 rfl rfl | exact Cell.own 4 rfl rfl | exact Cell.own 5 rfl rfl | exact Cell.ofRo (by assumption))) (fun w hi => by first | exact hi.j | exact J.of_le (Ro.le.refl _) (fun x hx => List.mem_append_right _ hx) hi | exact J.of_le (Ro.le.refl _) (fun x hx => List.mem_append_right _ (List.mem_append_right _ hx)) hi | exact J.of_le (Ro.le.refl _) (fun x hx => absurd hx (by simp)) hi) ?_
        refine d_take 5 rfl (by kernel_rfl) (by kernel_rfl) (by kernel_rfl) (fun _ _ _ h => h) rfl (.inl rfl) (x_move rfl) (fun w hi => by first | exact hi.j | exact J.of_le (Ro.le.refl _) (fun x hx => List.mem_append_right _ hx) hi | exact J.of_le (Ro.le.refl _) (fun x hx => List.mem_append_right _ (List.mem_append_right _ hx)) hi | exact J.of_le (Ro.le.refl _) (fun x hx => absurd hx (by simp)) hi) ?_
        refine d_take 6 rfl (by kernel_rfl) (by kernel_rfl) (by kernel_rfl) (fun _ _ _ h => h) rfl (.inl rfl) (x_move rfl) (fun w hi => by first | exact hi.j | exact J.of_le (Ro.le.refl _) (fun x hx => List.mem_append_right _ hx) hi | exact J.of_le (Ro.le.refl _) (fun x hx => List.mem_append_right _ (List.mem_append_right _ hx)) hi | exact J.of_le (Ro.le.refl _) (fun x hx => absurd hx (by simp)) hi) ?_
        refine d_take 7 rfl (by kernel_rfl) (by kernel_rfl) (by kernel_rfl) (fun _ _ _ h => h) rfl (.inl rfl) (x_indexNat sz_23 rfl rfl (by omega)) (fun w hi => by first | exact hi.j | exact J.of_le (Ro.le.refl _) (fun x hx => List.mem_append_right _ hx) hi | exact J.of_le (Ro.le.refl _) (fun x hx => List.mem_append_right _ (List.mem_append_right _ hx)) hi | exact J.of_le (Ro.le.refl _) (fun x hx => absurd hx (by simp)) hi) ?_
        refine d_take 8 rfl (by kernel_rfl) (by kernel_rfl) (by kernel_rfl) (fun _ _ _ h => h) rfl (.inl rfl) (x_load1 ag_3 rfl (Cell.own 0 rfl hc3)) (fun w hi => by first | exact hi.j | exact J.of_le (Ro.le.refl _) (fun x hx => List.mem_append_right _ hx) hi | exact J.of_le (Ro.le.refl _) (fun x hx => List.mem_append_right _ (List.mem_append_right _ hx)) hi | exact J.of_le (Ro.le.refl _) (fun x hx => absurd hx (by simp)) hi) ?_
        refine d_take 9 rfl (by kernel_rfl) (by kernel_rfl) (by kernel_rfl) (fun _ _ _ h => h) rfl (.inl rfl) (x_neq rfl rfl) (fun w hi => by first | exact hi.j | exact J.of_le (Ro.le.refl _) (fun x hx => List.mem_append_right _ hx) hi | exact J.of_le (Ro.le.refl _) (fun x hx => List.mem_append_right _ (List.mem_append_right _ hx)) hi | exact J.of_le (Ro.le.refl _) (fun x hx => absurd hx (by simp)) hi) ?_
        refine d_end (by kernel_rfl) ?_
        refine n_then ?_
        refine cond rfl (fun h9 => ?_) (fun h9 => ?_)
        · try simp only [decide_eq_true_eq, decide_eq_false_iff_not, beq_iff_eq, bne_iff_ne, ne_eq, beq_eq_false_iff_ne, bne_eq_false_iff_eq, Bool.not_eq_true', Bool.not_eq_false', Bool.not_eq_true, Bool.not_eq_false, Decidable.not_not, Int.not_lt, Int.not_le] at h9
          refine exit ?_
          refine e_then ?_
          refine e_in ?_
          exact mid [(0, .slice _ l.length cap), (5, .slice _ out.length _), (6, .slice _ (U.length + 1) _), (7, .int .i64 (k : Nat)), (8, .int .i64 (i : Nat))] ⟨rfl, rfl, rfl, rfl, rfl, trivial⟩ ⟨_, _, _, _, _, out, U, rfl, rfl, hle, hl, hO, hT, hI, hy, upto (p := fun j => ∀ p, l[j]? = some p → p.1 = yv → p.2 ∈ U) hin (fun p hp e => by rw [hx] at hp; cases hp; exact absurd e h9)⟩
        · try simp only [decide_eq_true_eq, decide_eq_false_iff_not, beq_iff_eq, bne_iff_ne, ne_eq, beq_eq_false_iff_ne, bne_eq_false_iff_eq, Bool.not_eq_true', Bool.not_eq_false', Bool.not_eq_true, Bool.not_eq_false, Decidable.not_not, Int.not_lt, Int.not_le] at h9
          refine skip ?_
          refine n_then ?_
          refine seq ?_
          refine region ?_
          refine op (y (x_move rfl) rfl ?_)
          refine op (y (x_lenSl sz_23 rfl) rfl ?_)
          refine op (y (x_assign rfl) rfl ?_)
          refine nil ?_
          refine n_then ?_
          refine seq ?_
          
          refine region ?_
          refine op (y (x_move rfl) rfl ?_)
          refine op (y (x_move rfl) rfl ?_)
          refine op (y (x_move rfl) rfl ?_)
          refine op (y (x_indexNat sz_26 rfl rfl (by omega)) rfl ?_)
          refine op (y (x_fieldAddr fo_46_1 rfl) rfl ?_)
          refine op (y (x_load1 ag_3 rfl (by first | assumption | exact Cell.own 0 rfl rfl | exact Cell.own 1 rfl rfl | exact Cell.own 2 rfl rfl | exact Cell.own 3 rfl rfl | exact Cell.own 4 rfl rfl | exact Cell.own 5 rfl rfl | exact Cell.ofRo (by assumption))) rfl ?_)
          refine op (e_call rfl fn_86 rfl rfl (PutInt_c out A2 cap2 _ _ _ hO (by omega)) fun v42 ro42 L42 hle42 hp42 => ?_)
          obtain ⟨A4, cap4, rfl, hO4, hLL⟩ := hp42
          subst hLL
          have hmem : (yv, (l[i]).2) ∈ l := List.mem_of_getElem? (i := i) (by rw [hx, ← h9])
          refine op (y (x_assign rfl) rfl ?_)
          refine nil ?_
          refine n_then ?_
          refine seq ?_
          refine region ?_
          refine op (y (x_move rfl) rfl ?_)
          refine op (y (x_lenSl sz_23 rfl) rfl ?_)
          refine op (y (x_move rfl) rfl ?_)
          refine op (y (x_gtr rfl rfl) rfl ?_)
          refine nil ?_
          refine n_then ?_
          refine cond rfl (fun h12 => ?_) (fun h12 => ?_)
          · try simp only [decide_eq_true_eq, decide_eq_false_iff_not, beq_iff_eq, bne_iff_ne, ne_eq, beq_eq_false_iff_ne, bne_eq_false_iff_eq, Bool.not_eq_true', Bool.not_eq_false', Bool.not_eq_true, Bool.not_eq_false, Decidable.not_not, Int.not_lt, Int.not_le] at h12
            have hz : (l[i]).2 ∉ out := fun h => by have := putI_of_mem hI.so h; rw [this] at h12; omega
            have cx1b := Ro.le.cell hle42 cx1
            have hI2 := hI.add hy hmem hz
            have hnl : (U ++ [(l[i]).2]).length = U.length + 1 := by simp
            refine region ?_
            refine op (y (x_move rfl) rfl ?_)
            refine op (y (x_move rfl) rfl ?_)
            refine op (y (x_move rfl) rfl ?_)
            refine op (y (x_indexNat sz_26 rfl rfl (by omega)) rfl ?_)
            refine op (y (x_fieldAddr fo_46_1 rfl) rfl ?_)
            refine op (y (x_load1 ag_3 rfl (Cell.ofRo cx1b)) rfl ?_)
            refine op (e_slice1 rfl Try.underlying23 ti_3 rfl rfl (by decide) (by decide) rfl rfl rfl fun b53 => ?_)
            refine op (e_append1 0 rfl st_23 rfl rfl rfl hT rfl rfl (by omega) (by omega) (fun _ => rfl) fun A54 cap54 R54 hO54 => ?_)
            refine op (y (x_assign rfl) rfl ?_)
            refine nil ?_
            refine n_in ?_
            rw [← hnl]
            exact mid [(0, .slice _ l.length cap), (5, .slice _ (putI out (l[i]).2).length _), (6, .slice _ ((U ++ [(l[i]).2]).length + 1) _), (7, .int .i64 (k : Nat)), (8, .int .i64 (i : Nat))] ⟨rfl, rfl, rfl, rfl, rfl, trivial⟩ ⟨_, _, _, _, _, putI out (l[i]).2, U ++ [(l[i]).2], rfl, rfl, hle.trans hle42, hl.mono hle42, hO4, by have h := OwnS.snoc (l := a :: U) (x := (l[i]).2) (enc := encInt) hO54; rw [List.cons_append] at h; rw [hnl]; exact h, hI2, by rw [← List.cons_append, List.getElem?_append_left (by simp; omega)]; exact hy, fun j hj p hp e => by
              rcases Nat.lt_or_ge j i with h | h
              · exact List.mem_append_left _ (hin j h p hp e)
              · obtain rfl : j = i := by omega
                rw [hx] at hp; cases hp; simp⟩
          · try simp only [decide_eq_true_eq, decide_eq_false_iff_not, beq_iff_eq, bne_iff_ne, ne_eq, beq_eq_false_iff_ne, bne_eq_false_iff_eq, Bool.not_eq_true', Bool.not_eq_false', Bool.not_eq_true, Bool.not_eq_false, Decidable.not_not, Int.not_lt, Int.not_le] at h12
            have hz : (l[i]).2 ∈ out := by
              rcases Classical.em ((l[i]).2 ∈ out) with h | h
              · exact h
              · have := putI_len h; omega
            have hpu := putI_of_mem hI.so hz
            rw [hpu] at hO4
            refine skip ?_
            refine n_in ?_
            rw [hpu]
            exact mid [(0, .slice _ l.length cap), (5, .slice _ out.length _), (6, .slice _ (U.length + 1) _), (7, .int .i64 (k : Nat)), (8, .int .i64 (i : Nat))] ⟨rfl, rfl, rfl, rfl, rfl, trivial⟩ ⟨_, _, _, _, _, out, U, rfl, rfl, hle.trans hle42, hl.mono hle42, hO4, hT, hI, hy, upto (p := fun j => ∀ p, l[j]? = some p → p.1 = yv → p.2 ∈ U) hin (fun p hp e => by rw [hx] at hp; cases hp; exact (hI.mem _).1 hz)⟩
      · rintro F ro' L' ⟨A2, cap2, A3, cap3, R, out, U, rfl, rfl, hle, hl, hO, hT, hI, hy, hin⟩
        refine region ?_
        refine op (y (x_move rfl) rfl ?_)
        refine op (y (x_add rfl rfl _ (wr (by omega) (by omega))) rfl ?_)
        refine op (y (x_assign rfl) rfl ?_)
        refine nil ?_
        exact round (l.length - (i + 1)) [(0, .slice _ l.length cap), (5, .slice _ out.length _), (6, .slice _ (U.length + 1) _), (7, .int .i64 (k : Nat)), (8, .int .i64 ((i + 1) : Nat))] (by omega) ⟨rfl, rfl, rfl, rfl, rfl, trivial⟩ ⟨i + 1, _, _, _, _, _, out, U, rfl, rfl, rfl, by omega, hle, hl, hO, hT, hI, hy, hin⟩
    · try simp only [decide_eq_true_eq, decide_eq_false_iff_not, beq_iff_eq, bne_iff_ne, ne_eq, beq_eq_false_iff_ne, bne_eq_false_iff_eq, Bool.not_eq_true', Bool.not_eq_false', Bool.not_eq_true, Bool.not_eq_false, Decidable.not_not, Int.not_lt, Int.not_le] at h7
      refine exit ?_
      refine e_then ?_
      refine e_then ?_
      refine e_in ?_
      refine n_in ?_
      refine n_then ?_
      refine region ?_
      refine op (y (x_move rfl) rfl ?_)
      refine op (y (x_add rfl rfl _ (wr (by omega) (by omega))) rfl ?_)
      refine op (y (x_assign rfl) rfl ?_)
      refine nil ?_
      exact round (l.length + 1 - (k + 1)) [(0, .slice A l.length cap), (5, .slice _ out.length _), (6, .slice _ (U.length + 1) _), (7, .int .i64 ((k + 1) : Nat))] (by omega) ⟨rfl, rfl, rfl, rfl, trivial⟩ ⟨k + 1, _, _, _, _, _, out, U, rfl, rfl, rfl, by have := (List.getElem?_eq_some_iff.1 hy).1; simp at this; omega, hle, hl, hO, hT, hI.next hy (fun z hz => by obtain ⟨j, hj, e⟩ := List.getElem_of_mem hz; exact hin j (by omega) (yv, z) (by rw [List.getElem?_eq_getElem hj, e]) rfl)⟩
  · try simp only [decide_eq_true_eq, decide_eq_false_iff_not, beq_iff_eq, bne_iff_ne, ne_eq, beq_eq_false_iff_ne, bne_eq_false_iff_eq, Bool.not_eq_true', Bool.not_eq_false', Bool.not_eq_true, Bool.not_eq_false, Decidable.not_not, Int.not_lt, Int.not_le] at h4
    refine exit ?_
    refine e_then ?_
    refine e_then ?_
    refine e_in ?_
    refine n_then ?_
    refine seq ?_
    refine region ?_
    refine op (y (x_move rfl) rfl ?_)
    refine op (y (x_assign rfl) rfl ?_)
    refine nil ?_
    refine n_then ?_
    refine ret ?_
    obtain rfl : k = U.length + 1 := by omega
    refine drop0 ?_
    exact done rfl (.tmp rfl (.nil)) (hle) (L) (⟨_, .refl _, .refl _⟩) (⟨out, hI.fin, _, _, rfl, hO, rfl⟩)

end Go.Proofs.Ytlmeblhcipkgmaa
