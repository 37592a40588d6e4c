/- The walks of the references of relations, the fourth part. -/
import Derived.Test.YtlmeblhcipkgmaaR3
namespace Go.Proofs.Ytlmeblhcipkgmaa
open Go Go.U
set_option maxRecDepth 20000
set_option linter.unusedSimpArgs false
set_option linter.unusedVariables false

def SP (l : List (Int × Int)) : Prop := l.Pairwise (fun x p => ltP x p = true)
theorem SP.fst {l : List (Int × Int)} (h : SP l) {i j : Nat} {p q : Int × Int} (hij : i < j) (hi : l[i]? = some p) (hj : l[j]? = some q) : p.1 ≤ q.1 := by
  have hjl := (List.getElem?_eq_some_iff.1 hj).1
  have := List.pairwise_iff_getElem.1 h i j (by omega) hjl hij
  rw [(List.getElem?_eq_some_iff.1 hi).2, (List.getElem?_eq_some_iff.1 hj).2] at this
  simp [ltP] at this
  omega
theorem ltP_trans {a b c : Int × Int} (h : ltP a b = true) (k : ltP b c = true) : ltP a c = true := by
  simp [ltP] at *; omega
theorem SP.nodup {l : List (Int × Int)} (h : SP l) : l.Nodup := h.imp (fun h e => by subst e; simp [ltP] at h)
theorem SP.ext {l m : List (Int × Int)} (hl : SP l) (hm : SP m) (h : ∀ p, p ∈ l ↔ p ∈ m) : l = m := by
  induction l generalizing m with
  | nil => cases m with
    | nil => rfl
    | cons b m => exact absurd ((h b).2 (by simp)) (by simp)
  | cons a l ih => cases m with
    | nil => exact absurd ((h a).1 (by simp)) (by simp)
    | cons b m =>
      unfold SP at hl hm
      rw [List.pairwise_cons] at hl hm
      have hab : a = b := by
        rcases List.mem_cons.1 ((h a).1 (by simp)) with e | e
        · exact e
        · rcases List.mem_cons.1 ((h b).2 (by simp)) with e2 | e2
          · exact e2.symm
          · have h1 := hm.1 a e
            have h2 := hl.1 b e2
            have := ltP_trans h1 h2
            simp [ltP] at this
      subst hab
      rw [ih hl.2 hm.2 (fun p => ⟨fun hp => ?_, fun hp => ?_⟩)]
      · rcases List.mem_cons.1 ((h p).1 (by simp [hp])) with e | e
        · subst e; have := hl.1 _ hp; simp [ltP] at this
        · exact e
      · rcases List.mem_cons.1 ((h p).2 (by simp [hp])) with e | e
        · subst e; have := hm.1 _ hp; simp [ltP] at this
        · exact e
/-- the closure of the first i ones -/
structure CI (l : List (Int × Int)) (out : List (Int × Int)) (i : Nat) : Prop where
  so : SP out
  mem : ∀ a b, (a, b) ∈ out ↔ (∃ j : Nat, j < i ∧ ∃ q, l[j]? = some q ∧ q.1 = a) ∧ TG l a b
  len : out.length ≤ i * l.length
section
variable {l out : List (Int × Int)} {i : Nat}
theorem CI.init : CI l [] 0 := ⟨by simp [SP], fun a b => ⟨fun h => by simp at h, fun ⟨⟨j, h, _⟩, _⟩ => by omega⟩, by simp⟩
theorem CI.skip (h : CI l out i) {p q : Int × Int} (hp : l[i]? = some p) (h0 : 0 < i) (hq : l[i - 1]? = some q) (e : p.1 = q.1) : CI l out (i + 1) := by
  refine ⟨h.so, fun a b => ?_, Nat.le_trans h.len (Nat.mul_le_mul_right _ (by omega))⟩
  rw [h.mem]
  constructor
  · rintro ⟨⟨j, hj, r⟩, t⟩
    exact ⟨⟨j, by omega, r⟩, t⟩
  · rintro ⟨⟨j, hj, r, hr, e2⟩, t⟩
    refine ⟨?_, t⟩
    rcases Nat.lt_or_ge j i with h1 | h1
    · exact ⟨j, h1, r, hr, e2⟩
    · obtain rfl : j = i := by omega
      rw [hp] at hr; cases hr
      exact ⟨j - 1, by omega, q, hq, by omega⟩
theorem CI.more (h : CI l out i) (hs : SP l) {p : Int × Int} (hp : l[i]? = some p) (hne : ∀ q, 0 < i → l[i - 1]? = some q → p.1 ≠ q.1) {to : List Int} (ht : RS l p.1 to) : CI l (out ++ to.map (fun t => (p.1, t))) (i + 1) := by
  have hlt : ∀ j : Nat, j < i → ∀ q, l[j]? = some q → q.1 < p.1 := fun j hj q hq => by
    have hi1 : i - 1 < l.length := by have := (List.getElem?_eq_some_iff.1 hp).1; omega
    have e1 := List.getElem?_eq_getElem hi1
    have h1 := hne _ (by omega) e1
    have h2 := hs.fst (i := i - 1) (j := i) (by omega) e1 hp
    rcases Nat.lt_or_ge j (i - 1) with h3 | h3
    · have := hs.fst h3 hq e1; omega
    · obtain rfl : j = i - 1 := by omega
      rw [e1] at hq; cases hq; omega
  refine ⟨?_, fun a b => ?_, ?_⟩
  · unfold SP
    rw [List.pairwise_append]
    refine ⟨h.so, ?_, fun x hx w hw => ?_⟩
    · rw [List.pairwise_map]
      exact ht.1.imp (fun h => by simp [ltP, h])
    · obtain ⟨t, _, rfl⟩ := List.mem_map.1 hw
      obtain ⟨⟨j, hj, q, hq, e⟩, _⟩ := (h.mem x.1 x.2).1 hx
      have := hlt j hj q hq
      simp [ltP]; omega
  · rw [List.mem_append, h.mem]
    constructor
    · rintro (⟨⟨j, hj, r⟩, t⟩ | hm)
      · exact ⟨⟨j, by omega, r⟩, t⟩
      · obtain ⟨t, ht', e⟩ := List.mem_map.1 hm
        cases e
        exact ⟨⟨i, by omega, p, hp, rfl⟩, (ht.2 _).1 ht'⟩
    · rintro ⟨⟨j, hj, r, hr, e2⟩, t⟩
      rcases Nat.lt_or_ge j i with h1 | h1
      · exact .inl ⟨⟨j, h1, r, hr, e2⟩, t⟩
      · obtain rfl : j = i := by omega
        rw [hp] at hr; cases hr
        subst e2
        exact .inr (List.mem_map.2 ⟨b, (ht.2 b).2 t, rfl⟩)
  · have := h.len
    have := ht.len
    simp [Nat.add_mul]; omega
end
def CS (l c : List (Int × Int)) : Prop := SP c ∧ (∀ a b, (a, b) ∈ c ↔ TG l a b) ∧ c.length ≤ l.length * l.length
theorem CI.fin {l out : List (Int × Int)} (h : CI l out l.length) : CS l out := by
  refine ⟨h.so, fun a b => ?_, h.len⟩
  rw [h.mem]
  refine ⟨fun h => h.2, fun t => ⟨?_, t⟩⟩
  obtain ⟨c, hc⟩ := t.fst
  obtain ⟨j, hj, e⟩ := List.getElem_of_mem hc
  exact ⟨j, hj, _, by rw [List.getElem?_eq_getElem hj], by rw [e]⟩

theorem Closure_c (l : List (Int × Int)) (A : Option Addr) (cap : Nat) (ro : Ro) (L : List (List Blk)) (hl : Sl ro 2 encPair A cap l) (hn : l.length ≤ 100) (hs : SP l) :
    CT Try.prog 21 [.slice A l.length cap].toArray ro L (fun v ro' L' => ∃ c, CS l c ∧ PS 2 encPair c L v ro' L') := by
  have hcap : l.length ≤ 9223372036854775807 := by have := hl.1; have := hl.2.1; unfold maxLen at this; omega
  refine enter Try.func21 rfl Try.ntmps21 rfl ?_
  refine seq ?_
  refine region ?_
  refine op (y (x_assign rfl) rfl ?_)
  refine nil ?_
  refine n_then ?_
  refine seq ?_
  refine region ?_
  refine op (y (x_assign rfl) rfl ?_)
  refine nil ?_
  refine n_then ?_
  refine seq ?_
  refine seq ?_
  refine region ?_
  refine op (y (x_assign rfl) rfl ?_)
  refine nil ?_
  refine n_then ?_
  refine block ?_
  refine emp ?_
  refine loop (fun m F ro' L' => ∃ (i : Nat) (A3 : Option Addr) (cap3 : Nat) (R : List Blk) (out : List (Int × Int)), (m = l.length - i) ∧ (F = [(0, .slice A l.length cap), (3, .slice A3 out.length cap3), (4, .int .i64 (i : Nat))]) ∧ (L' = R :: L) ∧ (i ≤ l.length) ∧ (ro.le ro') ∧ (Sl ro' 2 encPair A cap l) ∧ (OwnS 46 2 A3 out.length cap3 (out.flatMap encPair) R) ∧ (CI l out i)) (l.length - 0) [(0, .slice A l.length cap), (3, .slice none ([]).length 0), (4, .int .i64 (0 : Nat))] ⟨rfl, rfl, rfl, trivial⟩ ⟨0, none, 0, [], [], rfl, rfl, rfl, by omega, Ro.le.refl _, hl, OwnS.none_ 46 2, CI.init⟩ ?_
  rintro m F ro' L' ⟨i, A3, cap3, R, out, rfl, rfl, rfl, hi, hle, hl, hT, hC⟩
  refine seq ?_
  refine seq ?_
  refine region ?_
  refine op (y (x_move rfl) rfl ?_)
  refine op (y (x_move rfl) rfl ?_)
  refine op (y (x_lenSl sz_26 rfl) rfl ?_)
  refine op (y (x_lss rfl rfl) rfl ?_)
  refine nil ?_
  refine n_then ?_
  refine cond rfl (fun h3 => ?_) (fun h3 => ?_)
  · try simp only [decide_eq_true_eq, decide_eq_false_iff_not, beq_iff_eq, bne_iff_ne, ne_eq, beq_eq_false_iff_ne, bne_eq_false_iff_eq, Bool.not_eq_true', Bool.not_eq_false', Bool.not_eq_true, Bool.not_eq_false, Decidable.not_not, Int.not_lt, Int.not_le] at h3
    refine skip ?_
    refine n_then ?_
    refine seqM (fun F ro' L' => ∃ (A3 : Option Addr) (cap3 : Nat) (R : List Blk) (out : List (Int × Int)), (F = [(0, .slice A l.length cap), (3, .slice A3 out.length cap3), (4, .int .i64 (i : Nat))]) ∧ (L' = R :: L) ∧ (ro.le ro') ∧ (Sl ro' 2 encPair A cap l) ∧ (OwnS 46 2 A3 out.length cap3 (out.flatMap encPair) R) ∧ (CI l out (i + 1))) ?_ ?_
    · skip
      refine block ?_
      refine seq ?_
      refine seq ?_
      have hil : i < l.length := by omega
      obtain ⟨bbx, offx, rfl, hcx⟩ := hl.at_ (i := i) (by omega)
      have hx := List.getElem?_eq_getElem (show i < l.length from by omega)
      have cx0 := hcx i _ hx 0 _ rfl
      have cx1 := hcx i _ hx 1 _ rfl
      refine drawL (by kernel_rfl) ?_
      refine d_take 0 rfl (by kernel_rfl) (by kernel_rfl) (by kernel_rfl) (fun _ _ _ h => h) rfl (.inl rfl) (x_move rfl) (fun w hi => by first | exact hi.j | exact J.of_le (Ro.le.refl _) (fun x hx => List.mem_append_right _ hx) hi | exact J.of_le (Ro.le.refl _) (fun x hx => List.mem_append_right _ (List.mem_append_right _ hx)) hi | exact J.of_le (Ro.le.refl _) (fun x hx => absurd hx (by simp)) hi) ?_
      refine d_take 1 rfl (by kernel_rfl) (by kernel_rfl) (by kernel_rfl) (fun _ _ _ h => h) rfl (.inl rfl) (x_gtr rfl rfl) (fun w hi => by first | exact hi.j | exact J.of_le (Ro.le.refl _) (fun x hx => List.mem_append_right _ hx) hi | exact J.of_le (Ro.le.refl _) (fun x hx => List.mem_append_right _ (List.mem_append_right _ hx)) hi | exact J.of_le (Ro.le.refl _) (fun x hx => absurd hx (by simp)) hi) ?_
      refine d_take 2 rfl (by kernel_rfl) (by kernel_rfl) (by kernel_rfl) (fun _ _ _ h => h) rfl (.inl rfl) (x_move rfl) (fun w hi => by first | exact hi.j | exact J.of_le (Ro.le.refl _) (fun x hx => List.mem_append_right _ hx) hi | exact J.of_le (Ro.le.refl _) (fun x hx => List.mem_append_right _ (List.mem_append_right _ hx)) hi | exact J.of_le (Ro.le.refl _) (fun x hx => absurd hx (by simp)) hi) ?_
      refine bsplit 15 rfl (fun g15 => ?_) (fun g15 => ?_)
      · try simp only [decide_eq_true_eq, decide_eq_false_iff_not, beq_iff_eq, bne_iff_ne, ne_eq, beq_eq_false_iff_ne, bne_eq_false_iff_eq, Bool.not_eq_true', Bool.not_eq_false', Bool.not_eq_true, Bool.not_eq_false, Decidable.not_not, Int.not_lt, Int.not_le] at g15
        have hx1 := List.getElem?_eq_getElem (l := l) (i := i - 1) (by omega)
        have cx3 := hcx (i - 1) _ hx1 0 _ rfl
        refine d_take 3 rfl (by kernel_rfl) (by kernel_rfl) (by kernel_rfl) (fun _ _ _ h => h) rfl (.inr ⟨_, _, _, rfl, rfl, rfl⟩) (x_move rfl) (fun w hi => by first | exact hi.j | exact J.of_le (Ro.le.refl _) (fun x hx => List.mem_append_right _ hx) hi | exact J.of_le (Ro.le.refl _) (fun x hx => List.mem_append_right _ (List.mem_append_right _ hx)) hi | exact J.of_le (Ro.le.refl _) (fun x hx => absurd hx (by simp)) hi) ?_
        refine d_take 4 rfl (by kernel_rfl) (by kernel_rfl) (by kernel_rfl) (fun _ _ _ h => h) rfl (.inr ⟨_, _, _, rfl, rfl, rfl⟩) (x_move rfl) (fun w hi => by first | exact hi.j | exact J.of_le (Ro.le.refl _) (fun x hx => List.mem_append_right _ hx) hi | exact J.of_le (Ro.le.refl _) (fun x hx => List.mem_append_right _ (List.mem_append_right _ hx)) hi | exact J.of_le (Ro.le.refl _) (fun x hx => absurd hx (by simp)) hi) ?_
        refine d_take 5 rfl (by kernel_rfl) (by kernel_rfl) (by kernel_rfl) (fun _ _ _ h => h) rfl (.inr ⟨_, _, _, rfl, rfl, rfl⟩) (x_indexNat sz_26 rfl rfl (by omega)) (fun w hi => by first | exact hi.j | exact J.of_le (Ro.le.refl _) (fun x hx => List.mem_append_right _ hx) hi | exact J.of_le (Ro.le.refl _) (fun x hx => List.mem_append_right _ (List.mem_append_right _ hx)) hi | exact J.of_le (Ro.le.refl _) (fun x hx => absurd hx (by simp)) hi) ?_
        refine d_take 6 rfl (by kernel_rfl) (by kernel_rfl) (by kernel_rfl) (fun _ _ _ h => h) rfl (.inr ⟨_, _, _, rfl, rfl, rfl⟩) (x_fieldAddr fo_46_0 rfl) (fun w hi => by first | exact hi.j | exact J.of_le (Ro.le.refl _) (fun x hx => List.mem_append_right _ hx) hi | exact J.of_le (Ro.le.refl _) (fun x hx => List.mem_append_right _ (List.mem_append_right _ hx)) hi | exact J.of_le (Ro.le.refl _) (fun x hx => absurd hx (by simp)) hi) ?_
        refine d_take 7 rfl (by kernel_rfl) (by kernel_rfl) (by kernel_rfl) (fun _ _ _ h => h) rfl (.inr ⟨_, _, _, rfl, rfl, rfl⟩) (x_load1 ag_3 rfl (by first | assumption | exact Cell.own 0 rfl rfl | exact Cell.own 1 rfl rfl | exact Cell.own 2 rfl rfl | exact Cell.own 3 rfl rfl | exact Cell.own 4 rfl rfl | exact Cell.own 5 rfl rfl | exact Cell.ofRo (by assumption))) (fun w hi => by first | exact hi.j | exact J.of_le (Ro.le.refl _) (fun x hx => List.mem_append_right _ hx) hi | exact J.of_le (Ro.le.refl _) (fun x hx => List.mem_append_right _ (List.mem_append_right _ hx)) hi | exact J.of_le (Ro.le.refl _) (fun x hx => absurd hx (by simp)) hi) ?_
        refine d_take 8 rfl (by kernel_rfl) (by kernel_rfl) (by kernel_rfl) (fun _ _ _ h => h) rfl (.inr ⟨_, _, _, rfl, rfl, rfl⟩) (x_move rfl) (fun w hi => by first | exact hi.j | exact J.of_le (Ro.le.refl _) (fun x hx => List.mem_append_right _ hx) hi | exact J.of_le (Ro.le.refl _) (fun x hx => List.mem_append_right _ (List.mem_append_right _ hx)) hi | exact J.of_le (Ro.le.refl _) (fun x hx => absurd hx (by simp)) hi) ?_
        refine d_take 9 rfl (by kernel_rfl) (by kernel_rfl) (by kernel_rfl) (fun _ _ _ h => h) rfl (.inr ⟨_, _, _, rfl, rfl, rfl⟩) (x_move rfl) (fun w hi => by first | exact hi.j | exact J.of_le (Ro.le.refl _) (fun x hx => List.mem_append_right _ hx) hi | exact J.of_le (Ro.le.refl _) (fun x hx => List.mem_append_right _ (List.mem_append_right _ hx)) hi | exact J.of_le (Ro.le.refl _) (fun x hx => absurd hx (by simp)) hi) ?_
        refine d_take 10 rfl (by kernel_rfl) (by kernel_rfl) (by kernel_rfl) (fun _ _ _ h => h) rfl (.inr ⟨_, _, _, rfl, rfl, rfl⟩) (x_sub rfl rfl _ (wr (by omega) (by omega))) (fun w hi => by first | exact hi.j | exact J.of_le (Ro.le.refl _) (fun x hx => List.mem_append_right _ hx) hi | exact J.of_le (Ro.le.refl _) (fun x hx => List.mem_append_right _ (List.mem_append_right _ hx)) hi | exact J.of_le (Ro.le.refl _) (fun x hx => absurd hx (by simp)) hi) ?_
        refine d_take 11 rfl (by kernel_rfl) (by kernel_rfl) (by kernel_rfl) (fun _ _ _ h => h) rfl (.inr ⟨_, _, _, rfl, rfl, rfl⟩) (x_indexAddr sz_26 rfl rfl (by omega) (by omega) (offx + (i - 1) * 2) (by rw [show ((i : Int) - 1).toNat = i - 1 by omega])) (fun w hi => by first | exact hi.j | exact J.of_le (Ro.le.refl _) (fun x hx => List.mem_append_right _ hx) hi | exact J.of_le (Ro.le.refl _) (fun x hx => List.mem_append_right _ (List.mem_append_right _ hx)) hi | exact J.of_le (Ro.le.refl _) (fun x hx => absurd hx (by simp)) hi) ?_
        refine d_take 12 rfl (by kernel_rfl) (by kernel_rfl) (by kernel_rfl) (fun _ _ _ h => h) rfl (.inr ⟨_, _, _, rfl, rfl, rfl⟩) (x_fieldAddr fo_46_0 rfl) (fun w hi => by first | exact hi.j | exact J.of_le (Ro.le.refl _) (fun x hx => List.mem_append_right _ hx) hi | exact J.of_le (Ro.le.refl _) (fun x hx => List.mem_append_right _ (List.mem_append_right _ hx)) hi | exact J.of_le (Ro.le.refl _) (fun x hx => absurd hx (by simp)) hi) ?_
        refine d_take 13 rfl (by kernel_rfl) (by kernel_rfl) (by kernel_rfl) (fun _ _ _ h => h) rfl (.inr ⟨_, _, _, rfl, rfl, rfl⟩) (x_load1 ag_3 rfl (by first | assumption | exact Cell.own 0 rfl rfl | exact Cell.own 1 rfl rfl | exact Cell.own 2 rfl rfl | exact Cell.own 3 rfl rfl | exact Cell.own 4 rfl rfl | exact Cell.own 5 rfl rfl | exact Cell.ofRo (by assumption))) (fun w hi => by first | exact hi.j | exact J.of_le (Ro.le.refl _) (fun x hx => List.mem_append_right _ hx) hi | exact J.of_le (Ro.le.refl _) (fun x hx => List.mem_append_right _ (List.mem_append_right _ hx)) hi | exact J.of_le (Ro.le.refl _) (fun x hx => absurd hx (by simp)) hi) ?_
        refine d_take 14 rfl (by kernel_rfl) (by kernel_rfl) (by kernel_rfl) (fun _ _ _ h => h) rfl (.inr ⟨_, _, _, rfl, rfl, rfl⟩) (x_eql rfl rfl) (fun w hi => by first | exact hi.j | exact J.of_le (Ro.le.refl _) (fun x hx => List.mem_append_right _ hx) hi | exact J.of_le (Ro.le.refl _) (fun x hx => List.mem_append_right _ (List.mem_append_right _ hx)) hi | exact J.of_le (Ro.le.refl _) (fun x hx => absurd hx (by simp)) hi) ?_
        refine d_take 15 rfl (by kernel_rfl) (by kernel_rfl) (by kernel_rfl) (fun _ _ _ h => h) rfl (.inl rfl) (x_pickT rfl rfl) (fun w hi => by first | exact hi.j | exact J.of_le (Ro.le.refl _) (fun x hx => List.mem_append_right _ hx) hi | exact J.of_le (Ro.le.refl _) (fun x hx => List.mem_append_right _ (List.mem_append_right _ hx)) hi | exact J.of_le (Ro.le.refl _) (fun x hx => absurd hx (by simp)) hi) ?_
        refine d_end (by kernel_rfl) ?_
        refine n_then ?_
        refine cond rfl (fun h5 => ?_) (fun h5 => ?_)
        · try simp only [decide_eq_true_eq, decide_eq_false_iff_not, beq_iff_eq, bne_iff_ne, ne_eq, beq_eq_false_iff_ne, bne_eq_false_iff_eq, Bool.not_eq_true', Bool.not_eq_false', Bool.not_eq_true, Bool.not_eq_false, Decidable.not_not, Int.not_lt, Int.not_le] at h5
          refine exit ?_
          refine e_then ?_
          refine e_in ?_
          exact mid [(0, .slice _ l.length cap), (3, .slice _ out.length _), (4, .int .i64 (i : Nat))] ⟨rfl, rfl, rfl, trivial⟩ ⟨_, _, _, out, rfl, rfl, hle, hl, hT, hC.skip hx (by omega) hx1 h5⟩
        · try simp only [decide_eq_true_eq, decide_eq_false_iff_not, beq_iff_eq, bne_iff_ne, ne_eq, beq_eq_false_iff_ne, bne_eq_false_iff_eq, Bool.not_eq_true', Bool.not_eq_false', Bool.not_eq_true, Bool.not_eq_false, Decidable.not_not, Int.not_lt, Int.not_le] at h5
          refine skip ?_
          refine n_then ?_
          refine seq ?_
          refine region ?_
          refine op (y (x_move rfl) rfl ?_)
          refine op (y (x_move rfl) rfl ?_)
          refine op (y (x_move rfl) rfl ?_)
          refine op (y (x_indexNat sz_26 rfl rfl (by omega)) rfl ?_)
          refine op (y (x_fieldAddr fo_46_0 rfl) rfl ?_)
          refine op (y (x_load1 ag_3 rfl (by first | assumption | exact Cell.own 0 rfl rfl | exact Cell.own 1 rfl rfl | exact Cell.own 2 rfl rfl | exact Cell.own 3 rfl rfl | exact Cell.own 4 rfl rfl | exact Cell.own 5 rfl rfl | exact Cell.ofRo (by assumption))) rfl ?_)
          refine op (e_call rfl fn_78 rfl rfl (Reach_c l _ cap _ _ _ hl (by omega)) fun v35 ro35 L35 hle35 hp35 => ?_)
          obtain ⟨to, hRS, A2, cap2, rfl, hO2, hLL⟩ := hp35
          subst hLL
          have hl2 := hl.mono hle35
          have hcl := hC.len
          have hrl := hRS.len
          have hil2 : i * l.length ≤ 100 * 100 := Nat.mul_le_mul (by omega) hn
          refine op (y (x_assign rfl) rfl ?_)
          refine nil ?_
          refine n_then ?_
          refine seq ?_
          refine region ?_
          refine op (y (x_assign rfl) rfl ?_)
          refine nil ?_
          refine n_then ?_
          refine block ?_
          refine loop (fun m F ro' L' => ∃ (k : Nat) (A3 : Option Addr) (cap3 : Nat) (R : List Blk), (m = to.length - k) ∧ (F = [(0, .slice (some ⟨bbx, offx, none⟩) l.length cap), (3, .slice A3 (out.length + k) cap3), (4, .int .i64 (i : Nat)), (5, .slice A2 to.length cap2), (6, .int .i64 (k : Nat))]) ∧ (ro35 = ro') ∧ (L' = R :: L) ∧ (k ≤ to.length) ∧ (OwnS 46 2 A3 (out.length + k) cap3 ((out ++ (to.take k).map (fun t => ((l[i]).1, t))).flatMap encPair) R)) (to.length - 0) [(0, .slice (some ⟨bbx, offx, none⟩) l.length cap), (3, .slice _ (out.length + 0) _), (4, .int .i64 (i : Nat)), (5, .slice A2 to.length cap2), (6, .int .i64 (0 : Nat))] ⟨rfl, rfl, rfl, rfl, rfl, trivial⟩ ⟨0, _, _, _, rfl, rfl, rfl, rfl, by omega, by simpa using hT⟩ ?_
          rintro m F ro' L' ⟨k, A3, cap3, R, rfl, rfl, rfl, rfl, hk, hT⟩
          refine seq ?_
          refine seq ?_
          refine region ?_
          refine op (y (x_move rfl) rfl ?_)
          refine op (y (x_move rfl) rfl ?_)
          refine op (y (x_lenSl sz_23 rfl) rfl ?_)
          refine op (y (x_lss rfl rfl) rfl ?_)
          refine nil ?_
          refine n_then ?_
          refine cond rfl (fun h8 => ?_) (fun h8 => ?_)
          · try simp only [decide_eq_true_eq, decide_eq_false_iff_not, beq_iff_eq, bne_iff_ne, ne_eq, beq_eq_false_iff_ne, bne_eq_false_iff_eq, Bool.not_eq_true', Bool.not_eq_false', Bool.not_eq_true, Bool.not_eq_false, Decidable.not_not, Int.not_lt, Int.not_le] at h8
            refine skip ?_
            refine n_then ?_
            refine seq ?_
            refine block ?_
            obtain ⟨bbz, offz, rfl, hcz⟩ := hO2.at_ (i := k) (by omega)
            have hz := List.getElem?_eq_getElem (show k < to.length from by omega)
            have cz0 := hcz k _ hz 0 _ rfl
            have cx4 := hle35.cell cx0
            refine draw ([]) (by kernel_rfl) ?_
            refine d_take 0 rfl (by kernel_rfl) (by kernel_rfl) (by kernel_rfl) (fun _ _ _ h => h) rfl (.inl rfl) (x_move rfl) (fun w hi => by first | exact hi.j | exact J.of_le (Ro.le.refl _) (fun x hx => List.mem_append_right _ hx) hi | exact J.of_le (Ro.le.refl _) (fun x hx => List.mem_append_right _ (List.mem_append_right _ hx)) hi | exact J.of_le (Ro.le.refl _) (fun x hx => absurd hx (by simp)) hi) ?_
            refine d_take 1 rfl (by kernel_rfl) (by kernel_rfl) (by kernel_rfl) (fun _ _ _ h => h) rfl (.inl rfl) (x_move rfl) (fun w hi => by first | exact hi.j | exact J.of_le (Ro.le.refl _) (fun x hx => List.mem_append_right _ hx) hi | exact J.of_le (Ro.le.refl _) (fun x hx => List.mem_append_right _ (List.mem_append_right _ hx)) hi | exact J.of_le (Ro.le.refl _) (fun x hx => absurd hx (by simp)) hi) ?_
            refine d_take 2 rfl (by kernel_rfl) (by kernel_rfl) (by kernel_rfl) (fun _ _ _ h => h) rfl (.inl rfl) (x_move rfl) (fun w hi => by first | exact hi.j | exact J.of_le (Ro.le.refl _) (fun x hx => List.mem_append_right _ hx) hi | exact J.of_le (Ro.le.refl _) (fun x hx => List.mem_append_right _ (List.mem_append_right _ hx)) hi | exact J.of_le (Ro.le.refl _) (fun x hx => absurd hx (by simp)) hi) ?_
            refine d_take 3 rfl (by kernel_rfl) (by kernel_rfl) (by kernel_rfl) (fun _ _ _ h => h) rfl (.inl rfl) (x_indexNat sz_26 rfl rfl (by omega)) (fun w hi => by first | exact hi.j | exact J.of_le (Ro.le.refl _) (fun x hx => List.mem_append_right _ hx) hi | exact J.of_le (Ro.le.refl _) (fun x hx => List.mem_append_right _ (List.mem_append_right _ hx)) hi | exact J.of_le (Ro.le.refl _) (fun x hx => absurd hx (by simp)) hi) ?_
            refine d_take 4 rfl (by kernel_rfl) (by kernel_rfl) (by kernel_rfl) (fun _ _ _ h => h) rfl (.inl rfl) (x_fieldAddr fo_46_0 rfl) (fun w hi => by first | exact hi.j | exact J.of_le (Ro.le.refl _) (fun x hx => List.mem_append_right _ hx) hi | exact J.of_le (Ro.le.refl _) (fun x hx => List.mem_append_right _ (List.mem_append_right _ hx)) hi | exact J.of_le (Ro.le.refl _) (fun x hx => absurd hx (by simp)) hi) ?_
            refine d_take 5 rfl (by kernel_rfl) (by kernel_rfl) (by kernel_rfl) (fun _ _ _ h => h) rfl (.inl rfl) (x_load1 ag_3 rfl (by first | assumption | exact Cell.own 0 rfl rfl | exact Cell.own 1 rfl rfl | exact Cell.own 2 rfl rfl | exact Cell.own 3 rfl rfl | exact Cell.own 4 rfl rfl | exact Cell.own 5 rfl rfl | exact Cell.ofRo (by assumption))) (fun w hi => by first | exact hi.j | exact J.of_le (Ro.le.refl _) (fun x hx => List.mem_append_right _ hx) hi | exact J.of_le (Ro.le.refl _) (fun x hx => List.mem_append_right _ (List.mem_append_right _ hx)) hi | exact J.of_le (Ro.le.refl _) (fun x hx => absurd hx (by simp)) hi) ?_
            refine d_take 6 rfl (by kernel_rfl) (by kernel_rfl) (by kernel_rfl) (fun _ _ _ h => h) rfl (.inl rfl) (x_move rfl) (fun w hi => by first | exact hi.j | exact J.of_le (Ro.le.refl _) (fun x hx => List.mem_append_right _ hx) hi | exact J.of_le (Ro.le.refl _) (fun x hx => List.mem_append_right _ (List.mem_append_right _ hx)) hi | exact J.of_le (Ro.le.refl _) (fun x hx => absurd hx (by simp)) hi) ?_
            refine d_take 7 rfl (by kernel_rfl) (by kernel_rfl) (by kernel_rfl) (fun _ _ _ h => h) rfl (.inl rfl) (x_move rfl) (fun w hi => by first | exact hi.j | exact J.of_le (Ro.le.refl _) (fun x hx => List.mem_append_right _ hx) hi | exact J.of_le (Ro.le.refl _) (fun x hx => List.mem_append_right _ (List.mem_append_right _ hx)) hi | exact J.of_le (Ro.le.refl _) (fun x hx => absurd hx (by simp)) hi) ?_
            refine d_take 8 rfl (by kernel_rfl) (by kernel_rfl) (by kernel_rfl) (fun _ _ _ h => h) rfl (.inl rfl) (x_indexNat sz_23 rfl rfl (by omega)) (fun w hi => by first | exact hi.j | exact J.of_le (Ro.le.refl _) (fun x hx => List.mem_append_right _ hx) hi | exact J.of_le (Ro.le.refl _) (fun x hx => List.mem_append_right _ (List.mem_append_right _ hx)) hi | exact J.of_le (Ro.le.refl _) (fun x hx => absurd hx (by simp)) hi) ?_
            refine d_take 9 rfl (by kernel_rfl) (by kernel_rfl) (by kernel_rfl) (fun _ _ _ h => h) rfl (.inl rfl) (x_load1 ag_3 rfl (by first | assumption | exact Cell.own 0 rfl rfl | exact Cell.own 1 rfl rfl | exact Cell.own 2 rfl rfl | exact Cell.own 3 rfl rfl | exact Cell.own 4 rfl rfl | exact Cell.own 5 rfl rfl | exact Cell.ofRo (by assumption))) (fun w hi => by first | exact hi.j | exact J.of_le (Ro.le.refl _) (fun x hx => List.mem_append_right _ hx) hi | exact J.of_le (Ro.le.refl _) (fun x hx => List.mem_append_right _ (List.mem_append_right _ hx)) hi | exact J.of_le (Ro.le.refl _) (fun x hx => absurd hx (by simp)) hi) ?_
            refine d_take 10 rfl (by kernel_rfl) (by kernel_rfl) (by kernel_rfl) (fun _ _ _ h => h) rfl (.inl rfl) (x_build bu_46 rfl rfl) (fun w hi => by first | exact hi.j | exact J.of_le (Ro.le.refl _) (fun x hx => List.mem_append_right _ hx) hi | exact J.of_le (Ro.le.refl _) (fun x hx => List.mem_append_right _ (List.mem_append_right _ hx)) hi | exact J.of_le (Ro.le.refl _) (fun x hx => absurd hx (by simp)) hi) ?_
            refine d_one 11 rfl (by kernel_rfl) (.inl rfl) (e_slice1 rfl Try.underlying26 ti_46 rfl rfl (by decide) (by decide) rfl rfl rfl fun b53 => ?_)
            refine d_next (fun w hi => by first | exact hi.j | exact J.of_le (Ro.le.refl _) (fun x hx => List.mem_append_right _ hx) hi | exact J.of_le (Ro.le.refl _) (fun x hx => List.mem_append_right _ (List.mem_append_right _ hx)) hi | exact J.of_le (Ro.le.refl _) (fun x hx => absurd hx (by simp)) hi) ?_
            refine d_one 12 rfl (by kernel_rfl) (.inl rfl) (e_append1 0 rfl st_26 rfl rfl rfl hT rfl rfl (by omega) (by omega) (fun _ => rfl) fun A54 cap54 R54 hO54 => ?_)
            refine d_next (fun w hi => by first | exact hi.j | exact J.of_le (Ro.le.refl _) (fun x hx => List.mem_append_right _ hx) hi | exact J.of_le (Ro.le.refl _) (fun x hx => List.mem_append_right _ (List.mem_append_right _ hx)) hi | exact J.of_le (Ro.le.refl _) (fun x hx => absurd hx (by simp)) hi) ?_
            refine d_take 13 rfl (by kernel_rfl) (by kernel_rfl) (by kernel_rfl) (fun _ _ _ h => h) rfl (.inl rfl) (x_assign rfl) (fun w hi => by first | exact hi.j | exact J.of_le (Ro.le.refl _) (fun x hx => List.mem_append_right _ hx) hi | exact J.of_le (Ro.le.refl _) (fun x hx => List.mem_append_right _ (List.mem_append_right _ hx)) hi | exact J.of_le (Ro.le.refl _) (fun x hx => absurd hx (by simp)) hi) ?_
            refine d_end (by kernel_rfl) ?_
            refine n_in ?_
            refine n_then ?_
            refine region ?_
            refine op (y (x_move rfl) rfl ?_)
            refine op (y (x_add rfl rfl _ (wr (by omega) (by omega))) rfl ?_)
            refine op (y (x_assign rfl) rfl ?_)
            refine nil ?_
            exact round (to.length - (k + 1)) [(0, .slice (some ⟨bbx, offx, none⟩) l.length cap), (3, .slice _ (out.length + (k + 1)) _), (4, .int .i64 (i : Nat)), (5, .slice _ to.length cap2), (6, .int .i64 ((k + 1) : Nat))] (by omega) ⟨rfl, rfl, rfl, rfl, rfl, trivial⟩ ⟨k + 1, _, _, _, rfl, rfl, rfl, rfl, by omega, by
                have e : (to.take (k + 1)).map (fun t => ((l[i]).1, t)) = (to.take k).map (fun t => ((l[i]).1, t)) ++ [((l[i]).1, to[k])] := by rw [take_snoc' hz, List.map_append]; rfl
                rw [e, ← List.append_assoc]
                exact hO54.snoc⟩
          · try simp only [decide_eq_true_eq, decide_eq_false_iff_not, beq_iff_eq, bne_iff_ne, ne_eq, beq_eq_false_iff_ne, bne_eq_false_iff_eq, Bool.not_eq_true', Bool.not_eq_false', Bool.not_eq_true, Bool.not_eq_false, Decidable.not_not, Int.not_lt, Int.not_le] at h8
            refine exit ?_
            refine e_then ?_
            refine e_then ?_
            refine e_in ?_
            refine n_in ?_
            obtain rfl : k = to.length := by omega
            have hol : (out ++ to.map (fun t => ((l[i]).1, t))).length = out.length + to.length := by simp
            rw [List.take_length] at hT
            rw [← hol]
            exact mid [(0, .slice _ l.length cap), (3, .slice _ (out ++ to.map (fun t => ((l[i]).1, t))).length _), (4, .int .i64 (i : Nat))] ⟨rfl, rfl, rfl, trivial⟩ ⟨_, _, _, out ++ to.map (fun t => ((l[i]).1, t)), rfl, rfl, hle.trans hle35, hl2, hT.cast hol.symm rfl, hC.more hs hx (fun q h0 hq => by
                  first
                    | (rw [hx1] at hq; cases hq; exact h5)
                    | omega) hRS⟩
      · try simp only [decide_eq_true_eq, decide_eq_false_iff_not, beq_iff_eq, bne_iff_ne, ne_eq, beq_eq_false_iff_ne, bne_eq_false_iff_eq, Bool.not_eq_true', Bool.not_eq_false', Bool.not_eq_true, Bool.not_eq_false, Decidable.not_not, Int.not_lt, Int.not_le] at g15
        refine d_skip 3 rfl (by kernel_rfl) (by kernel_rfl) (by kernel_rfl) (fun _ _ _ h => h) rfl rfl rfl rfl (fun w hi => by first | exact hi.j | exact J.of_le (Ro.le.refl _) (fun x hx => List.mem_append_right _ hx) hi | exact J.of_le (Ro.le.refl _) (fun x hx => List.mem_append_right _ (List.mem_append_right _ hx)) hi | exact J.of_le (Ro.le.refl _) (fun x hx => absurd hx (by simp)) hi) ?_
        refine d_skip 4 rfl (by kernel_rfl) (by kernel_rfl) (by kernel_rfl) (fun _ _ _ h => h) rfl rfl rfl rfl (fun w hi => by first | exact hi.j | exact J.of_le (Ro.le.refl _) (fun x hx => List.mem_append_right _ hx) hi | exact J.of_le (Ro.le.refl _) (fun x hx => List.mem_append_right _ (List.mem_append_right _ hx)) hi | exact J.of_le (Ro.le.refl _) (fun x hx => absurd hx (by simp)) hi) ?_
        refine d_skip 5 rfl (by kernel_rfl) (by kernel_rfl) (by kernel_rfl) (fun _ _ _ h => h) rfl rfl rfl rfl (fun w hi => by first | exact hi.j | exact J.of_le (Ro.le.refl _) (fun x hx => List.mem_append_right _ hx) hi | exact J.of_le (Ro.le.refl _) (fun x hx => List.mem_append_right _ (List.mem_append_right _ hx)) hi | exact J.of_le (Ro.le.refl _) (fun x hx => absurd hx (by simp)) hi) ?_
        refine d_skip 6 rfl (by kernel_rfl) (by kernel_rfl) (by kernel_rfl) (fun _ _ _ h => h) rfl rfl rfl rfl (fun w hi => by first | exact hi.j | exact J.of_le (Ro.le.refl _) (fun x hx => List.mem_append_right _ hx) hi | exact J.of_le (Ro.le.refl _) (fun x hx => List.mem_append_right _ (List.mem_append_right _ hx)) hi | exact J.of_le (Ro.le.refl _) (fun x hx => absurd hx (by simp)) hi) ?_
        refine d_skip 7 rfl (by kernel_rfl) (by kernel_rfl) (by kernel_rfl) (fun _ _ _ h => h) rfl rfl rfl rfl (fun w hi => by first | exact hi.j | exact J.of_le (Ro.le.refl _) (fun x hx => List.mem_append_right _ hx) hi | exact J.of_le (Ro.le.refl _) (fun x hx => List.mem_append_right _ (List.mem_append_right _ hx)) hi | exact J.of_le (Ro.le.refl _) (fun x hx => absurd hx (by simp)) hi) ?_
        refine d_skip 8 rfl (by kernel_rfl) (by kernel_rfl) (by kernel_rfl) (fun _ _ _ h => h) rfl rfl rfl rfl (fun w hi => by first | exact hi.j | exact J.of_le (Ro.le.refl _) (fun x hx => List.mem_append_right _ hx) hi | exact J.of_le (Ro.le.refl _) (fun x hx => List.mem_append_right _ (List.mem_append_right _ hx)) hi | exact J.of_le (Ro.le.refl _) (fun x hx => absurd hx (by simp)) hi) ?_
        refine d_skip 9 rfl (by kernel_rfl) (by kernel_rfl) (by kernel_rfl) (fun _ _ _ h => h) rfl rfl rfl rfl (fun w hi => by first | exact hi.j | exact J.of_le (Ro.le.refl _) (fun x hx => List.mem_append_right _ hx) hi | exact J.of_le (Ro.le.refl _) (fun x hx => List.mem_append_right _ (List.mem_append_right _ hx)) hi | exact J.of_le (Ro.le.refl _) (fun x hx => absurd hx (by simp)) hi) ?_
        refine d_skip 10 rfl (by kernel_rfl) (by kernel_rfl) (by kernel_rfl) (fun _ _ _ h => h) rfl rfl rfl rfl (fun w hi => by first | exact hi.j | exact J.of_le (Ro.le.refl _) (fun x hx => List.mem_append_right _ hx) hi | exact J.of_le (Ro.le.refl _) (fun x hx => List.mem_append_right _ (List.mem_append_right _ hx)) hi | exact J.of_le (Ro.le.refl _) (fun x hx => absurd hx (by simp)) hi) ?_
        refine d_skip 11 rfl (by kernel_rfl) (by kernel_rfl) (by kernel_rfl) (fun _ _ _ h => h) rfl rfl rfl rfl (fun w hi => by first | exact hi.j | exact J.of_le (Ro.le.refl _) (fun x hx => List.mem_append_right _ hx) hi | exact J.of_le (Ro.le.refl _) (fun x hx => List.mem_append_right _ (List.mem_append_right _ hx)) hi | exact J.of_le (Ro.le.refl _) (fun x hx => absurd hx (by simp)) hi) ?_
        refine d_skip 12 rfl (by kernel_rfl) (by kernel_rfl) (by kernel_rfl) (fun _ _ _ h => h) rfl rfl rfl rfl (fun w hi => by first | exact hi.j | exact J.of_le (Ro.le.refl _) (fun x hx => List.mem_append_right _ hx) hi | exact J.of_le (Ro.le.refl _) (fun x hx => List.mem_append_right _ (List.mem_append_right _ hx)) hi | exact J.of_le (Ro.le.refl _) (fun x hx => absurd hx (by simp)) hi) ?_
        refine d_skip 13 rfl (by kernel_rfl) (by kernel_rfl) (by kernel_rfl) (fun _ _ _ h => h) rfl rfl rfl rfl (fun w hi => by first | exact hi.j | exact J.of_le (Ro.le.refl _) (fun x hx => List.mem_append_right _ hx) hi | exact J.of_le (Ro.le.refl _) (fun x hx => List.mem_append_right _ (List.mem_append_right _ hx)) hi | exact J.of_le (Ro.le.refl _) (fun x hx => absurd hx (by simp)) hi) ?_
        refine d_skip 14 rfl (by kernel_rfl) (by kernel_rfl) (by kernel_rfl) (fun _ _ _ h => h) rfl rfl rfl rfl (fun w hi => by first | exact hi.j | exact J.of_le (Ro.le.refl _) (fun x hx => List.mem_append_right _ hx) hi | exact J.of_le (Ro.le.refl _) (fun x hx => List.mem_append_right _ (List.mem_append_right _ hx)) hi | exact J.of_le (Ro.le.refl _) (fun x hx => absurd hx (by simp)) hi) ?_
        refine d_take 15 rfl (by kernel_rfl) (by kernel_rfl) (by kernel_rfl) (fun _ _ _ h => h) rfl (.inl rfl) (x_pickF rfl rfl) (fun w hi => by first | exact hi.j | exact J.of_le (Ro.le.refl _) (fun x hx => List.mem_append_right _ hx) hi | exact J.of_le (Ro.le.refl _) (fun x hx => List.mem_append_right _ (List.mem_append_right _ hx)) hi | exact J.of_le (Ro.le.refl _) (fun x hx => absurd hx (by simp)) hi) ?_
        refine d_end (by kernel_rfl) ?_
        refine n_then ?_
        refine condF rfl ?_
        refine skip ?_
        refine n_then ?_
        refine seq ?_
        refine region ?_
        refine op (y (x_move rfl) rfl ?_)
        refine op (y (x_move rfl) rfl ?_)
        refine op (y (x_move rfl) rfl ?_)
        refine op (y (x_indexNat sz_26 rfl rfl (by omega)) rfl ?_)
        refine op (y (x_fieldAddr fo_46_0 rfl) rfl ?_)
        refine op (y (x_load1 ag_3 rfl (by first | assumption | exact Cell.own 0 rfl rfl | exact Cell.own 1 rfl rfl | exact Cell.own 2 rfl rfl | exact Cell.own 3 rfl rfl | exact Cell.own 4 rfl rfl | exact Cell.own 5 rfl rfl | exact Cell.ofRo (by assumption))) rfl ?_)
        refine op (e_call rfl fn_78 rfl rfl (Reach_c l _ cap _ _ _ hl (by omega)) fun v35 ro35 L35 hle35 hp35 => ?_)
        obtain ⟨to, hRS, A2, cap2, rfl, hO2, hLL⟩ := hp35
        subst hLL
        have hl2 := hl.mono hle35
        have hcl := hC.len
        have hrl := hRS.len
        have hil2 : i * l.length ≤ 100 * 100 := Nat.mul_le_mul (by omega) hn
        refine op (y (x_assign rfl) rfl ?_)
        refine nil ?_
        refine n_then ?_
        refine seq ?_
        refine region ?_
        refine op (y (x_assign rfl) rfl ?_)
        refine nil ?_
        refine n_then ?_
        refine block ?_
        refine loop (fun m F ro' L' => ∃ (k : Nat) (A3 : Option Addr) (cap3 : Nat) (R : List Blk), (m = to.length - k) ∧ (F = [(0, .slice (some ⟨bbx, offx, none⟩) l.length cap), (3, .slice A3 (out.length + k) cap3), (4, .int .i64 (i : Nat)), (5, .slice A2 to.length cap2), (6, .int .i64 (k : Nat))]) ∧ (ro35 = ro') ∧ (L' = R :: L) ∧ (k ≤ to.length) ∧ (OwnS 46 2 A3 (out.length + k) cap3 ((out ++ (to.take k).map (fun t => ((l[i]).1, t))).flatMap encPair) R)) (to.length - 0) [(0, .slice (some ⟨bbx, offx, none⟩) l.length cap), (3, .slice _ (out.length + 0) _), (4, .int .i64 (i : Nat)), (5, .slice A2 to.length cap2), (6, .int .i64 (0 : Nat))] ⟨rfl, rfl, rfl, rfl, rfl, trivial⟩ ⟨0, _, _, _, rfl, rfl, rfl, rfl, by omega, by simpa using hT⟩ ?_
        rintro m F ro' L' ⟨k, A3, cap3, R, rfl, rfl, rfl, rfl, hk, hT⟩
        refine seq ?_
        refine seq ?_
        refine region ?_
        refine op (y (x_move rfl) rfl ?_)
        refine op (y (x_move rfl) rfl ?_)
        refine op (y (x_lenSl sz_23 rfl) rfl ?_)
        refine op (y (x_lss rfl rfl) rfl ?_)
        refine nil ?_
        refine n_then ?_
        refine cond rfl (fun h8 => ?_) (fun h8 => ?_)
        · try simp only [decide_eq_true_eq, decide_eq_false_iff_not, beq_iff_eq, bne_iff_ne, ne_eq, beq_eq_false_iff_ne, bne_eq_false_iff_eq, Bool.not_eq_true', Bool.not_eq_false', Bool.not_eq_true, Bool.not_eq_false, Decidable.not_not, Int.not_lt, Int.not_le] at h8
          refine skip ?_
          refine n_then ?_
          refine seq ?_
          refine block ?_
          obtain ⟨bbz, offz, rfl, hcz⟩ := hO2.at_ (i := k) (by omega)
          have hz := List.getElem?_eq_getElem (show k < to.length from by omega)
          have cz0 := hcz k _ hz 0 _ rfl
          have cx4 := hle35.cell cx0
          refine draw ([]) (by kernel_rfl) ?_
          refine d_take 0 rfl (by kernel_rfl) (by kernel_rfl) (by kernel_rfl) (fun _ _ _ h => h) rfl (.inl rfl) (x_move rfl) (fun w hi => by first | exact hi.j | exact J.of_le (Ro.le.refl _) (fun x hx => List.mem_append_right _ hx) hi | exact J.of_le (Ro.le.refl _) (fun x hx => List.mem_append_right _ (List.mem_append_right _ hx)) hi | exact J.of_le (Ro.le.refl _) (fun x hx => absurd hx (by simp)) hi) ?_
          refine d_take 1 rfl (by kernel_rfl) (by kernel_rfl) (by kernel_rfl) (fun _ _ _ h => h) rfl (.inl rfl) (x_move rfl) (fun w hi => by first | exact hi.j | exact J.of_le (Ro.le.refl _) (fun x hx => List.mem_append_right _ hx) hi | exact J.of_le (Ro.le.refl _) (fun x hx => List.mem_append_right _ (List.mem_append_right _ hx)) hi | exact J.of_le (Ro.le.refl _) (fun x hx => absurd hx (by simp)) hi) ?_
          refine d_take 2 rfl (by kernel_rfl) (by kernel_rfl) (by kernel_rfl) (fun _ _ _ h => h) rfl (.inl rfl) (x_move rfl) (fun w hi => by first | exact hi.j | exact J.of_le (Ro.le.refl _) (fun x hx => List.mem_append_right _ hx) hi | exact J.of_le (Ro.le.refl _) (fun x hx => List.mem_append_right _ (List.mem_append_right _ hx)) hi | exact J.of_le (Ro.le.refl _) (fun x hx => absurd hx (by simp)) hi) ?_
          refine d_take 3 rfl (by kernel_rfl) (by kernel_rfl) (by kernel_rfl) (fun _ _ _ h => h) rfl (.inl rfl) (x_indexNat sz_26 rfl rfl (by omega)) (fun w hi => by first | exact hi.j | exact J.of_le (Ro.le.refl _) (fun x hx => List.mem_append_right _ hx) hi | exact J.of_le (Ro.le.refl _) (fun x hx => List.mem_append_right _ (List.mem_append_right _ hx)) hi | exact J.of_le (Ro.le.refl _) (fun x hx => absurd hx (by simp)) hi) ?_
          refine d_take 4 rfl (by kernel_rfl) (by kernel_rfl) (by kernel_rfl) (fun _ _ _ h => h) rfl (.inl rfl) (x_fieldAddr fo_46_0 rfl) (fun w hi => by first | exact hi.j | exact J.of_le (Ro.le.refl _) (fun x hx => List.mem_append_right _ hx) hi | exact J.of_le (Ro.le.refl _) (fun x hx => List.mem_append_right _ (List.mem_append_right _ hx)) hi | exact J.of_le (Ro.le.refl _) (fun x hx => absurd hx (by simp)) hi) ?_
          refine d_take 5 rfl (by kernel_rfl) (by kernel_rfl) (by kernel_rfl) (fun _ _ _ h => h) rfl (.inl rfl) (x_load1 ag_3 rfl (by first | assumption | exact Cell.own 0 rfl rfl | exact Cell.own 1 rfl rfl | exact Cell.own 2 rfl rfl | exact Cell.own 3 rfl rfl | exact Cell.own 4 rfl rfl | exact Cell.own 5 rfl rfl | exact Cell.ofRo (by assumption))) (fun w hi => by first | exact hi.j | exact J.of_le (Ro.le.refl _) (fun x hx => List.mem_append_right _ hx) hi | exact J.of_le (Ro.le.refl _) (fun x hx => List.mem_append_right _ (List.mem_append_right _ hx)) hi | exact J.of_le (Ro.le.refl _) (fun x hx => absurd hx (by simp)) hi) ?_
          refine d_take 6 rfl (by kernel_rfl) (by kernel_rfl) (by kernel_rfl) (fun _ _ _ h => h) rfl (.inl rfl) (x_move rfl) (fun w hi => by first | exact hi.j | exact J.of_le (Ro.le.refl _) (fun x hx => List.mem_append_right _ hx) hi | exact J.of_le (Ro.le.refl _) (fun x hx => List.mem_append_right _ (List.mem_append_right _ hx)) hi | exact J.of_le (Ro.le.refl _) (fun x hx => absurd hx (by simp)) hi) ?_
          refine d_take 7 rfl (by kernel_rfl) (by kernel_rfl) (by kernel_rfl) (fun _ _ _ h => h) rfl (.inl rfl) (x_move rfl) (fun w hi => by first | exact hi.j | exact J.of_le (Ro.le.refl _) (fun x hx => List.mem_append_right _ hx) hi | exact J.of_le (Ro.le.refl _) (fun x hx => List.mem_append_right _ (List.mem_append_right _ hx)) hi | exact J.of_le (Ro.le.refl _) (fun x hx => absurd hx (by simp)) hi) ?_
          refine d_take 8 rfl (by kernel_rfl) (by kernel_rfl) (by kernel_rfl) (fun _ _ _ h => h) rfl (.inl rfl) (x_indexNat sz_23 rfl rfl (by omega)) (fun w hi => by first | exact hi.j | exact J.of_le (Ro.le.refl _) (fun x hx => List.mem_append_right _ hx) hi | exact J.of_le (Ro.le.refl _) (fun x hx => List.mem_append_right _ (List.mem_append_right _ hx)) hi | exact J.of_le (Ro.le.refl _) (fun x hx => absurd hx (by simp)) hi) ?_
          refine d_take 9 rfl (by kernel_rfl) (by kernel_rfl) (by kernel_rfl) (fun _ _ _ h => h) rfl (.inl rfl) (x_load1 ag_3 rfl (by first | assumption | exact Cell.own 0 rfl rfl | exact Cell.own 1 rfl rfl | exact Cell.own 2 rfl rfl | exact Cell.own 3 rfl rfl | exact Cell.own 4 rfl rfl | exact Cell.own 5 rfl rfl | exact Cell.ofRo (by assumption))) (fun w hi => by first | exact hi.j | exact J.of_le (Ro.le.refl _) (fun x hx => List.mem_append_right _ hx) hi | exact J.of_le (Ro.le.refl _) (fun x hx => List.mem_append_right _ (List.mem_append_right _ hx)) hi | exact J.of_le (Ro.le.refl _) (fun x hx => absurd hx (by simp)) hi) ?_
          refine d_take 10 rfl (by kernel_rfl) (by kernel_rfl) (by kernel_rfl) (fun _ _ _ h => h) rfl (.inl rfl) (x_build bu_46 rfl rfl) (fun w hi => by first | exact hi.j | exact J.of_le (Ro.le.refl _) (fun x hx => List.mem_append_right _ hx) hi | exact J.of_le (Ro.le.refl _) (fun x hx => List.mem_append_right _ (List.mem_append_right _ hx)) hi | exact J.of_le (Ro.le.refl _) (fun x hx => absurd hx (by simp)) hi) ?_
          refine d_one 11 rfl (by kernel_rfl) (.inl rfl) (e_slice1 rfl Try.underlying26 ti_46 rfl rfl (by decide) (by decide) rfl rfl rfl fun b53 => ?_)
          refine d_next (fun w hi => by first | exact hi.j | exact J.of_le (Ro.le.refl _) (fun x hx => List.mem_append_right _ hx) hi | exact J.of_le (Ro.le.refl _) (fun x hx => List.mem_append_right _ (List.mem_append_right _ hx)) hi | exact J.of_le (Ro.le.refl _) (fun x hx => absurd hx (by simp)) hi) ?_
          refine d_one 12 rfl (by kernel_rfl) (.inl rfl) (e_append1 0 rfl st_26 rfl rfl rfl hT rfl rfl (by omega) (by omega) (fun _ => rfl) fun A54 cap54 R54 hO54 => ?_)
          refine d_next (fun w hi => by first | exact hi.j | exact J.of_le (Ro.le.refl _) (fun x hx => List.mem_append_right _ hx) hi | exact J.of_le (Ro.le.refl _) (fun x hx => List.mem_append_right _ (List.mem_append_right _ hx)) hi | exact J.of_le (Ro.le.refl _) (fun x hx => absurd hx (by simp)) hi) ?_
          refine d_take 13 rfl (by kernel_rfl) (by kernel_rfl) (by kernel_rfl) (fun _ _ _ h => h) rfl (.inl rfl) (x_assign rfl) (fun w hi => by first | exact hi.j | exact J.of_le (Ro.le.refl _) (fun x hx => List.mem_append_right _ hx) hi | exact J.of_le (Ro.le.refl _) (fun x hx => List.mem_append_right _ (List.mem_append_right _ hx)) hi | exact J.of_le (Ro.le.refl _) (fun x hx => absurd hx (by simp)) hi) ?_
          refine d_end (by kernel_rfl) ?_
          refine n_in ?_
          refine n_then ?_
          refine region ?_
          refine op (y (x_move rfl) rfl ?_)
          refine op (y (x_add rfl rfl _ (wr (by omega) (by omega))) rfl ?_)
          refine op (y (x_assign rfl) rfl ?_)
          refine nil ?_
          exact round (to.length - (k + 1)) [(0, .slice (some ⟨bbx, offx, none⟩) l.length cap), (3, .slice _ (out.length + (k + 1)) _), (4, .int .i64 (i : Nat)), (5, .slice _ to.length cap2), (6, .int .i64 ((k + 1) : Nat))] (by omega) ⟨rfl, rfl, rfl, rfl, rfl, trivial⟩ ⟨k + 1, _, _, _, rfl, rfl, rfl, rfl, by omega, by
              have e : (to.take (k + 1)).map (fun t => ((l[i]).1, t)) = (to.take k).map (fun t => ((l[i]).1, t)) ++ [((l[i]).1, to[k])] := by rw [take_snoc' hz, List.map_append]; rfl
              rw [e, ← List.append_assoc]
              exact hO54.snoc⟩
        · try simp only [decide_eq_true_eq, decide_eq_false_iff_not, beq_iff_eq, bne_iff_ne, ne_eq, beq_eq_false_iff_ne, bne_eq_false_iff_eq, Bool.not_eq_true', Bool.not_eq_false', Bool.not_eq_true, Bool.not_eq_false, Decidable.not_not, Int.not_lt, Int.not_le] at h8
          refine exit ?_
          refine e_then ?_
          refine e_then ?_
          refine e_in ?_
          refine n_in ?_
          obtain rfl : k = to.length := by omega
          have hol : (out ++ to.map (fun t => ((l[i]).1, t))).length = out.length + to.length := by simp
          rw [List.take_length] at hT
          rw [← hol]
          exact mid [(0, .slice _ l.length cap), (3, .slice _ (out ++ to.map (fun t => ((l[i]).1, t))).length _), (4, .int .i64 (i : Nat))] ⟨rfl, rfl, rfl, trivial⟩ ⟨_, _, _, out ++ to.map (fun t => ((l[i]).1, t)), rfl, rfl, hle.trans hle35, hl2, hT.cast hol.symm rfl, hC.more hs hx (fun q h0 hq => by
                first
                  | (rw [hx1] at hq; cases hq; exact h5)
                  | omega) hRS⟩
    · rintro F ro' L' ⟨A3, cap3, R, out, rfl, rfl, hle, hl, hT, hC⟩
      refine region ?_
      refine op (y (x_move rfl) rfl ?_)
      refine op (y (x_add rfl rfl _ (wr (by omega) (by omega))) rfl ?_)
      refine op (y (x_assign rfl) rfl ?_)
      refine nil ?_
      exact round (l.length - (i + 1)) [(0, .slice _ l.length cap), (3, .slice _ out.length _), (4, .int .i64 ((i + 1) : Nat))] (by omega) ⟨rfl, rfl, rfl, trivial⟩ ⟨i + 1, _, _, _, out, rfl, rfl, rfl, by omega, hle, hl, hT, hC⟩
  · try simp only [decide_eq_true_eq, decide_eq_false_iff_not, beq_iff_eq, bne_iff_ne, ne_eq, beq_eq_false_iff_ne, bne_eq_false_iff_eq, Bool.not_eq_true', Bool.not_eq_false', Bool.not_eq_true, Bool.not_eq_false, Decidable.not_not, Int.not_lt, Int.not_le] at h3
    refine exit ?_
    refine e_then ?_
    refine e_then ?_
    refine e_in ?_
    refine n_then ?_
    refine seq ?_
    refine region ?_
    refine op (y (x_move rfl) rfl ?_)
    refine op (y (x_assign rfl) rfl ?_)
    refine nil ?_
    refine n_then ?_
    refine ret ?_
    obtain rfl : i = l.length := by omega
    refine ufreeze fun ro2 hle2 hR => ?_
    exact done rfl (.tmp rfl (.nil)) (hle.trans hle2) (L) (⟨_, .refl _, .refl _⟩) (⟨out, hC.fin, _, _, rfl, OwnS.sl hT (fun _ _ => rfl) hR, rfl⟩)

end Go.Proofs.Ytlmeblhcipkgmaa
