/- The walk of the statement on relations of texts. -/
import Derived.Test.YtlmeblhcipkgmaaL3
import Derived.Test.YtlmeblhcipkgmaaS9
namespace Go.Proofs.Ytlmeblhcipkgmaa
open Go Go.U
set_option maxRecDepth 20000
set_option linter.unusedSimpArgs false
set_option linter.unusedVariables false

open Go.RowKit
/-- the last four bits -/
def nib (i : Int) : Fin 16 := ⟨(BitVec.ofInt IntKind.i64.bits i &&& BitVec.ofInt IntKind.i64.bits 15).toNat % 16, Nat.mod_lt _ (by decide)⟩
theorem nib_and (i : Int) : IntKind.wrap .i64 (((BitVec.ofInt IntKind.i64.bits i &&& BitVec.ofInt IntKind.i64.bits 15).toNat : Nat) : Int) = ((nib i).val : Int) := by
  have h1 : (BitVec.ofInt IntKind.i64.bits i &&& BitVec.ofInt IntKind.i64.bits 15).toNat ≤ 15 := by
    rw [BitVec.toNat_and]
    have : (BitVec.ofInt IntKind.i64.bits 15).toNat = 15 := by decide
    rw [this]
    exact Nat.and_le_right
  have h2 : (nib i).val = (BitVec.ofInt IntKind.i64.bits i &&& BitVec.ofInt IntKind.i64.bits 15).toNat := Nat.mod_eq_of_lt (by omega)
  rw [h2]
  exact wr (by omega) (by omega)
def cF (a : Fin 16) : Int := (a.val : Int)
theorem cF_inj {a b : Fin 16} (h : cF a = cF b) : a = b := by
  unfold cF at h
  exact Fin.ext (by omega)
def nibP (p : Int × Int) : Fin 16 × Fin 16 := (nib p.1, nib p.2)
def ccP (q : Fin 16 × Fin 16) : Int × Int := (cF q.1, cF q.2)
theorem ccP_inj {q r : Fin 16 × Fin 16} (h : ccP q = ccP r) : q = r := by
  simp only [ccP, Prod.mk.injEq] at h
  exact Prod.ext (cF_inj h.1) (cF_inj h.2)
abbrev letters : ByteArray := { data := #[97, 98, 99, 100, 101, 102, 103, 104, 105, 106, 107, 108, 109, 110, 111, 112] }
theorem sz16 (a : Fin 16) : cF a + 1 ≤ (letters.size : Int) := by
  have h : letters.size = 16 := rfl
  rw [h]
  unfold cF
  omega
theorem ltr (a : Fin 16) : ({ data := #[120] } : ByteArray) ++ letters.extract (cF a).toNat (cF a + 1).toNat = ⟨(fL a).toArray⟩ := by
  revert a; decide +kernel
theorem cat16 (a : Fin 16) : ({ data := #[120] } : ByteArray).size + (letters.extract (cF a).toNat (cF a + 1).toNat).size ≤ 9223372036854775807 := by
  revert a; decide +kernel
def tmk (l : List (Int × Int)) : List (Fin 16 × Fin 16) := l.foldl (fun S p => addP S (nibP p)) []
theorem tmk_take {l : List (Int × Int)} {k : Nat} {p : Int × Int} (h : l[k]? = some p) : tmk (l.take (k + 1)) = addP (tmk (l.take k)) (nibP p) := by
  rw [take_snoc' h]; simp [tmk]
theorem tmk_spec (l : List (Int × Int)) : ∀ k, k ≤ l.length → (tmk (l.take k)).length ≤ k ∧ ∀ q, q ∈ tmk (l.take k) ↔ q ∈ (l.take k).map nibP := by
  intro k
  induction k with
  | zero => intro _; simp [tmk]
  | succ k ih =>
    intro hk
    obtain ⟨h1, h2⟩ := ih (by omega)
    have hx := List.getElem?_eq_getElem (show k < l.length by omega)
    rw [tmk_take hx]
    refine ⟨?_, fun q => ?_⟩
    · unfold addP
      split
      · omega
      · simp; omega
    · rw [mem_addP, h2, take_snoc' hx, List.map_append, List.mem_append]
      simp only [List.map_cons, List.map_nil, List.mem_singleton]
      exact Or.comm
/-- a relation of places and one of numbers that say the same -/
def Same (S : List (Fin 16 × Fin 16)) (M : List (Int × Int)) : Prop := ∀ x y, (x, y) ∈ M ↔ ∃ a b, (a, b) ∈ S ∧ x = cF a ∧ y = cF b
theorem Same.tg {S : List (Fin 16 × Fin 16)} {M : List (Int × Int)} (h : Same S M) (x y : Int) : TG M x y ↔ ∃ a b, TG S a b ∧ x = cF a ∧ y = cF b := by
  constructor
  · intro t
    induction t with
    | one hm =>
      obtain ⟨a, b, h1, h2, h3⟩ := (h _ _).1 hm
      exact ⟨a, b, .one h1, h2, h3⟩
    | step _ hm ih =>
      obtain ⟨a, b, h1, h2, h3⟩ := ih
      obtain ⟨b', d, h4, h5, h6⟩ := (h _ _).1 hm
      have : b = b' := cF_inj (by rw [← h3, ← h5])
      subst this
      exact ⟨a, d, .step h1 h4, h2, h6⟩
  · rintro ⟨a, b, t, rfl, rfl⟩
    induction t with
    | one hm => exact .one ((h _ _).2 ⟨_, _, hm, rfl, rfl⟩)
    | step _ hm ih => exact .step ih ((h _ _).2 ⟨_, _, hm, rfl, rfl⟩)
theorem Same.len {S : List (Fin 16 × Fin 16)} {M : List (Int × Int)} (h : Same S M) (hs : S.Nodup) (hm : M.Nodup) : (S.map ccP).Perm M := by
  refine (List.perm_ext_iff_of_nodup ?_ hm).2 fun ⟨x, y⟩ => ?_
  · rw [List.Nodup, List.pairwise_map]
    exact hs.imp (fun hne e => hne (ccP_inj e))
  · rw [h, List.mem_map]
    constructor
    · rintro ⟨⟨a, b⟩, h1, e⟩
      simp only [ccP, Prod.mk.injEq] at e
      exact ⟨a, b, h1, e.1.symm, e.2.symm⟩
    · rintro ⟨a, b, h1, h2, h3⟩
      exact ⟨(a, b), h1, by rw [h2, h3]; rfl⟩
theorem SP_map {l : List (Fin 16 × Fin 16)} (h : SPT l) : SP (l.map ccP) := by
  unfold SP SPT at *
  rw [List.pairwise_map]
  refine h.imp (fun {p q} h => ?_)
  simp only [ltT, ltP, ccP, cF, Bool.or_eq_true, decide_eq_true_eq, Bool.and_eq_true, beq_iff_eq] at h ⊢
  rcases h with h | ⟨h1, h2⟩
  · left
    have h3 : p.1.val < q.1.val := h
    exact decide_eq_true (show ((p.1.val : Int)) < (q.1.val : Int) by omega)
  · right
    have h3 : p.2.val < q.2.val := h2
    refine ⟨by rw [h1], ?_⟩
    exact decide_eq_true (show ((p.2.val : Int)) < (q.2.val : Int) by omega)
theorem same_mk (l : List (Int × Int)) : Same (tmk l) (mk (l.map (fun p => ccP (nibP p)))) := fun x y => by
  have h1 := (tmk_spec l l.length (Nat.le_refl _)).2
  have h2 := (mk_spec (l.map (fun p => ccP (nibP p))) _ (Nat.le_refl _)).2.2
  rw [List.take_length] at h1 h2
  rw [h2, List.mem_map]
  constructor
  · rintro ⟨p, hp, e⟩
    simp only [ccP, Prod.mk.injEq] at e
    exact ⟨(nibP p).1, (nibP p).2, (h1 _).2 (List.mem_map.2 ⟨p, hp, rfl⟩), e.1.symm, e.2.symm⟩
  · rintro ⟨a, b, hm, rfl, rfl⟩
    obtain ⟨p, hp, e⟩ := List.mem_map.1 ((h1 _).1 hm)
    exact ⟨p, hp, by rw [e]; rfl⟩

theorem RelTexts_c (l : List (Int × Int)) (A : Option Addr) (cap : Nat) (ro : Ro) (L : List (List Blk)) (hl : Sl ro 2 encPair A cap l) :
    CT Try.prog 4 [.slice A l.length cap].toArray ro L (PV (.bool true) L) := by
  have hcap : l.length ≤ 9223372036854775807 := by have := hl.1; have := hl.2.1; unfold maxLen at this; omega
  refine enter Try.func4 rfl Try.ntmps4 rfl ?_
  refine seq ?_
  refine region ?_
  refine op (y (x_assign rfl) rfl ?_)
  refine nil ?_
  refine n_then ?_
  refine seq ?_
  refine region ?_
  refine op (e_call rfl fn_15 rfl rfl (First_c _ _) fun v14 ro14 L14 hle14 hp14 => ?_)
  obtain ⟨rfl, rfl⟩ := hp14
  have hl1 := hl.mono hle14
  refine op (y (x_assign rfl) rfl ?_)
  refine nil ?_
  refine n_then ?_
  refine seq ?_
  refine seq ?_
  refine region ?_
  refine op (y (x_move rfl) rfl ?_)
  refine op (y (x_not rfl) rfl ?_)
  refine nil ?_
  refine n_then ?_
  refine condF rfl ?_
  refine skip ?_
  refine n_then ?_
  refine seq ?_
  refine seq ?_
  refine region ?_
  refine op (y (x_move rfl) rfl ?_)
  refine op (y (x_lenSl sz_22 rfl) rfl ?_)
  refine op (y (x_gtr rfl rfl) rfl ?_)
  refine op (y (x_move rfl) rfl ?_)
  refine bsplit 20 rfl (fun g20 => ?_) (fun g20 => ?_)
  · try simp only [decide_eq_true_eq, decide_eq_false_iff_not, beq_iff_eq, bne_iff_ne, ne_eq, beq_eq_false_iff_ne, bne_eq_false_iff_eq, Bool.not_eq_true', Bool.not_eq_false', Bool.not_eq_true, Bool.not_eq_false, Decidable.not_not, Int.not_lt, Int.not_le] at g20
    refine opN rfl rfl rfl rfl ?_
    refine opN rfl rfl rfl rfl ?_
    refine op (y (x_pickT rfl rfl) rfl ?_)
    refine nil ?_
    refine n_then ?_
    refine condT rfl ?_
    refine seq ?_
    refine region ?_
    refine op (y (x_move rfl) rfl ?_)
    refine op (y (x_assign rfl) rfl ?_)
    refine nil ?_
    refine n_then ?_
    refine ret ?_
    refine r_then ?_
    exact done rfl (.tmp rfl (.nil)) (hle14) (L) (⟨_, .refl _, .refl _⟩) (⟨rfl, rfl⟩)
  · try simp only [decide_eq_true_eq, decide_eq_false_iff_not, beq_iff_eq, bne_iff_ne, ne_eq, beq_eq_false_iff_ne, bne_eq_false_iff_eq, Bool.not_eq_true', Bool.not_eq_false', Bool.not_eq_true, Bool.not_eq_false, Decidable.not_not, Int.not_lt, Int.not_le] at g20
    refine opG rfl rfl (y (x_move rfl) rfl ?_)
    refine opG rfl rfl (y (x_not rfl) rfl ?_)
    refine op (y (x_pickF rfl rfl) rfl ?_)
    refine nil ?_
    refine n_then ?_
    refine condF rfl ?_
    refine skip ?_
    refine n_then ?_
    refine seq ?_
    refine region ?_
    refine op (e_call rfl fn_25 rfl rfl (SNew_c _ _) fun v25 ro25 L25 hle25 hp25 => ?_)
    obtain ⟨x, R, rfl, hR, rfl, rfl⟩ := hp25
    refine op (y (x_assign rfl) rfl ?_)
    refine nil ?_
    refine n_then ?_
    refine seq ?_
    refine seq ?_
    refine region ?_
    refine op (y (x_move rfl) rfl ?_)
    refine op (y (x_ptrEqNil Try.underlying37 rfl rfl) rfl ?_)
    refine nil ?_
    refine n_then ?_
    refine condF rfl ?_
    refine skip ?_
    refine n_then ?_
    refine seq ?_
    refine region ?_
    refine op (y (x_assign rfl) rfl ?_)
    refine nil ?_
    refine n_then ?_
    refine seq ?_
    refine seq ?_
    refine region ?_
    refine op (y (x_assign rfl) rfl ?_)
    refine nil ?_
    refine n_then ?_
    refine block ?_
    refine emp ?_
    refine loop (fun m F ro' L' => ∃ (k : Nat) (R : List Blk) (A5 : Option Addr) (cap5 : Nat) (R5 : List Blk), (m = l.length - k) ∧ (F = [(0, .slice A l.length cap), (3, .bool true), (4, .pointer (some ⟨x, 0, none⟩)), (5, .slice A5 k cap5), (6, .int .i64 (k : Nat))]) ∧ (ro14 = ro') ∧ (L' = R5 :: R :: L) ∧ (k ≤ l.length) ∧ (RelS x (tmk (l.take k)) R) ∧ (OwnS 40 2 A5 k cap5 (((l.take k).map (fun p => ccP (nibP p))).flatMap encPair) R5)) (l.length - 0) [(0, .slice A l.length cap), (3, .bool true), (4, .pointer (some ⟨x, 0, none⟩)), (5, .slice none 0 0), (6, .int .i64 (0 : Nat))] ⟨rfl, rfl, rfl, rfl, rfl, trivial⟩ ⟨0, _, none, 0, [], rfl, rfl, rfl, rfl, by omega, hR, OwnS.none_ 40 2⟩ ?_
    rintro m F ro' L' ⟨k, R, A5, cap5, R5, rfl, rfl, rfl, rfl, hk, hR, hT⟩
    refine seq ?_
    refine seq ?_
    refine region ?_
    refine op (y (x_move rfl) rfl ?_)
    refine op (y (x_move rfl) rfl ?_)
    refine op (y (x_lenSl sz_22 rfl) rfl ?_)
    refine op (y (x_lss rfl rfl) rfl ?_)
    refine nil ?_
    refine n_then ?_
    refine cond rfl (fun h11 => ?_) (fun h11 => ?_)
    · try simp only [decide_eq_true_eq, decide_eq_false_iff_not, beq_iff_eq, bne_iff_ne, ne_eq, beq_eq_false_iff_ne, bne_eq_false_iff_eq, Bool.not_eq_true', Bool.not_eq_false', Bool.not_eq_true, Bool.not_eq_false, Decidable.not_not, Int.not_lt, Int.not_le] at h11
      refine skip ?_
      refine n_then ?_
      refine seq ?_
      refine block ?_
      refine seq ?_
      obtain ⟨bbx, offx, rfl, hcx⟩ := hl1.at_ (i := k) (by omega)
      have hx := List.getElem?_eq_getElem (show k < l.length from by omega)
      have cx0 := hcx k _ hx 0 _ rfl
      have cx1 := hcx k _ hx 1 _ rfl
      refine draw ([]) (by kernel_rfl) ?_
      refine d_take 0 rfl (by kernel_rfl) (by kernel_rfl) (by kernel_rfl) (fun _ _ _ h => h) rfl (.inl rfl) (x_move rfl) (fun w hi => by first | exact hi.j | exact J.of_le (Ro.le.refl _) (fun x hx => List.mem_append_right _ hx) hi | exact J.of_le (Ro.le.refl _) (fun x hx => List.mem_append_right _ (List.mem_append_right _ hx)) hi | exact J.of_le (Ro.le.refl _) (fun x hx => absurd hx (by simp)) hi | exact J.of_le (by assumption) (fun x hx => absurd hx (by simp)) hi) ?_
      refine d_take 1 rfl (by kernel_rfl) (by kernel_rfl) (by kernel_rfl) (fun _ _ _ h => h) rfl (.inl rfl) (x_move rfl) (fun w hi => by first | exact hi.j | exact J.of_le (Ro.le.refl _) (fun x hx => List.mem_append_right _ hx) hi | exact J.of_le (Ro.le.refl _) (fun x hx => List.mem_append_right _ (List.mem_append_right _ hx)) hi | exact J.of_le (Ro.le.refl _) (fun x hx => absurd hx (by simp)) hi | exact J.of_le (by assumption) (fun x hx => absurd hx (by simp)) hi) ?_
      refine d_take 2 rfl (by kernel_rfl) (by kernel_rfl) (by kernel_rfl) (fun _ _ _ h => h) rfl (.inl rfl) (x_indexNat sz_22 rfl rfl (by omega)) (fun w hi => by first | exact hi.j | exact J.of_le (Ro.le.refl _) (fun x hx => List.mem_append_right _ hx) hi | exact J.of_le (Ro.le.refl _) (fun x hx => List.mem_append_right _ (List.mem_append_right _ hx)) hi | exact J.of_le (Ro.le.refl _) (fun x hx => absurd hx (by simp)) hi | exact J.of_le (by assumption) (fun x hx => absurd hx (by simp)) hi) ?_
      refine d_take 3 rfl (by kernel_rfl) (by kernel_rfl) (by kernel_rfl) (fun _ _ _ h => h) rfl (.inl rfl) (x_fieldAddr fo_40_0 rfl) (fun w hi => by first | exact hi.j | exact J.of_le (Ro.le.refl _) (fun x hx => List.mem_append_right _ hx) hi | exact J.of_le (Ro.le.refl _) (fun x hx => List.mem_append_right _ (List.mem_append_right _ hx)) hi | exact J.of_le (Ro.le.refl _) (fun x hx => absurd hx (by simp)) hi | exact J.of_le (by assumption) (fun x hx => absurd hx (by simp)) hi) ?_
      refine d_take 4 rfl (by kernel_rfl) (by kernel_rfl) (by kernel_rfl) (fun _ _ _ h => h) rfl (.inl rfl) (x_load1 ag_3 rfl (by first | assumption | exact Cell.own 0 rfl rfl | exact Cell.own 1 rfl rfl | exact Cell.own 2 rfl rfl | exact Cell.own 3 rfl rfl | exact Cell.own 4 rfl rfl | exact Cell.own 5 rfl rfl | exact Cell.ofRo (by assumption))) (fun w hi => by first | exact hi.j | exact J.of_le (Ro.le.refl _) (fun x hx => List.mem_append_right _ hx) hi | exact J.of_le (Ro.le.refl _) (fun x hx => List.mem_append_right _ (List.mem_append_right _ hx)) hi | exact J.of_le (Ro.le.refl _) (fun x hx => absurd hx (by simp)) hi | exact J.of_le (by assumption) (fun x hx => absurd hx (by simp)) hi) ?_
      refine d_take 5 rfl (by kernel_rfl) (by kernel_rfl) (by kernel_rfl) (fun _ _ _ h => h) rfl (.inl rfl) ((x_and rfl rfl _ (nib_and (l[k]).1)).as (v' := .int .i64 (cF (nib (l[k]).1))) rfl) (fun w hi => by first | exact hi.j | exact J.of_le (Ro.le.refl _) (fun x hx => List.mem_append_right _ hx) hi | exact J.of_le (Ro.le.refl _) (fun x hx => List.mem_append_right _ (List.mem_append_right _ hx)) hi | exact J.of_le (Ro.le.refl _) (fun x hx => absurd hx (by simp)) hi | exact J.of_le (by assumption) (fun x hx => absurd hx (by simp)) hi) ?_
      refine d_take 6 rfl (by kernel_rfl) (by kernel_rfl) (by kernel_rfl) (fun _ _ _ h => h) rfl (.inl rfl) (x_move rfl) (fun w hi => by first | exact hi.j | exact J.of_le (Ro.le.refl _) (fun x hx => List.mem_append_right _ hx) hi | exact J.of_le (Ro.le.refl _) (fun x hx => List.mem_append_right _ (List.mem_append_right _ hx)) hi | exact J.of_le (Ro.le.refl _) (fun x hx => absurd hx (by simp)) hi | exact J.of_le (by assumption) (fun x hx => absurd hx (by simp)) hi) ?_
      refine d_take 7 rfl (by kernel_rfl) (by kernel_rfl) (by kernel_rfl) (fun _ _ _ h => h) rfl (.inl rfl) (x_move rfl) (fun w hi => by first | exact hi.j | exact J.of_le (Ro.le.refl _) (fun x hx => List.mem_append_right _ hx) hi | exact J.of_le (Ro.le.refl _) (fun x hx => List.mem_append_right _ (List.mem_append_right _ hx)) hi | exact J.of_le (Ro.le.refl _) (fun x hx => absurd hx (by simp)) hi | exact J.of_le (by assumption) (fun x hx => absurd hx (by simp)) hi) ?_
      refine d_take 8 rfl (by kernel_rfl) (by kernel_rfl) (by kernel_rfl) (fun _ _ _ h => h) rfl (.inl rfl) (x_indexNat sz_22 rfl rfl (by omega)) (fun w hi => by first | exact hi.j | exact J.of_le (Ro.le.refl _) (fun x hx => List.mem_append_right _ hx) hi | exact J.of_le (Ro.le.refl _) (fun x hx => List.mem_append_right _ (List.mem_append_right _ hx)) hi | exact J.of_le (Ro.le.refl _) (fun x hx => absurd hx (by simp)) hi | exact J.of_le (by assumption) (fun x hx => absurd hx (by simp)) hi) ?_
      refine d_take 9 rfl (by kernel_rfl) (by kernel_rfl) (by kernel_rfl) (fun _ _ _ h => h) rfl (.inl rfl) (x_fieldAddr fo_40_1 rfl) (fun w hi => by first | exact hi.j | exact J.of_le (Ro.le.refl _) (fun x hx => List.mem_append_right _ hx) hi | exact J.of_le (Ro.le.refl _) (fun x hx => List.mem_append_right _ (List.mem_append_right _ hx)) hi | exact J.of_le (Ro.le.refl _) (fun x hx => absurd hx (by simp)) hi | exact J.of_le (by assumption) (fun x hx => absurd hx (by simp)) hi) ?_
      refine d_take 10 rfl (by kernel_rfl) (by kernel_rfl) (by kernel_rfl) (fun _ _ _ h => h) rfl (.inl rfl) (x_load1 ag_3 rfl (by first | assumption | exact Cell.own 0 rfl rfl | exact Cell.own 1 rfl rfl | exact Cell.own 2 rfl rfl | exact Cell.own 3 rfl rfl | exact Cell.own 4 rfl rfl | exact Cell.own 5 rfl rfl | exact Cell.ofRo (by assumption))) (fun w hi => by first | exact hi.j | exact J.of_le (Ro.le.refl _) (fun x hx => List.mem_append_right _ hx) hi | exact J.of_le (Ro.le.refl _) (fun x hx => List.mem_append_right _ (List.mem_append_right _ hx)) hi | exact J.of_le (Ro.le.refl _) (fun x hx => absurd hx (by simp)) hi | exact J.of_le (by assumption) (fun x hx => absurd hx (by simp)) hi) ?_
      refine d_take 11 rfl (by kernel_rfl) (by kernel_rfl) (by kernel_rfl) (fun _ _ _ h => h) rfl (.inl rfl) ((x_and rfl rfl _ (nib_and (l[k]).2)).as (v' := .int .i64 (cF (nib (l[k]).2))) rfl) (fun w hi => by first | exact hi.j | exact J.of_le (Ro.le.refl _) (fun x hx => List.mem_append_right _ hx) hi | exact J.of_le (Ro.le.refl _) (fun x hx => List.mem_append_right _ (List.mem_append_right _ hx)) hi | exact J.of_le (Ro.le.refl _) (fun x hx => absurd hx (by simp)) hi | exact J.of_le (by assumption) (fun x hx => absurd hx (by simp)) hi) ?_
      refine d_take 12 rfl (by kernel_rfl) (by kernel_rfl) (by kernel_rfl) (fun _ _ _ h => h) rfl (.inl rfl) (x_build bu_40 rfl rfl) (fun w hi => by first | exact hi.j | exact J.of_le (Ro.le.refl _) (fun x hx => List.mem_append_right _ hx) hi | exact J.of_le (Ro.le.refl _) (fun x hx => List.mem_append_right _ (List.mem_append_right _ hx)) hi | exact J.of_le (Ro.le.refl _) (fun x hx => absurd hx (by simp)) hi | exact J.of_le (by assumption) (fun x hx => absurd hx (by simp)) hi) ?_
      refine d_one 13 rfl (by kernel_rfl) (.inl rfl) (e_alloc rfl zc_40 rfl fun b7 => ?_)
      refine d_next (fun w hi => by first | exact hi.j | exact J.of_le (Ro.le.refl _) (fun x hx => List.mem_append_right _ hx) hi | exact J.of_le (Ro.le.refl _) (fun x hx => List.mem_append_right _ (List.mem_append_right _ hx)) hi | exact J.of_le (Ro.le.refl _) (fun x hx => absurd hx (by simp)) hi | exact J.of_le (by assumption) (fun x hx => absurd hx (by simp)) hi) ?_
      first | refine d_one 14 rfl (by kernel_rfl) (.inl rfl) (e_store 0 rfl rfl ts_40 rfl rfl rfl rfl rfl rfl ?_) | refine d_one 14 rfl (by kernel_rfl) (.inl rfl) (e_store 1 rfl rfl ts_40 rfl rfl rfl rfl rfl rfl ?_) | refine d_one 14 rfl (by kernel_rfl) (.inl rfl) (e_store 2 rfl rfl ts_40 rfl rfl rfl rfl rfl rfl ?_) | refine d_one 14 rfl (by kernel_rfl) (.inl rfl) (e_store 3 rfl rfl ts_40 rfl rfl rfl rfl rfl rfl ?_) | refine d_one 14 rfl (by kernel_rfl) (.inl rfl) (e_store 4 rfl rfl ts_40 rfl rfl rfl rfl rfl rfl ?_) | refine d_one 14 rfl (by kernel_rfl) (.inl rfl) (e_store 5 rfl rfl ts_40 rfl rfl rfl rfl rfl rfl ?_)
      refine d_next (fun w hi => by first | exact hi.j | exact J.of_le (Ro.le.refl _) (fun x hx => List.mem_append_right _ hx) hi | exact J.of_le (Ro.le.refl _) (fun x hx => List.mem_append_right _ (List.mem_append_right _ hx)) hi | exact J.of_le (Ro.le.refl _) (fun x hx => absurd hx (by simp)) hi | exact J.of_le (by assumption) (fun x hx => absurd hx (by simp)) hi) ?_
      refine d_end (by kernel_rfl) ?_
      refine n_then ?_
      refine seq ?_
      refine region ?_
      refine op (y (x_move rfl) rfl ?_)
      refine op (y (x_loadN (vs := [.int .i64 (cF (nib (l[k]).1)), .int .i64 (cF (nib (l[k]).2))]) ag_40 rfl rfl (CellsAt.own 0 0 2 _ rfl rfl)) rfl ?_)
      refine op (e_slice1 rfl Try.underlying22 ti_40 rfl rfl (by decide) (by decide) rfl rfl rfl fun b49 => ?_)
      refine op (e_append1 1 rfl st_22 rfl rfl rfl hT rfl rfl (by omega) (by omega) (fun _ => rfl) fun A50 cap50 R50 hO50 => ?_)
      refine op (y (x_assign rfl) rfl ?_)
      refine nil ?_
      refine n_then ?_
      refine draw ([(b7, .cells [.int .i64 (cF (nib (l[k]).1)), .int .i64 (cF (nib (l[k]).2))].toArray 40 (0, 0))]) (by kernel_rfl) ?_
      refine d_take 0 rfl (by kernel_rfl) (by kernel_rfl) (by kernel_rfl) (fun _ _ _ h => h) rfl (.inl rfl) (x_move rfl) (fun w hi => J.of_le (Ro.le.refl _) (fun x hx => by rw [List.mem_singleton.1 hx]; simp) hi) ?_
      refine d_take 1 rfl (by kernel_rfl) (by kernel_rfl) (by kernel_rfl) (fun _ _ _ h => h) rfl (.inl rfl) (x_fieldAddr fo_40_0 rfl) (fun w hi => J.of_le (Ro.le.refl _) (fun x hx => by rw [List.mem_singleton.1 hx]; simp) hi) ?_
      refine d_take 2 rfl (by kernel_rfl) (by kernel_rfl) (by kernel_rfl) (fun _ _ _ h => h) rfl (.inl rfl) (x_load1 ag_3 rfl (Cell.blk (List.mem_cons_self) rfl)) (fun w hi => J.of_le (Ro.le.refl _) (fun x hx => by rw [List.mem_singleton.1 hx]; simp) hi) ?_
      refine d_take 3 rfl (by kernel_rfl) (by kernel_rfl) (by kernel_rfl) (fun _ _ _ h => h) rfl (.inl rfl) (x_fieldAddr fo_40_0 rfl) (fun w hi => J.of_le (Ro.le.refl _) (fun x hx => by rw [List.mem_singleton.1 hx]; simp) hi) ?_
      refine d_take 4 rfl (by kernel_rfl) (by kernel_rfl) (by kernel_rfl) (fun _ _ _ h => h) rfl (.inl rfl) (x_load1 ag_3 rfl (Cell.blk (List.mem_cons_self) rfl)) (fun w hi => J.of_le (Ro.le.refl _) (fun x hx => by rw [List.mem_singleton.1 hx]; simp) hi) ?_
      refine d_take 5 rfl (by kernel_rfl) (by kernel_rfl) (by kernel_rfl) (fun _ _ _ h => h) rfl (.inl rfl) (x_add rfl rfl _ (wr (by unfold cF; omega) (by unfold cF; omega))) (fun w hi => J.of_le (Ro.le.refl _) (fun x hx => by rw [List.mem_singleton.1 hx]; simp) hi) ?_
      refine d_take 6 rfl (by kernel_rfl) (by kernel_rfl) (by kernel_rfl) (fun _ _ _ h => h) rfl (.inl rfl) (x_sliceStr Try.underlying9 rfl rfl rfl (by simp only [ccP, cF]; omega) (by omega) (sz16 (nib (l[k]).1))) (fun w hi => J.of_le (Ro.le.refl _) (fun x hx => by rw [List.mem_singleton.1 hx]; simp) hi) ?_
      refine d_take 7 rfl (by kernel_rfl) (by kernel_rfl) (by kernel_rfl) (fun _ _ _ h => h) rfl (.inl rfl) ((x_strcat rfl rfl (cat16 (nib (l[k]).1))).as (v' := encT (nib (l[k]).1)) (congrArg Value.string (ltr (nib (l[k]).1)))) (fun w hi => J.of_le (Ro.le.refl _) (fun x hx => by rw [List.mem_singleton.1 hx]; simp) hi) ?_
      refine d_take 8 rfl (by kernel_rfl) (by kernel_rfl) (by kernel_rfl) (fun _ _ _ h => h) rfl (.inl rfl) (x_fieldAddr fo_40_1 rfl) (fun w hi => J.of_le (Ro.le.refl _) (fun x hx => by rw [List.mem_singleton.1 hx]; simp) hi) ?_
      refine d_take 9 rfl (by kernel_rfl) (by kernel_rfl) (by kernel_rfl) (fun _ _ _ h => h) rfl (.inl rfl) (x_load1 ag_3 rfl (Cell.blk (List.mem_cons_self) rfl)) (fun w hi => J.of_le (Ro.le.refl _) (fun x hx => by rw [List.mem_singleton.1 hx]; simp) hi) ?_
      refine d_take 10 rfl (by kernel_rfl) (by kernel_rfl) (by kernel_rfl) (fun _ _ _ h => h) rfl (.inl rfl) (x_fieldAddr fo_40_1 rfl) (fun w hi => J.of_le (Ro.le.refl _) (fun x hx => by rw [List.mem_singleton.1 hx]; simp) hi) ?_
      refine d_take 11 rfl (by kernel_rfl) (by kernel_rfl) (by kernel_rfl) (fun _ _ _ h => h) rfl (.inl rfl) (x_load1 ag_3 rfl (Cell.blk (List.mem_cons_self) rfl)) (fun w hi => J.of_le (Ro.le.refl _) (fun x hx => by rw [List.mem_singleton.1 hx]; simp) hi) ?_
      refine d_take 12 rfl (by kernel_rfl) (by kernel_rfl) (by kernel_rfl) (fun _ _ _ h => h) rfl (.inl rfl) (x_add rfl rfl _ (wr (by unfold cF; omega) (by unfold cF; omega))) (fun w hi => J.of_le (Ro.le.refl _) (fun x hx => by rw [List.mem_singleton.1 hx]; simp) hi) ?_
      refine d_take 13 rfl (by kernel_rfl) (by kernel_rfl) (by kernel_rfl) (fun _ _ _ h => h) rfl (.inl rfl) (x_sliceStr Try.underlying9 rfl rfl rfl (by simp only [ccP, cF]; omega) (by omega) (sz16 (nib (l[k]).2))) (fun w hi => J.of_le (Ro.le.refl _) (fun x hx => by rw [List.mem_singleton.1 hx]; simp) hi) ?_
      refine d_take 14 rfl (by kernel_rfl) (by kernel_rfl) (by kernel_rfl) (fun _ _ _ h => h) rfl (.inl rfl) ((x_strcat rfl rfl (cat16 (nib (l[k]).2))).as (v' := encT (nib (l[k]).2)) (congrArg Value.string (ltr (nib (l[k]).2)))) (fun w hi => J.of_le (Ro.le.refl _) (fun x hx => by rw [List.mem_singleton.1 hx]; simp) hi) ?_
      refine pull 2 rfl rfl ?_
      refine d_one 15 rfl (by kernel_rfl) (.inl rfl) (e_call rfl fn_26 rfl rfl (SAdd_c x _ _ _ _ hR _ _ trivial trivial) fun v66 ro66 L66 hle66 hp66 => ?_)
      obtain ⟨rfl, R66, hR66, rfl, rfl⟩ := hp66
      have htk := tmk_take hx
      rw [show ((nib (l[k]).1, nib (l[k]).2) : Fin 16 × Fin 16) = nibP (l[k]) from rfl, ← htk] at hR66
      refine d_next (fun w hi => J.of_le (Ro.le.refl _) (fun x hx => by rw [List.mem_singleton.1 hx]; simp) hi) ?_
      refine d_end (by kernel_rfl) ?_
      refine n_in ?_
      refine n_then ?_
      refine region ?_
      refine op (y (x_move rfl) rfl ?_)
      refine op (y (x_add rfl rfl _ (wr (by omega) (by omega))) rfl ?_)
      refine op (y (x_assign rfl) rfl ?_)
      refine nil ?_
      refine drop1 ?_
      refine swap0 ?_
      exact round (l.length - (k + 1)) [(0, .slice _ l.length cap), (3, .bool true), (4, .pointer (some ⟨x, 0, none⟩)), (5, .slice _ (k + 1) _), (6, .int .i64 ((k + 1) : Nat))] (by omega) ⟨rfl, rfl, rfl, rfl, rfl, trivial⟩ ⟨k + 1, _, _, _, _, rfl, rfl, rfl, rfl, by omega, hR66, by rw [take_snoc' hx, List.map_append]; exact OwnS.snoc (x := ccP (nibP (l[k]))) (enc := encPair) hO50⟩
    · try simp only [decide_eq_true_eq, decide_eq_false_iff_not, beq_iff_eq, bne_iff_ne, ne_eq, beq_eq_false_iff_ne, bne_eq_false_iff_eq, Bool.not_eq_true', Bool.not_eq_false', Bool.not_eq_true, Bool.not_eq_false, Decidable.not_not, Int.not_lt, Int.not_le] at h11
      obtain rfl : k = l.length := by omega
      rw [List.take_length] at hT hR
      refine ufreeze fun ro5 hle5 hR5 => ?_
      have hl5 : l.length = (l.map (fun p => ccP (nibP p))).length := by simp
      have hsm : Sl ro5 2 encPair A5 cap5 (l.map (fun p => ccP (nibP p))) := OwnS.sl (hT.cast hl5 rfl) (fun _ _ => rfl) hR5
      have hsame := same_mk l
      obtain ⟨hs1, hs2, hs3⟩ := mk_spec (l.map (fun p => ccP (nibP p))) _ (Nat.le_refl _)
      rw [List.take_length] at hs1 hs2 hs3
      have hml : (mk (l.map (fun p => ccP (nibP p)))).length ≤ 60 := by simp at hs2; omega
      have hperm := hsame.len hR.nodup hs1.nodup
      have hlen1 : (tmk l).length = (mk (l.map (fun p => ccP (nibP p)))).length := by rw [← hperm.length_eq]; simp
      have h64 : ∀ p ∈ l.map (fun p => ccP (nibP p)), I64 p.1 ∧ I64 p.2 := fun p hp => by
        obtain ⟨q, _, rfl⟩ := List.mem_map.1 hp
        have h1 := (nib q.1).isLt
        have h2 := (nib q.2).isLt
        simp only [ccP, cF, nibP, I64]
        omega
      have hsl : (l.map (fun p => ccP (nibP p))).length ≤ 100 := by simp; omega
      rw [hl5]
      generalize l.map (fun p => ccP (nibP p)) = sml at *
      refine exit ?_
      refine e_then ?_
      refine e_then ?_
      refine e_in ?_
      refine n_then ?_
      refine seq ?_
      refine region ?_
      refine op (y (x_move rfl) rfl ?_)
      refine op (e_call rfl fn_16 rfl rfl (Made_c sml A5 cap5 _ _ hsm hsl h64) fun v69 ro69 L69 hle69 hp69 => ?_)
      obtain ⟨xi, Ri, A9, cap9, rfl, hRi, hm, hLL⟩ := hp69
      subst hLL
      refine op (y (x_move rfl) rfl ?_)
      refine op (y (x_extract rfl rfl) rfl ?_)
      refine op (y (x_extract rfl rfl) rfl ?_)
      refine op (y (x_assign rfl) rfl ?_)
      refine op (y (x_assign rfl) rfl ?_)
      refine nil ?_
      refine n_then ?_
      refine seq ?_
      refine region ?_
      refine op (y (x_move rfl) rfl ?_)
      refine op (e_call rfl fn_27 rfl rfl (SClosure_c x (tmk l) R _ _ hR (by simp) (by omega)) fun v73 ro73 L73 hle73 hp73 => ?_)
      obtain ⟨x2, C, R2, rfl, hC, hfin, hCl, rfl, hLL⟩ := hp73
      subst hLL
      have hCl2 : C.length ≤ 60 * 60 := Nat.le_trans hCl (Nat.mul_le_mul (by omega) (by omega))
      refine op (y (x_assign rfl) rfl ?_)
      refine nil ?_
      refine n_then ?_
      refine seq ?_
      refine region ?_
      refine op (y (x_move rfl) rfl ?_)
      refine op (e_call rfl fn_21 rfl rfl (Closure_c (mk sml) A9 cap9 _ _ (hm.mono hle73) (by omega) hs1) fun v75 ro75 L75 hle75 hp75 => ?_)
      obtain ⟨want, hCS, A11, cap11, rfl, hO11, rfl⟩ := hp75
      have hsameC : Same C want := fun p q => by
        rw [hCS.2.1, hsame.tg]
        constructor
        · rintro ⟨a, b, t, h1, h2⟩
          exact ⟨a, b, (hfin (a, b)).2 t, h1, h2⟩
        · rintro ⟨a, b, t, h1, h2⟩
          exact ⟨a, b, (hfin (a, b)).1 t, h1, h2⟩
      have hlen2 : C.length = want.length := by rw [← (hsameC.len hC.nodup hCS.1.nodup).length_eq]; simp
      refine op (y (x_assign rfl) rfl ?_)
      refine nil ?_
      refine n_then ?_
      refine seq ?_
      refine seq ?_
      refine region ?_
      refine op (y (x_move rfl) rfl ?_)
      refine op (y (x_ptrEqNil Try.underlying37 rfl rfl) rfl ?_)
      refine op (y (x_move rfl) rfl ?_)
      refine opG rfl rfl (y (x_move rfl) rfl ?_)
      refine opG rfl rfl (e_call rfl fn_28 rfl rfl (SLen_c x _ R _ _ hR (by simp) (by omega)) fun v80 ro80 L80 hle80 hp80 => ?_)
      obtain ⟨rfl, rfl, rfl⟩ := hp80
      rw [hlen1]
      refine opG rfl rfl (y (x_move rfl) rfl ?_)
      refine opG rfl rfl (y (x_lenSl sz_26 rfl) rfl ?_)
      refine opG rfl rfl (y ((x_neq rfl rfl).as (v' := .bool false) (by simp)) rfl ?_)
      refine op (y (x_pickF rfl rfl) rfl ?_)
      refine op (y (x_move rfl) rfl ?_)
      refine opG rfl rfl (y (x_move rfl) rfl ?_)
      refine opG rfl rfl (e_call rfl fn_28 rfl rfl (SLen_c x2 _ R2 _ _ hC (List.mem_cons_self) (by omega)) fun v87 ro87 L87 hle87 hp87 => ?_)
      obtain ⟨rfl, rfl, rfl⟩ := hp87
      rw [hlen2]
      refine opG rfl rfl (y (x_move rfl) rfl ?_)
      refine opG rfl rfl (y (x_lenSl sz_26 rfl) rfl ?_)
      refine opG rfl rfl (y ((x_neq rfl rfl).as (v' := .bool false) (by simp)) rfl ?_)
      refine op (y (x_pickF rfl rfl) rfl ?_)
      refine nil ?_
      refine n_then ?_
      refine condF rfl ?_
      refine skip ?_
      refine n_then ?_
      refine seq ?_
      refine region ?_
      refine op (y (x_move rfl) rfl ?_)
      refine op (e_call rfl fn_29 rfl rfl (SPairs_c x2 C R2 _ _ hC (by simp) (by omega)) fun v93 ro93 L93 hle93 hp93 => ?_)
      obtain ⟨pl, hps, hpp, A12, cap12, R12, rfl, hO12, hLL⟩ := hp93
      subst hLL
      refine ufreeze fun rof hlef hRf => ?_
      have hP := OwnS.sl hO12 (fun _ _ => rfl) hRf
      have hle93' := hle93.trans hlef
      have hW := hO11.mono hle93'
      clear hlef hle93 hRf
      generalize rof = ro93 at *
      have hpw : pl.map ccP = want := (SP_map hps).ext hCS.1 (fun q => ((hpp.map ccP).trans (hsameC.len hC.nodup hCS.1.nodup)).mem_iff)
      have hpl : want.length = pl.length := by rw [← hpw]; simp
      have hg : ∀ (i : Nat) (q : Fin 16 × Fin 16), pl[i]? = some q → want[i]? = some (ccP q) := fun i q h => by rw [← hpw, List.getElem?_map, h]; rfl
      have hwl : want.length ≤ 3600 := by omega
      refine op (y (x_assign rfl) rfl ?_)
      refine nil ?_
      refine n_then ?_
      refine seq ?_
      refine seq ?_
      refine region ?_
      refine op (y (x_assign rfl) rfl ?_)
      refine nil ?_
      refine n_then ?_
      refine block ?_
      refine loop (fun m F ro' L' => ∃ (i : Nat), (m = pl.length - i) ∧ (F = [(3, .bool true), (4, .pointer (some ⟨x, 0, none⟩)), (9, .slice A9 (mk sml).length cap9), (11, .slice A11 want.length cap11), (12, .slice A12 pl.length cap12), (13, .int .i64 (i : Nat))]) ∧ (ro93 = ro') ∧ (L' = R2 :: Ri :: R :: L) ∧ (i ≤ pl.length)) (pl.length - 0) [(3, .bool true), (4, .pointer (some ⟨x, 0, none⟩)), (9, .slice A9 (mk sml).length cap9), (11, .slice A11 want.length cap11), (12, .slice A12 pl.length cap12), (13, .int .i64 (0 : Nat))] ⟨rfl, rfl, rfl, rfl, rfl, rfl, trivial⟩ ⟨0, rfl, rfl, rfl, rfl, by omega⟩ ?_
      rintro m F ro' L' ⟨i, rfl, rfl, rfl, rfl, hi⟩
      refine seq ?_
      refine seq ?_
      refine region ?_
      refine op (y (x_move rfl) rfl ?_)
      refine op (y (x_move rfl) rfl ?_)
      refine op (y (x_lenSl sz_26 rfl) rfl ?_)
      refine op (y (x_lss rfl rfl) rfl ?_)
      refine op (y (x_move rfl) rfl ?_)
      refine bsplit 98 rfl (fun g98 => ?_) (fun g98 => ?_)
      · try simp only [decide_eq_true_eq, decide_eq_false_iff_not, beq_iff_eq, bne_iff_ne, ne_eq, beq_eq_false_iff_ne, bne_eq_false_iff_eq, Bool.not_eq_true', Bool.not_eq_false', Bool.not_eq_true, Bool.not_eq_false, Decidable.not_not, Int.not_lt, Int.not_le] at g98
        refine opG rfl rfl (y (x_move rfl) rfl ?_)
        refine opG rfl rfl (y (x_move rfl) rfl ?_)
        refine opG rfl rfl (y (x_lenSl sz_43 rfl) rfl ?_)
        refine opG rfl rfl (y (x_lss rfl rfl) rfl ?_)
        refine op (y (x_pickT rfl rfl) rfl ?_)
        refine nil ?_
        refine n_then ?_
        refine cond rfl (fun h23 => ?_) (fun h23 => ?_)
        · try simp only [decide_eq_true_eq, decide_eq_false_iff_not, beq_iff_eq, bne_iff_ne, ne_eq, beq_eq_false_iff_ne, bne_eq_false_iff_eq, Bool.not_eq_true', Bool.not_eq_false', Bool.not_eq_true, Bool.not_eq_false, Decidable.not_not, Int.not_lt, Int.not_le] at h23
          refine skip ?_
          refine n_then ?_
          refine seq ?_
          refine block ?_
          refine seq ?_
          have hil : i < pl.length := by omega
          obtain ⟨bbx, offx, rfl, hcx⟩ := hP.at_ (i := i) (by omega)
          have hx := List.getElem?_eq_getElem (show i < pl.length from by omega)
          have cx0 := hcx i _ hx 0 _ rfl
          have cx1 := hcx i _ hx 1 _ rfl
          have hwx := hg i _ hx
          obtain ⟨bbz, offz, rfl, hcz⟩ := hW.at_ (i := i) (by omega)
          have cz0 := hcz i _ hwx 0 _ rfl
          have cz1 := hcz i _ hwx 1 _ rfl
          refine drawL (by kernel_rfl) ?_
          refine d_take 0 rfl (by kernel_rfl) (by kernel_rfl) (by kernel_rfl) (fun _ _ _ h => h) rfl (.inl rfl) (x_move rfl) (fun w hi => by first | exact hi.j | exact J.of_le (Ro.le.refl _) (fun x hx => List.mem_append_right _ hx) hi | exact J.of_le (Ro.le.refl _) (fun x hx => List.mem_append_right _ (List.mem_append_right _ hx)) hi | exact J.of_le (Ro.le.refl _) (fun x hx => absurd hx (by simp)) hi | exact J.of_le (by assumption) (fun x hx => absurd hx (by simp)) hi) ?_
          refine d_take 1 rfl (by kernel_rfl) (by kernel_rfl) (by kernel_rfl) (fun _ _ _ h => h) rfl (.inl rfl) (x_move rfl) (fun w hi => by first | exact hi.j | exact J.of_le (Ro.le.refl _) (fun x hx => List.mem_append_right _ hx) hi | exact J.of_le (Ro.le.refl _) (fun x hx => List.mem_append_right _ (List.mem_append_right _ hx)) hi | exact J.of_le (Ro.le.refl _) (fun x hx => absurd hx (by simp)) hi | exact J.of_le (by assumption) (fun x hx => absurd hx (by simp)) hi) ?_
          refine d_take 2 rfl (by kernel_rfl) (by kernel_rfl) (by kernel_rfl) (fun _ _ _ h => h) rfl (.inl rfl) (x_indexNat sz_43 rfl rfl (by omega)) (fun w hi => by first | exact hi.j | exact J.of_le (Ro.le.refl _) (fun x hx => List.mem_append_right _ hx) hi | exact J.of_le (Ro.le.refl _) (fun x hx => List.mem_append_right _ (List.mem_append_right _ hx)) hi | exact J.of_le (Ro.le.refl _) (fun x hx => absurd hx (by simp)) hi | exact J.of_le (by assumption) (fun x hx => absurd hx (by simp)) hi) ?_
          refine d_take 3 rfl (by kernel_rfl) (by kernel_rfl) (by kernel_rfl) (fun _ _ _ h => h) rfl (.inl rfl) (x_indexArrNat (j := 0) ar_45 rfl rfl (by decide)) (fun w hi => by first | exact hi.j | exact J.of_le (Ro.le.refl _) (fun x hx => List.mem_append_right _ hx) hi | exact J.of_le (Ro.le.refl _) (fun x hx => List.mem_append_right _ (List.mem_append_right _ hx)) hi | exact J.of_le (Ro.le.refl _) (fun x hx => absurd hx (by simp)) hi | exact J.of_le (by assumption) (fun x hx => absurd hx (by simp)) hi) ?_
          refine d_take 4 rfl (by kernel_rfl) (by kernel_rfl) (by kernel_rfl) (fun _ _ _ h => h) rfl (.inl rfl) (x_load1 ag_9 rfl (by first | assumption | exact Cell.own 0 rfl rfl | exact Cell.own 1 rfl rfl | exact Cell.own 2 rfl rfl | exact Cell.own 3 rfl rfl | exact Cell.own 4 rfl rfl | exact Cell.own 5 rfl rfl | exact Cell.ofRo (by assumption))) (fun w hi => by first | exact hi.j | exact J.of_le (Ro.le.refl _) (fun x hx => List.mem_append_right _ hx) hi | exact J.of_le (Ro.le.refl _) (fun x hx => List.mem_append_right _ (List.mem_append_right _ hx)) hi | exact J.of_le (Ro.le.refl _) (fun x hx => absurd hx (by simp)) hi | exact J.of_le (by assumption) (fun x hx => absurd hx (by simp)) hi) ?_
          refine d_take 5 rfl (by kernel_rfl) (by kernel_rfl) (by kernel_rfl) (fun _ _ _ h => h) rfl (.inl rfl) (x_move rfl) (fun w hi => by first | exact hi.j | exact J.of_le (Ro.le.refl _) (fun x hx => List.mem_append_right _ hx) hi | exact J.of_le (Ro.le.refl _) (fun x hx => List.mem_append_right _ (List.mem_append_right _ hx)) hi | exact J.of_le (Ro.le.refl _) (fun x hx => absurd hx (by simp)) hi | exact J.of_le (by assumption) (fun x hx => absurd hx (by simp)) hi) ?_
          refine d_take 6 rfl (by kernel_rfl) (by kernel_rfl) (by kernel_rfl) (fun _ _ _ h => h) rfl (.inl rfl) (x_move rfl) (fun w hi => by first | exact hi.j | exact J.of_le (Ro.le.refl _) (fun x hx => List.mem_append_right _ hx) hi | exact J.of_le (Ro.le.refl _) (fun x hx => List.mem_append_right _ (List.mem_append_right _ hx)) hi | exact J.of_le (Ro.le.refl _) (fun x hx => absurd hx (by simp)) hi | exact J.of_le (by assumption) (fun x hx => absurd hx (by simp)) hi) ?_
          refine d_take 7 rfl (by kernel_rfl) (by kernel_rfl) (by kernel_rfl) (fun _ _ _ h => h) rfl (.inl rfl) (x_indexNat sz_26 rfl rfl (by omega)) (fun w hi => by first | exact hi.j | exact J.of_le (Ro.le.refl _) (fun x hx => List.mem_append_right _ hx) hi | exact J.of_le (Ro.le.refl _) (fun x hx => List.mem_append_right _ (List.mem_append_right _ hx)) hi | exact J.of_le (Ro.le.refl _) (fun x hx => absurd hx (by simp)) hi | exact J.of_le (by assumption) (fun x hx => absurd hx (by simp)) hi) ?_
          refine d_take 8 rfl (by kernel_rfl) (by kernel_rfl) (by kernel_rfl) (fun _ _ _ h => h) rfl (.inl rfl) (x_fieldAddr fo_46_0 rfl) (fun w hi => by first | exact hi.j | exact J.of_le (Ro.le.refl _) (fun x hx => List.mem_append_right _ hx) hi | exact J.of_le (Ro.le.refl _) (fun x hx => List.mem_append_right _ (List.mem_append_right _ hx)) hi | exact J.of_le (Ro.le.refl _) (fun x hx => absurd hx (by simp)) hi | exact J.of_le (by assumption) (fun x hx => absurd hx (by simp)) hi) ?_
          refine d_take 9 rfl (by kernel_rfl) (by kernel_rfl) (by kernel_rfl) (fun _ _ _ h => h) rfl (.inl rfl) (x_load1 ag_3 rfl (by first | assumption | exact Cell.own 0 rfl rfl | exact Cell.own 1 rfl rfl | exact Cell.own 2 rfl rfl | exact Cell.own 3 rfl rfl | exact Cell.own 4 rfl rfl | exact Cell.own 5 rfl rfl | exact Cell.ofRo (by assumption))) (fun w hi => by first | exact hi.j | exact J.of_le (Ro.le.refl _) (fun x hx => List.mem_append_right _ hx) hi | exact J.of_le (Ro.le.refl _) (fun x hx => List.mem_append_right _ (List.mem_append_right _ hx)) hi | exact J.of_le (Ro.le.refl _) (fun x hx => absurd hx (by simp)) hi | exact J.of_le (by assumption) (fun x hx => absurd hx (by simp)) hi) ?_
          refine d_take 10 rfl (by kernel_rfl) (by kernel_rfl) (by kernel_rfl) (fun _ _ _ h => h) rfl (.inl rfl) (x_move rfl) (fun w hi => by first | exact hi.j | exact J.of_le (Ro.le.refl _) (fun x hx => List.mem_append_right _ hx) hi | exact J.of_le (Ro.le.refl _) (fun x hx => List.mem_append_right _ (List.mem_append_right _ hx)) hi | exact J.of_le (Ro.le.refl _) (fun x hx => absurd hx (by simp)) hi | exact J.of_le (by assumption) (fun x hx => absurd hx (by simp)) hi) ?_
          refine d_take 11 rfl (by kernel_rfl) (by kernel_rfl) (by kernel_rfl) (fun _ _ _ h => h) rfl (.inl rfl) (x_move rfl) (fun w hi => by first | exact hi.j | exact J.of_le (Ro.le.refl _) (fun x hx => List.mem_append_right _ hx) hi | exact J.of_le (Ro.le.refl _) (fun x hx => List.mem_append_right _ (List.mem_append_right _ hx)) hi | exact J.of_le (Ro.le.refl _) (fun x hx => absurd hx (by simp)) hi | exact J.of_le (by assumption) (fun x hx => absurd hx (by simp)) hi) ?_
          refine d_take 12 rfl (by kernel_rfl) (by kernel_rfl) (by kernel_rfl) (fun _ _ _ h => h) rfl (.inl rfl) (x_indexNat sz_26 rfl rfl (by omega)) (fun w hi => by first | exact hi.j | exact J.of_le (Ro.le.refl _) (fun x hx => List.mem_append_right _ hx) hi | exact J.of_le (Ro.le.refl _) (fun x hx => List.mem_append_right _ (List.mem_append_right _ hx)) hi | exact J.of_le (Ro.le.refl _) (fun x hx => absurd hx (by simp)) hi | exact J.of_le (by assumption) (fun x hx => absurd hx (by simp)) hi) ?_
          refine d_take 13 rfl (by kernel_rfl) (by kernel_rfl) (by kernel_rfl) (fun _ _ _ h => h) rfl (.inl rfl) (x_fieldAddr fo_46_0 rfl) (fun w hi => by first | exact hi.j | exact J.of_le (Ro.le.refl _) (fun x hx => List.mem_append_right _ hx) hi | exact J.of_le (Ro.le.refl _) (fun x hx => List.mem_append_right _ (List.mem_append_right _ hx)) hi | exact J.of_le (Ro.le.refl _) (fun x hx => absurd hx (by simp)) hi | exact J.of_le (by assumption) (fun x hx => absurd hx (by simp)) hi) ?_
          refine d_take 14 rfl (by kernel_rfl) (by kernel_rfl) (by kernel_rfl) (fun _ _ _ h => h) rfl (.inl rfl) (x_load1 ag_3 rfl (by first | assumption | exact Cell.own 0 rfl rfl | exact Cell.own 1 rfl rfl | exact Cell.own 2 rfl rfl | exact Cell.own 3 rfl rfl | exact Cell.own 4 rfl rfl | exact Cell.own 5 rfl rfl | exact Cell.ofRo (by assumption))) (fun w hi => by first | exact hi.j | exact J.of_le (Ro.le.refl _) (fun x hx => List.mem_append_right _ hx) hi | exact J.of_le (Ro.le.refl _) (fun x hx => List.mem_append_right _ (List.mem_append_right _ hx)) hi | exact J.of_le (Ro.le.refl _) (fun x hx => absurd hx (by simp)) hi | exact J.of_le (by assumption) (fun x hx => absurd hx (by simp)) hi) ?_
          refine d_take 15 rfl (by kernel_rfl) (by kernel_rfl) (by kernel_rfl) (fun _ _ _ h => h) rfl (.inl rfl) (x_add rfl rfl _ (wr (by simp only [ccP, cF]; omega) (by simp only [ccP, cF]; omega))) (fun w hi => by first | exact hi.j | exact J.of_le (Ro.le.refl _) (fun x hx => List.mem_append_right _ hx) hi | exact J.of_le (Ro.le.refl _) (fun x hx => List.mem_append_right _ (List.mem_append_right _ hx)) hi | exact J.of_le (Ro.le.refl _) (fun x hx => absurd hx (by simp)) hi | exact J.of_le (by assumption) (fun x hx => absurd hx (by simp)) hi) ?_
          refine d_take 16 rfl (by kernel_rfl) (by kernel_rfl) (by kernel_rfl) (fun _ _ _ h => h) rfl (.inl rfl) (x_sliceStr Try.underlying9 rfl rfl rfl (by simp only [ccP, cF]; omega) (by omega) (sz16 ((pl[i]).1))) (fun w hi => by first | exact hi.j | exact J.of_le (Ro.le.refl _) (fun x hx => List.mem_append_right _ hx) hi | exact J.of_le (Ro.le.refl _) (fun x hx => List.mem_append_right _ (List.mem_append_right _ hx)) hi | exact J.of_le (Ro.le.refl _) (fun x hx => absurd hx (by simp)) hi | exact J.of_le (by assumption) (fun x hx => absurd hx (by simp)) hi) ?_
          refine d_take 17 rfl (by kernel_rfl) (by kernel_rfl) (by kernel_rfl) (fun _ _ _ h => h) rfl (.inl rfl) ((x_strcat rfl rfl (cat16 ((pl[i]).1))).as (v' := encT ((pl[i]).1)) (congrArg Value.string (ltr ((pl[i]).1)))) (fun w hi => by first | exact hi.j | exact J.of_le (Ro.le.refl _) (fun x hx => List.mem_append_right _ hx) hi | exact J.of_le (Ro.le.refl _) (fun x hx => List.mem_append_right _ (List.mem_append_right _ hx)) hi | exact J.of_le (Ro.le.refl _) (fun x hx => absurd hx (by simp)) hi | exact J.of_le (by assumption) (fun x hx => absurd hx (by simp)) hi) ?_
          refine d_take 18 rfl (by kernel_rfl) (by kernel_rfl) (by kernel_rfl) (fun _ _ _ h => h) rfl (.inl rfl) ((x_sneq rfl rfl).as (v' := .bool false) (by simp)) (fun w hi => by first | exact hi.j | exact J.of_le (Ro.le.refl _) (fun x hx => List.mem_append_right _ hx) hi | exact J.of_le (Ro.le.refl _) (fun x hx => List.mem_append_right _ (List.mem_append_right _ hx)) hi | exact J.of_le (Ro.le.refl _) (fun x hx => absurd hx (by simp)) hi | exact J.of_le (by assumption) (fun x hx => absurd hx (by simp)) hi) ?_
          refine d_take 19 rfl (by kernel_rfl) (by kernel_rfl) (by kernel_rfl) (fun _ _ _ h => h) rfl (.inl rfl) (x_move rfl) (fun w hi => by first | exact hi.j | exact J.of_le (Ro.le.refl _) (fun x hx => List.mem_append_right _ hx) hi | exact J.of_le (Ro.le.refl _) (fun x hx => List.mem_append_right _ (List.mem_append_right _ hx)) hi | exact J.of_le (Ro.le.refl _) (fun x hx => absurd hx (by simp)) hi | exact J.of_le (by assumption) (fun x hx => absurd hx (by simp)) hi) ?_
          refine d_take 20 rfl (by kernel_rfl) (by kernel_rfl) (by kernel_rfl) (fun _ _ _ h => h) rfl (.inr ⟨_, _, _, rfl, rfl, rfl⟩) (x_move rfl) (fun w hi => by first | exact hi.j | exact J.of_le (Ro.le.refl _) (fun x hx => List.mem_append_right _ hx) hi | exact J.of_le (Ro.le.refl _) (fun x hx => List.mem_append_right _ (List.mem_append_right _ hx)) hi | exact J.of_le (Ro.le.refl _) (fun x hx => absurd hx (by simp)) hi | exact J.of_le (by assumption) (fun x hx => absurd hx (by simp)) hi) ?_
          refine d_take 21 rfl (by kernel_rfl) (by kernel_rfl) (by kernel_rfl) (fun _ _ _ h => h) rfl (.inr ⟨_, _, _, rfl, rfl, rfl⟩) (x_move rfl) (fun w hi => by first | exact hi.j | exact J.of_le (Ro.le.refl _) (fun x hx => List.mem_append_right _ hx) hi | exact J.of_le (Ro.le.refl _) (fun x hx => List.mem_append_right _ (List.mem_append_right _ hx)) hi | exact J.of_le (Ro.le.refl _) (fun x hx => absurd hx (by simp)) hi | exact J.of_le (by assumption) (fun x hx => absurd hx (by simp)) hi) ?_
          refine d_take 22 rfl (by kernel_rfl) (by kernel_rfl) (by kernel_rfl) (fun _ _ _ h => h) rfl (.inr ⟨_, _, _, rfl, rfl, rfl⟩) (x_indexNat sz_43 rfl rfl (by omega)) (fun w hi => by first | exact hi.j | exact J.of_le (Ro.le.refl _) (fun x hx => List.mem_append_right _ hx) hi | exact J.of_le (Ro.le.refl _) (fun x hx => List.mem_append_right _ (List.mem_append_right _ hx)) hi | exact J.of_le (Ro.le.refl _) (fun x hx => absurd hx (by simp)) hi | exact J.of_le (by assumption) (fun x hx => absurd hx (by simp)) hi) ?_
          refine d_take 23 rfl (by kernel_rfl) (by kernel_rfl) (by kernel_rfl) (fun _ _ _ h => h) rfl (.inr ⟨_, _, _, rfl, rfl, rfl⟩) (x_indexArrNat (j := 1) ar_45 rfl rfl (by decide)) (fun w hi => by first | exact hi.j | exact J.of_le (Ro.le.refl _) (fun x hx => List.mem_append_right _ hx) hi | exact J.of_le (Ro.le.refl _) (fun x hx => List.mem_append_right _ (List.mem_append_right _ hx)) hi | exact J.of_le (Ro.le.refl _) (fun x hx => absurd hx (by simp)) hi | exact J.of_le (by assumption) (fun x hx => absurd hx (by simp)) hi) ?_
          refine d_take 24 rfl (by kernel_rfl) (by kernel_rfl) (by kernel_rfl) (fun _ _ _ h => h) rfl (.inr ⟨_, _, _, rfl, rfl, rfl⟩) (x_load1 ag_9 rfl (by first | assumption | exact Cell.own 0 rfl rfl | exact Cell.own 1 rfl rfl | exact Cell.own 2 rfl rfl | exact Cell.own 3 rfl rfl | exact Cell.own 4 rfl rfl | exact Cell.own 5 rfl rfl | exact Cell.ofRo (by assumption))) (fun w hi => by first | exact hi.j | exact J.of_le (Ro.le.refl _) (fun x hx => List.mem_append_right _ hx) hi | exact J.of_le (Ro.le.refl _) (fun x hx => List.mem_append_right _ (List.mem_append_right _ hx)) hi | exact J.of_le (Ro.le.refl _) (fun x hx => absurd hx (by simp)) hi | exact J.of_le (by assumption) (fun x hx => absurd hx (by simp)) hi) ?_
          refine d_take 25 rfl (by kernel_rfl) (by kernel_rfl) (by kernel_rfl) (fun _ _ _ h => h) rfl (.inr ⟨_, _, _, rfl, rfl, rfl⟩) (x_move rfl) (fun w hi => by first | exact hi.j | exact J.of_le (Ro.le.refl _) (fun x hx => List.mem_append_right _ hx) hi | exact J.of_le (Ro.le.refl _) (fun x hx => List.mem_append_right _ (List.mem_append_right _ hx)) hi | exact J.of_le (Ro.le.refl _) (fun x hx => absurd hx (by simp)) hi | exact J.of_le (by assumption) (fun x hx => absurd hx (by simp)) hi) ?_
          refine d_take 26 rfl (by kernel_rfl) (by kernel_rfl) (by kernel_rfl) (fun _ _ _ h => h) rfl (.inr ⟨_, _, _, rfl, rfl, rfl⟩) (x_move rfl) (fun w hi => by first | exact hi.j | exact J.of_le (Ro.le.refl _) (fun x hx => List.mem_append_right _ hx) hi | exact J.of_le (Ro.le.refl _) (fun x hx => List.mem_append_right _ (List.mem_append_right _ hx)) hi | exact J.of_le (Ro.le.refl _) (fun x hx => absurd hx (by simp)) hi | exact J.of_le (by assumption) (fun x hx => absurd hx (by simp)) hi) ?_
          refine d_take 27 rfl (by kernel_rfl) (by kernel_rfl) (by kernel_rfl) (fun _ _ _ h => h) rfl (.inr ⟨_, _, _, rfl, rfl, rfl⟩) (x_indexNat sz_26 rfl rfl (by omega)) (fun w hi => by first | exact hi.j | exact J.of_le (Ro.le.refl _) (fun x hx => List.mem_append_right _ hx) hi | exact J.of_le (Ro.le.refl _) (fun x hx => List.mem_append_right _ (List.mem_append_right _ hx)) hi | exact J.of_le (Ro.le.refl _) (fun x hx => absurd hx (by simp)) hi | exact J.of_le (by assumption) (fun x hx => absurd hx (by simp)) hi) ?_
          refine d_take 28 rfl (by kernel_rfl) (by kernel_rfl) (by kernel_rfl) (fun _ _ _ h => h) rfl (.inr ⟨_, _, _, rfl, rfl, rfl⟩) (x_fieldAddr fo_46_1 rfl) (fun w hi => by first | exact hi.j | exact J.of_le (Ro.le.refl _) (fun x hx => List.mem_append_right _ hx) hi | exact J.of_le (Ro.le.refl _) (fun x hx => List.mem_append_right _ (List.mem_append_right _ hx)) hi | exact J.of_le (Ro.le.refl _) (fun x hx => absurd hx (by simp)) hi | exact J.of_le (by assumption) (fun x hx => absurd hx (by simp)) hi) ?_
          refine d_take 29 rfl (by kernel_rfl) (by kernel_rfl) (by kernel_rfl) (fun _ _ _ h => h) rfl (.inr ⟨_, _, _, rfl, rfl, rfl⟩) (x_load1 ag_3 rfl (by first | assumption | exact Cell.own 0 rfl rfl | exact Cell.own 1 rfl rfl | exact Cell.own 2 rfl rfl | exact Cell.own 3 rfl rfl | exact Cell.own 4 rfl rfl | exact Cell.own 5 rfl rfl | exact Cell.ofRo (by assumption))) (fun w hi => by first | exact hi.j | exact J.of_le (Ro.le.refl _) (fun x hx => List.mem_append_right _ hx) hi | exact J.of_le (Ro.le.refl _) (fun x hx => List.mem_append_right _ (List.mem_append_right _ hx)) hi | exact J.of_le (Ro.le.refl _) (fun x hx => absurd hx (by simp)) hi | exact J.of_le (by assumption) (fun x hx => absurd hx (by simp)) hi) ?_
          refine d_take 30 rfl (by kernel_rfl) (by kernel_rfl) (by kernel_rfl) (fun _ _ _ h => h) rfl (.inr ⟨_, _, _, rfl, rfl, rfl⟩) (x_move rfl) (fun w hi => by first | exact hi.j | exact J.of_le (Ro.le.refl _) (fun x hx => List.mem_append_right _ hx) hi | exact J.of_le (Ro.le.refl _) (fun x hx => List.mem_append_right _ (List.mem_append_right _ hx)) hi | exact J.of_le (Ro.le.refl _) (fun x hx => absurd hx (by simp)) hi | exact J.of_le (by assumption) (fun x hx => absurd hx (by simp)) hi) ?_
          refine d_take 31 rfl (by kernel_rfl) (by kernel_rfl) (by kernel_rfl) (fun _ _ _ h => h) rfl (.inr ⟨_, _, _, rfl, rfl, rfl⟩) (x_move rfl) (fun w hi => by first | exact hi.j | exact J.of_le (Ro.le.refl _) (fun x hx => List.mem_append_right _ hx) hi | exact J.of_le (Ro.le.refl _) (fun x hx => List.mem_append_right _ (List.mem_append_right _ hx)) hi | exact J.of_le (Ro.le.refl _) (fun x hx => absurd hx (by simp)) hi | exact J.of_le (by assumption) (fun x hx => absurd hx (by simp)) hi) ?_
          refine d_take 32 rfl (by kernel_rfl) (by kernel_rfl) (by kernel_rfl) (fun _ _ _ h => h) rfl (.inr ⟨_, _, _, rfl, rfl, rfl⟩) (x_indexNat sz_26 rfl rfl (by omega)) (fun w hi => by first | exact hi.j | exact J.of_le (Ro.le.refl _) (fun x hx => List.mem_append_right _ hx) hi | exact J.of_le (Ro.le.refl _) (fun x hx => List.mem_append_right _ (List.mem_append_right _ hx)) hi | exact J.of_le (Ro.le.refl _) (fun x hx => absurd hx (by simp)) hi | exact J.of_le (by assumption) (fun x hx => absurd hx (by simp)) hi) ?_
          refine d_take 33 rfl (by kernel_rfl) (by kernel_rfl) (by kernel_rfl) (fun _ _ _ h => h) rfl (.inr ⟨_, _, _, rfl, rfl, rfl⟩) (x_fieldAddr fo_46_1 rfl) (fun w hi => by first | exact hi.j | exact J.of_le (Ro.le.refl _) (fun x hx => List.mem_append_right _ hx) hi | exact J.of_le (Ro.le.refl _) (fun x hx => List.mem_append_right _ (List.mem_append_right _ hx)) hi | exact J.of_le (Ro.le.refl _) (fun x hx => absurd hx (by simp)) hi | exact J.of_le (by assumption) (fun x hx => absurd hx (by simp)) hi) ?_
          refine d_take 34 rfl (by kernel_rfl) (by kernel_rfl) (by kernel_rfl) (fun _ _ _ h => h) rfl (.inr ⟨_, _, _, rfl, rfl, rfl⟩) (x_load1 ag_3 rfl (by first | assumption | exact Cell.own 0 rfl rfl | exact Cell.own 1 rfl rfl | exact Cell.own 2 rfl rfl | exact Cell.own 3 rfl rfl | exact Cell.own 4 rfl rfl | exact Cell.own 5 rfl rfl | exact Cell.ofRo (by assumption))) (fun w hi => by first | exact hi.j | exact J.of_le (Ro.le.refl _) (fun x hx => List.mem_append_right _ hx) hi | exact J.of_le (Ro.le.refl _) (fun x hx => List.mem_append_right _ (List.mem_append_right _ hx)) hi | exact J.of_le (Ro.le.refl _) (fun x hx => absurd hx (by simp)) hi | exact J.of_le (by assumption) (fun x hx => absurd hx (by simp)) hi) ?_
          refine d_take 35 rfl (by kernel_rfl) (by kernel_rfl) (by kernel_rfl) (fun _ _ _ h => h) rfl (.inr ⟨_, _, _, rfl, rfl, rfl⟩) (x_add rfl rfl _ (wr (by simp only [ccP, cF]; omega) (by simp only [ccP, cF]; omega))) (fun w hi => by first | exact hi.j | exact J.of_le (Ro.le.refl _) (fun x hx => List.mem_append_right _ hx) hi | exact J.of_le (Ro.le.refl _) (fun x hx => List.mem_append_right _ (List.mem_append_right _ hx)) hi | exact J.of_le (Ro.le.refl _) (fun x hx => absurd hx (by simp)) hi | exact J.of_le (by assumption) (fun x hx => absurd hx (by simp)) hi) ?_
          refine d_take 36 rfl (by kernel_rfl) (by kernel_rfl) (by kernel_rfl) (fun _ _ _ h => h) rfl (.inr ⟨_, _, _, rfl, rfl, rfl⟩) (x_sliceStr Try.underlying9 rfl rfl rfl (by simp only [ccP, cF]; omega) (by omega) (sz16 ((pl[i]).2))) (fun w hi => by first | exact hi.j | exact J.of_le (Ro.le.refl _) (fun x hx => List.mem_append_right _ hx) hi | exact J.of_le (Ro.le.refl _) (fun x hx => List.mem_append_right _ (List.mem_append_right _ hx)) hi | exact J.of_le (Ro.le.refl _) (fun x hx => absurd hx (by simp)) hi | exact J.of_le (by assumption) (fun x hx => absurd hx (by simp)) hi) ?_
          refine d_take 37 rfl (by kernel_rfl) (by kernel_rfl) (by kernel_rfl) (fun _ _ _ h => h) rfl (.inr ⟨_, _, _, rfl, rfl, rfl⟩) ((x_strcat rfl rfl (cat16 ((pl[i]).2))).as (v' := encT ((pl[i]).2)) (congrArg Value.string (ltr ((pl[i]).2)))) (fun w hi => by first | exact hi.j | exact J.of_le (Ro.le.refl _) (fun x hx => List.mem_append_right _ hx) hi | exact J.of_le (Ro.le.refl _) (fun x hx => List.mem_append_right _ (List.mem_append_right _ hx)) hi | exact J.of_le (Ro.le.refl _) (fun x hx => absurd hx (by simp)) hi | exact J.of_le (by assumption) (fun x hx => absurd hx (by simp)) hi) ?_
          refine d_take 38 rfl (by kernel_rfl) (by kernel_rfl) (by kernel_rfl) (fun _ _ _ h => h) rfl (.inr ⟨_, _, _, rfl, rfl, rfl⟩) ((x_sneq rfl rfl).as (v' := .bool false) (by simp)) (fun w hi => by first | exact hi.j | exact J.of_le (Ro.le.refl _) (fun x hx => List.mem_append_right _ hx) hi | exact J.of_le (Ro.le.refl _) (fun x hx => List.mem_append_right _ (List.mem_append_right _ hx)) hi | exact J.of_le (Ro.le.refl _) (fun x hx => absurd hx (by simp)) hi | exact J.of_le (by assumption) (fun x hx => absurd hx (by simp)) hi) ?_
          refine d_take 39 rfl (by kernel_rfl) (by kernel_rfl) (by kernel_rfl) (fun _ _ _ h => h) rfl (.inl rfl) (x_pickF rfl rfl) (fun w hi => by first | exact hi.j | exact J.of_le (Ro.le.refl _) (fun x hx => List.mem_append_right _ hx) hi | exact J.of_le (Ro.le.refl _) (fun x hx => List.mem_append_right _ (List.mem_append_right _ hx)) hi | exact J.of_le (Ro.le.refl _) (fun x hx => absurd hx (by simp)) hi | exact J.of_le (by assumption) (fun x hx => absurd hx (by simp)) hi) ?_
          refine d_end (by kernel_rfl) ?_
          refine n_then ?_
          refine condF rfl ?_
          refine skip ?_
          refine n_in ?_
          refine n_then ?_
          refine region ?_
          refine op (y (x_move rfl) rfl ?_)
          refine op (y (x_add rfl rfl _ (wr (by omega) (by omega))) rfl ?_)
          refine op (y (x_assign rfl) rfl ?_)
          refine nil ?_
          exact round (pl.length - (i + 1)) [(3, .bool true), (4, .pointer (some ⟨x, 0, none⟩)), (9, .slice _ (mk sml).length cap9), (11, .slice _ want.length cap11), (12, .slice _ pl.length cap12), (13, .int .i64 ((i + 1) : Nat))] (by omega) ⟨rfl, rfl, rfl, rfl, rfl, rfl, trivial⟩ ⟨i + 1, rfl, rfl, rfl, rfl, by omega⟩
        · try simp only [decide_eq_true_eq, decide_eq_false_iff_not, beq_iff_eq, bne_iff_ne, ne_eq, beq_eq_false_iff_ne, bne_eq_false_iff_eq, Bool.not_eq_true', Bool.not_eq_false', Bool.not_eq_true, Bool.not_eq_false, Decidable.not_not, Int.not_lt, Int.not_le] at h23
          refine exit ?_
          refine e_then ?_
          refine e_then ?_
          refine e_in ?_
          refine n_then ?_
          refine seq ?_
          refine region ?_
          refine op (y (x_move rfl) rfl ?_)
          refine op (y (x_lenSl sz_43 rfl) rfl ?_)
          refine op (y (x_move rfl) rfl ?_)
          refine op (y (x_lenSl sz_26 rfl) rfl ?_)
          refine op (y ((x_eql rfl rfl).as (v' := .bool true) (by simp [hpl])) rfl ?_)
          refine op (y (x_move rfl) rfl ?_)
          refine opG rfl rfl (y (x_move rfl) rfl ?_)
          refine opG rfl rfl (e_call rfl fn_30 rfl rfl (SCircle_c x _ R _ _ hR (by simp) (by omega)) fun v153 ro153 L153 hle153 hp153 => ?_)
          obtain ⟨b153, rfl, hb153, rfl⟩ := hp153
          refine opG rfl rfl (y (x_move rfl) rfl ?_)
          refine opG rfl rfl (e_call rfl fn_23 rfl rfl (Circle_c (mk sml) A9 cap9 _ _ ((((hm.mono hle73).mono hle75).mono hle93').mono hle153) (by omega) hs1) fun v155 ro155 L155 hle155 hp155 => ?_)
          obtain ⟨b155, rfl, hb155, rfl⟩ := hp155
          have hci : (∃ a, TG (tmk l) a a) ↔ (∃ p, TG (mk sml) p p) := ⟨fun ⟨a, t⟩ => ⟨cF a, (hsame.tg _ _).2 ⟨a, a, t, rfl, rfl⟩⟩, fun ⟨p, t⟩ => by
            obtain ⟨a, b, t2, h1, h2⟩ := (hsame.tg _ _).1 t
            have : a = b := cF_inj (by rw [← h1, ← h2])
            subst this
            exact ⟨a, t2⟩⟩
          refine opG rfl rfl (y ((x_beql Try.underlying4 rfl rfl).as (v' := .bool true) (by rw [bool_eq hb153 hb155 hci])) rfl ?_)
          refine op (y (x_pickT rfl rfl) rfl ?_)
          refine op (y (x_assign rfl) rfl ?_)
          refine nil ?_
          refine n_then ?_
          refine ret ?_
          refine drop0 ?_
          refine drop0 ?_
          refine drop0 ?_
          exact done rfl (.tmp rfl (.nil)) (((hle14.trans hle5).trans (hle69.trans hle73)).trans ((hle75.trans hle93').trans (hle153.trans hle155))) (L) (⟨_, .refl _, .refl _⟩) (⟨rfl, rfl⟩)
      · try simp only [decide_eq_true_eq, decide_eq_false_iff_not, beq_iff_eq, bne_iff_ne, ne_eq, beq_eq_false_iff_ne, bne_eq_false_iff_eq, Bool.not_eq_true', Bool.not_eq_false', Bool.not_eq_true, Bool.not_eq_false, Decidable.not_not, Int.not_lt, Int.not_le] at g98
        refine opN rfl rfl rfl rfl ?_
        refine opN rfl rfl rfl rfl ?_
        refine opN rfl rfl rfl rfl ?_
        refine opN rfl rfl rfl rfl ?_
        refine op (y (x_pickF rfl rfl) rfl ?_)
        refine nil ?_
        refine n_then ?_
        refine condF rfl ?_
        refine exit ?_
        refine e_then ?_
        refine e_then ?_
        refine e_in ?_
        refine n_then ?_
        refine seq ?_
        refine region ?_
        refine op (y (x_move rfl) rfl ?_)
        refine op (y (x_lenSl sz_43 rfl) rfl ?_)
        refine op (y (x_move rfl) rfl ?_)
        refine op (y (x_lenSl sz_26 rfl) rfl ?_)
        refine op (y ((x_eql rfl rfl).as (v' := .bool true) (by simp [hpl])) rfl ?_)
        refine op (y (x_move rfl) rfl ?_)
        refine opG rfl rfl (y (x_move rfl) rfl ?_)
        refine opG rfl rfl (e_call rfl fn_30 rfl rfl (SCircle_c x _ R _ _ hR (by simp) (by omega)) fun v153 ro153 L153 hle153 hp153 => ?_)
        obtain ⟨b153, rfl, hb153, rfl⟩ := hp153
        refine opG rfl rfl (y (x_move rfl) rfl ?_)
        refine opG rfl rfl (e_call rfl fn_23 rfl rfl (Circle_c (mk sml) A9 cap9 _ _ ((((hm.mono hle73).mono hle75).mono hle93').mono hle153) (by omega) hs1) fun v155 ro155 L155 hle155 hp155 => ?_)
        obtain ⟨b155, rfl, hb155, rfl⟩ := hp155
        have hci : (∃ a, TG (tmk l) a a) ↔ (∃ p, TG (mk sml) p p) := ⟨fun ⟨a, t⟩ => ⟨cF a, (hsame.tg _ _).2 ⟨a, a, t, rfl, rfl⟩⟩, fun ⟨p, t⟩ => by
          obtain ⟨a, b, t2, h1, h2⟩ := (hsame.tg _ _).1 t
          have : a = b := cF_inj (by rw [← h1, ← h2])
          subst this
          exact ⟨a, t2⟩⟩
        refine opG rfl rfl (y ((x_beql Try.underlying4 rfl rfl).as (v' := .bool true) (by rw [bool_eq hb153 hb155 hci])) rfl ?_)
        refine op (y (x_pickT rfl rfl) rfl ?_)
        refine op (y (x_assign rfl) rfl ?_)
        refine nil ?_
        refine n_then ?_
        refine ret ?_
        refine drop0 ?_
        refine drop0 ?_
        refine drop0 ?_
        exact done rfl (.tmp rfl (.nil)) (((hle14.trans hle5).trans (hle69.trans hle73)).trans ((hle75.trans hle93').trans (hle153.trans hle155))) (L) (⟨_, .refl _, .refl _⟩) (⟨rfl, rfl⟩)

end Go.Proofs.Ytlmeblhcipkgmaa
