/- The walk of the statement on edges and nodes one by one. -/
import Derived.Test.YtlmeblhcipkgmaaG17
namespace Go.Proofs.Ytlmeblhcipkgmaa
open Go Go.U
set_option maxRecDepth 20000
set_option linter.unusedSimpArgs false
set_option linter.unusedVariables false

open Go.RowKit

theorem GraphPlays_c (l : List Ed) (A : Option Addr) (cap : Nat) (o : List Int) (B : Option Addr) (capo : Nat) (a b c : Int) (ro : Ro) (L : List (List Blk)) (hl : Sl ro 3 encEdge A cap l) (ho : Sl ro 1 encInt B capo o) (h64 : ∀ e ∈ l, I64 e.1 ∧ I64 e.2.1 ∧ I64 e.2.2) (ho64 : ∀ e ∈ o, I64 e) :
    CT Try.prog 11 [.slice A l.length cap, .slice B o.length capo, .int .i64 a, .int .i64 b, .int .i64 c].toArray ro L (PV (.bool true) L) := by
  have hcap : l.length ≤ 9223372036854775807 := by have := hl.1; have := hl.2.1; unfold maxLen at this; omega
  have hcapo : o.length ≤ 9223372036854775807 := by have := ho.1; have := ho.2.1; unfold maxLen at this; omega
  refine enter Try.func11 rfl Try.ntmps11 rfl ?_
  refine seq ?_
  refine region ?_
  refine op (y (x_assign rfl) rfl ?_)
  refine nil ?_
  refine n_then ?_
  refine seq ?_
  refine region ?_
  refine op (e_call rfl fn_44 rfl rfl (GFirst_c _ _) fun v21 ro21 L21 hle21 hp21 => ?_)
  obtain ⟨rfl, rfl⟩ := hp21
  have hl1 := hl.mono hle21
  have ho1 := ho.mono hle21
  refine op (y (x_assign rfl) rfl ?_)
  refine nil ?_
  refine n_then ?_
  refine seq ?_
  refine seq ?_
  refine region ?_
  refine op (y (x_move rfl) rfl ?_)
  refine op (y (x_not rfl) rfl ?_)
  refine nil ?_
  refine n_then ?_
  refine condF rfl ?_
  refine skip ?_
  refine n_then ?_
  refine seq ?_
  refine seq ?_
  refine region ?_
  refine op (y (x_move rfl) rfl ?_)
  refine op (y (x_lenSl sz_59 rfl) rfl ?_)
  refine op (y (x_gtr rfl rfl) rfl ?_)
  refine op (y (x_move rfl) rfl ?_)
  refine bsplit 27 rfl (fun g27 => ?_) (fun g27 => ?_)
  · try simp only [decide_eq_true_eq, decide_eq_false_iff_not, beq_iff_eq, bne_iff_ne, ne_eq, beq_eq_false_iff_ne, bne_eq_false_iff_eq, Bool.not_eq_true', Bool.not_eq_false', Bool.not_eq_true, Bool.not_eq_false, Decidable.not_not, Int.not_lt, Int.not_le] at g27
    refine opN rfl rfl rfl rfl ?_
    refine opN rfl rfl rfl rfl ?_
    refine opN rfl rfl rfl rfl ?_
    refine op (y (x_pickT rfl rfl) rfl ?_)
    refine op (y (x_move rfl) rfl ?_)
    refine opN rfl rfl rfl rfl ?_
    refine opN rfl rfl rfl rfl ?_
    refine op (y (x_pickT rfl rfl) rfl ?_)
    refine nil ?_
    refine n_then ?_
    refine condT rfl ?_
    refine seq ?_
    refine region ?_
    refine op (y (x_move rfl) rfl ?_)
    refine op (y (x_assign rfl) rfl ?_)
    refine nil ?_
    refine n_then ?_
    refine ret ?_
    refine r_then ?_
    exact done rfl (.tmp rfl (.nil)) (hle21) (L) (⟨_, .refl _, .refl _⟩) (⟨rfl, rfl⟩)
  · try simp only [decide_eq_true_eq, decide_eq_false_iff_not, beq_iff_eq, bne_iff_ne, ne_eq, beq_eq_false_iff_ne, bne_eq_false_iff_eq, Bool.not_eq_true', Bool.not_eq_false', Bool.not_eq_true, Bool.not_eq_false, Decidable.not_not, Int.not_lt, Int.not_le] at g27
    refine opG rfl rfl (y (x_move rfl) rfl ?_)
    refine opG rfl rfl (y (x_lenSl sz_23 rfl) rfl ?_)
    refine opG rfl rfl (y (x_gtr rfl rfl) rfl ?_)
    refine op (y (x_pickF rfl rfl) rfl ?_)
    refine op (y (x_move rfl) rfl ?_)
    refine bsplit 32 rfl (fun g32 => ?_) (fun g32 => ?_)
    · try simp only [decide_eq_true_eq, decide_eq_false_iff_not, beq_iff_eq, bne_iff_ne, ne_eq, beq_eq_false_iff_ne, bne_eq_false_iff_eq, Bool.not_eq_true', Bool.not_eq_false', Bool.not_eq_true, Bool.not_eq_false, Decidable.not_not, Int.not_lt, Int.not_le] at g32
      refine opN rfl rfl rfl rfl ?_
      refine opN rfl rfl rfl rfl ?_
      refine op (y (x_pickT rfl rfl) rfl ?_)
      refine nil ?_
      refine n_then ?_
      refine condT rfl ?_
      refine seq ?_
      refine region ?_
      refine op (y (x_move rfl) rfl ?_)
      refine op (y (x_assign rfl) rfl ?_)
      refine nil ?_
      refine n_then ?_
      refine ret ?_
      refine r_then ?_
      exact done rfl (.tmp rfl (.nil)) (hle21) (L) (⟨_, .refl _, .refl _⟩) (⟨rfl, rfl⟩)
    · try simp only [decide_eq_true_eq, decide_eq_false_iff_not, beq_iff_eq, bne_iff_ne, ne_eq, beq_eq_false_iff_ne, bne_eq_false_iff_eq, Bool.not_eq_true', Bool.not_eq_false', Bool.not_eq_true, Bool.not_eq_false, Decidable.not_not, Int.not_lt, Int.not_le] at g32
      refine opG rfl rfl (y (x_move rfl) rfl ?_)
      refine opG rfl rfl (y (x_not rfl) rfl ?_)
      refine op (y (x_pickF rfl rfl) rfl ?_)
      refine nil ?_
      refine n_then ?_
      refine condF rfl ?_
      refine skip ?_
      refine n_then ?_
      refine seq ?_
      refine region ?_
      refine op (e_call rfl fn_55 rfl rfl (GNew_c _ _) fun v37 ro37 L37 hle37 hp37 => ?_)
      obtain ⟨x, R, rfl, hR, rfl, rfl⟩ := hp37
      have hll : l.length ≤ 40 := by omega
      have hol : o.length ≤ 40 := by omega
      refine op (y (x_assign rfl) rfl ?_)
      refine nil ?_
      refine n_then ?_
      refine seq ?_
      refine seq ?_
      refine region ?_
      refine op (y (x_move rfl) rfl ?_)
      refine op (y (x_ptrEqNil Try.underlying60 rfl rfl) rfl ?_)
      refine nil ?_
      refine n_then ?_
      refine condF rfl ?_
      refine skip ?_
      refine n_then ?_
      refine seq ?_
      refine region ?_
      refine op (e_alloc rfl zc_63 rfl fun b13 => ?_)
      refine nil ?_
      refine n_then ?_
      refine seq ?_
      refine seq ?_
      refine region ?_
      refine op (y (x_assign rfl) rfl ?_)
      refine nil ?_
      refine n_then ?_
      refine block ?_
      refine loop (fun m F ro' L' => ∃ (k : Nat) (R : List Blk) (A2 : Option Addr) (cap2 : Nat) (B2 : Option Addr) (cap3 : Nat), (m = l.length - k) ∧ (F = [(0, .slice A l.length cap), (1, .slice B o.length capo), (2, .int .i64 a), (3, .int .i64 b), (4, .int .i64 c), (12, .pointer (some ⟨x, 0, none⟩)), (13, .pointer (some ⟨b13, 0, none⟩)), (14, .int .i64 (k : Nat))]) ∧ (L' = [(b13, .cells [.slice A2 (mkNE (l.take k)).length cap2, .slice B2 (mkE (l.take k)).length cap3].toArray 63 (0, 0))] :: R :: L) ∧ (k ≤ l.length) ∧ (ro.le ro') ∧ (Sl ro' 3 encEdge A cap l) ∧ (Sl ro' 1 encInt B capo o) ∧ (RelG x (mkNE (l.take k)) (mkE (l.take k)) R) ∧ (Sl ro' 1 encInt A2 cap2 (mkNE (l.take k))) ∧ (Sl ro' 3 encEdge B2 cap3 (mkE (l.take k)))) (l.length - 0) [(0, .slice A l.length cap), (1, .slice B o.length capo), (2, .int .i64 a), (3, .int .i64 b), (4, .int .i64 c), (12, .pointer (some ⟨x, 0, none⟩)), (13, .pointer (some ⟨b13, 0, none⟩)), (14, .int .i64 (0 : Nat))] ⟨rfl, rfl, rfl, rfl, rfl, rfl, rfl, rfl, trivial⟩ ⟨0, _, none, 0, none, 0, rfl, rfl, rfl, by omega, hle21, hl1, ho1, hR, ⟨by simp [mkNE], by simp [maxLen], by simp [mkNE], fun h => absurd rfl h⟩, ⟨by simp [mkE], by simp [maxLen], by simp [mkE], fun h => absurd rfl h⟩⟩ ?_
      rintro m F ro' L' ⟨k, R, A2, cap2, B2, cap3, rfl, rfl, rfl, hk, hle, hl, ho, hR, hA2, hB2⟩
      refine seq ?_
      refine seq ?_
      refine region ?_
      refine op (y (x_move rfl) rfl ?_)
      refine op (y (x_move rfl) rfl ?_)
      refine op (y (x_lenSl sz_59 rfl) rfl ?_)
      refine op (y (x_lss rfl rfl) rfl ?_)
      refine nil ?_
      refine n_then ?_
      refine cond rfl (fun h11 => ?_) (fun h11 => ?_)
      · try simp only [decide_eq_true_eq, decide_eq_false_iff_not, beq_iff_eq, bne_iff_ne, ne_eq, beq_eq_false_iff_ne, bne_eq_false_iff_eq, Bool.not_eq_true', Bool.not_eq_false', Bool.not_eq_true, Bool.not_eq_false, Decidable.not_not, Int.not_lt, Int.not_le] at h11
        refine skip ?_
        refine n_then ?_
        refine seq ?_
        refine block ?_
        refine seq ?_
        obtain ⟨bbx, offx, rfl, hcx⟩ := hl.at_ (i := k) (by omega)
        have hx := List.getElem?_eq_getElem (show k < l.length from by omega)
        have cx0 := hcx k _ hx 0 _ rfl
        have cx1 := hcx k _ hx 1 _ rfl
        have cx2 := hcx k _ hx 2 _ rfl
        have h64x := h64 _ (List.mem_of_getElem? hx)
        obtain ⟨hs1, hs2, hs3⟩ := mkE_spec l k hk
        obtain ⟨hq1, hq2, hq3⟩ := mkNE_spec l k hk
        have hmt := mkE_take hx
        have hmn := mkNE_take hx
        refine region ?_
        refine op (y (x_move rfl) rfl ?_)
        refine op (y (x_move rfl) rfl ?_)
        refine op (y (x_indexNat sz_59 rfl rfl (by omega)) rfl ?_)
        refine op (y (x_loadN (vs := encEdge l[k]) ag_75 rfl rfl (CellsAt.ofRo (hcx k _ hx))) rfl ?_)
        refine op (e_alloc rfl zc_75 rfl fun b15 => ?_)
        first | refine op (e_store 0 rfl rfl ts_75 rfl rfl rfl rfl rfl rfl ?_) | refine op (e_store 1 rfl rfl ts_75 rfl rfl rfl rfl rfl rfl ?_) | refine op (e_store 2 rfl rfl ts_75 rfl rfl rfl rfl rfl rfl ?_) | refine op (e_store 3 rfl rfl ts_75 rfl rfl rfl rfl rfl rfl ?_) | refine op (e_store 4 rfl rfl ts_75 rfl rfl rfl rfl rfl rfl ?_) | refine op (e_store 5 rfl rfl ts_75 rfl rfl rfl rfl rfl rfl ?_)
        refine nil ?_
        refine n_then ?_
        refine seq ?_
        refine region ?_
        refine op (y (x_loadOwn 1 [.slice A2 (mkNE (l.take k)).length cap2, .slice B2 (mkE (l.take k)).length cap3] ag_63 rfl rfl rfl rfl) rfl ?_)
        refine op (y (x_fieldAddr fo_75_0 rfl) rfl ?_)
        refine op (y (x_load1 ag_3 rfl (by first | assumption | exact Cell.own 0 rfl rfl | exact Cell.own 1 rfl rfl | exact Cell.own 2 rfl rfl | exact Cell.own 3 rfl rfl | exact Cell.own 4 rfl rfl | exact Cell.own 5 rfl rfl | exact Cell.ofRo (by assumption))) rfl ?_)
        refine op (y (x_fieldAddr fo_75_1 rfl) rfl ?_)
        refine op (y (x_load1 ag_3 rfl (by first | assumption | exact Cell.own 0 rfl rfl | exact Cell.own 1 rfl rfl | exact Cell.own 2 rfl rfl | exact Cell.own 3 rfl rfl | exact Cell.own 4 rfl rfl | exact Cell.own 5 rfl rfl | exact Cell.ofRo (by assumption))) rfl ?_)
        refine op (y (x_fieldAddr fo_75_2 rfl) rfl ?_)
        refine op (y (x_load1 ag_3 rfl (by first | assumption | exact Cell.own 0 rfl rfl | exact Cell.own 1 rfl rfl | exact Cell.own 2 rfl rfl | exact Cell.own 3 rfl rfl | exact Cell.own 4 rfl rfl | exact Cell.own 5 rfl rfl | exact Cell.ofRo (by assumption))) rfl ?_)
        refine op (e_call rfl fn_56 rfl rfl (GHas_c _ _ A2 cap2 B2 cap3 _ _ hA2 hB2 _ _ _) fun v57 ro57 L57 hle57 hp57 => ?_)
        obtain ⟨rfl, hr57, hLL57⟩ := hp57
        subst hr57
        subst hLL57
        refine op (y (x_not rfl) rfl ?_)
        refine op (y (x_assign rfl) rfl ?_)
        refine nil ?_
        refine n_then ?_
        refine seq ?_
        refine seq ?_
        refine region ?_
        refine op (y (x_move rfl) rfl ?_)
        refine op (y (x_fieldAddr fo_75_0 rfl) rfl ?_)
        refine op (y (x_load1 ag_3 rfl (by first | assumption | exact Cell.own 0 rfl rfl | exact Cell.own 1 rfl rfl | exact Cell.own 2 rfl rfl | exact Cell.own 3 rfl rfl | exact Cell.own 4 rfl rfl | exact Cell.own 5 rfl rfl | exact Cell.ofRo (by assumption))) rfl ?_)
        refine op (y (x_fieldAddr fo_75_1 rfl) rfl ?_)
        refine op (y (x_load1 ag_3 rfl (by first | assumption | exact Cell.own 0 rfl rfl | exact Cell.own 1 rfl rfl | exact Cell.own 2 rfl rfl | exact Cell.own 3 rfl rfl | exact Cell.own 4 rfl rfl | exact Cell.own 5 rfl rfl | exact Cell.ofRo (by assumption))) rfl ?_)
        refine op (y (x_fieldAddr fo_75_2 rfl) rfl ?_)
        refine op (y (x_load1 ag_3 rfl (by first | assumption | exact Cell.own 0 rfl rfl | exact Cell.own 1 rfl rfl | exact Cell.own 2 rfl rfl | exact Cell.own 3 rfl rfl | exact Cell.own 4 rfl rfl | exact Cell.own 5 rfl rfl | exact Cell.ofRo (by assumption))) rfl ?_)
        refine op (e_call rfl fn_57 rfl rfl (GrHas_c x _ _ R _ _ hR (by simp) _ _ _) fun v66 ro66 L66 hle66 hp66 => ?_)
        obtain ⟨rfl, hr66, hLL66⟩ := hp66
        subst hr66
        subst hLL66
        refine op (y (x_move rfl) rfl ?_)
        refine op (y ((x_beql Try.underlying4 rfl rfl).as (v' := .bool false) (by simp)) rfl ?_)
        refine op (y (x_move rfl) rfl ?_)
        refine opG rfl rfl (y (x_move rfl) rfl ?_)
        refine opG rfl rfl (y (x_fieldAddr fo_75_0 rfl) rfl ?_)
        refine opG rfl rfl (y (x_load1 ag_3 rfl (by first | assumption | exact Cell.own 0 rfl rfl | exact Cell.own 1 rfl rfl | exact Cell.own 2 rfl rfl | exact Cell.own 3 rfl rfl | exact Cell.own 4 rfl rfl | exact Cell.own 5 rfl rfl | exact Cell.ofRo (by assumption))) rfl ?_)
        refine opG rfl rfl (y (x_fieldAddr fo_75_1 rfl) rfl ?_)
        refine opG rfl rfl (y (x_load1 ag_3 rfl (by first | assumption | exact Cell.own 0 rfl rfl | exact Cell.own 1 rfl rfl | exact Cell.own 2 rfl rfl | exact Cell.own 3 rfl rfl | exact Cell.own 4 rfl rfl | exact Cell.own 5 rfl rfl | exact Cell.ofRo (by assumption))) rfl ?_)
        refine opG rfl rfl (y (x_fieldAddr fo_75_2 rfl) rfl ?_)
        refine opG rfl rfl (y (x_load1 ag_3 rfl (by first | assumption | exact Cell.own 0 rfl rfl | exact Cell.own 1 rfl rfl | exact Cell.own 2 rfl rfl | exact Cell.own 3 rfl rfl | exact Cell.own 4 rfl rfl | exact Cell.own 5 rfl rfl | exact Cell.ofRo (by assumption))) rfl ?_)
        refine pull 2 rfl rfl ?_
        refine opG rfl rfl (e_call rfl fn_58 rfl rfl (GrEdge_c x _ _ _ _ _ hR _ _ _ h64x.1 h64x.2.1 h64x.2.2) fun v77 ro77 L77 hle77 hp77 => ?_)
        obtain ⟨rfl, R2, hR2, rfl, rfl⟩ := hp77
        have hR3 := hR2.perm (N' := mkNE (l.take (k + 1))) (E' := mkE (l.take (k + 1))) (by rw [hmn]; exact (putI_perm (putI_sorted hq1) _).trans (addN_perm (putI_perm hq1 _) _)) (by rw [hmt]; exact putE_perm _ _)
        refine opG rfl rfl (y (x_move rfl) rfl ?_)
        refine opG rfl rfl (y ((x_bneq Try.underlying4 rfl rfl).as (v' := .bool false) (by simp)) rfl ?_)
        refine op (y (x_pickF rfl rfl) rfl ?_)
        refine nil ?_
        refine n_then ?_
        refine condF rfl ?_
        refine skip ?_
        refine n_then ?_
        refine region ?_
        refine op (y (x_loadOwn 2 [.slice A2 (mkNE (l.take k)).length cap2, .slice B2 (mkE (l.take k)).length cap3] ag_63 rfl rfl rfl rfl) rfl ?_)
        refine op (y (x_fieldAddr fo_75_0 rfl) rfl ?_)
        refine op (y (x_load1 ag_3 rfl (by first | assumption | exact Cell.own 0 rfl rfl | exact Cell.own 1 rfl rfl | exact Cell.own 2 rfl rfl | exact Cell.own 3 rfl rfl | exact Cell.own 4 rfl rfl | exact Cell.own 5 rfl rfl | exact Cell.ofRo (by assumption))) rfl ?_)
        refine op (y (x_fieldAddr fo_75_1 rfl) rfl ?_)
        refine op (y (x_load1 ag_3 rfl (by first | assumption | exact Cell.own 0 rfl rfl | exact Cell.own 1 rfl rfl | exact Cell.own 2 rfl rfl | exact Cell.own 3 rfl rfl | exact Cell.own 4 rfl rfl | exact Cell.own 5 rfl rfl | exact Cell.ofRo (by assumption))) rfl ?_)
        refine op (y (x_fieldAddr fo_75_2 rfl) rfl ?_)
        refine op (y (x_load1 ag_3 rfl (by first | assumption | exact Cell.own 0 rfl rfl | exact Cell.own 1 rfl rfl | exact Cell.own 2 rfl rfl | exact Cell.own 3 rfl rfl | exact Cell.own 4 rfl rfl | exact Cell.own 5 rfl rfl | exact Cell.ofRo (by assumption))) rfl ?_)
        refine op (e_call rfl fn_59 rfl rfl (GEdge_c _ _ A2 cap2 B2 cap3 _ _ hA2 hB2 _ _ _ (by omega) (by omega)) fun v88 ro88 L88 hle88 hp88 => ?_)
        obtain ⟨A4, cap4, B4, cap5, rfl, hA4, hB4, hLL⟩ := hp88
        subst hLL
        rw [← hmn] at hA4 ⊢
        rw [← hmt] at hB4 ⊢
        first | refine op (e_store 0 rfl rfl ts_63 rfl rfl rfl rfl rfl rfl ?_) | refine op (e_store 1 rfl rfl ts_63 rfl rfl rfl rfl rfl rfl ?_) | refine op (e_store 2 rfl rfl ts_63 rfl rfl rfl rfl rfl rfl ?_) | refine op (e_store 3 rfl rfl ts_63 rfl rfl rfl rfl rfl rfl ?_) | refine op (e_store 4 rfl rfl ts_63 rfl rfl rfl rfl rfl rfl ?_) | refine op (e_store 5 rfl rfl ts_63 rfl rfl rfl rfl rfl rfl ?_)
        refine nil ?_
        refine n_in ?_
        refine n_then ?_
        refine region ?_
        refine op (y (x_move rfl) rfl ?_)
        refine op (y (x_add rfl rfl _ (wr (by omega) (by omega))) rfl ?_)
        refine op (y (x_assign rfl) rfl ?_)
        refine nil ?_
        refine pull 1 rfl rfl ?_
        refine drop0 ?_
        refine swap0 ?_
        exact round (l.length - (k + 1)) [(0, .slice _ l.length cap), (1, .slice B o.length capo), (2, .int .i64 a), (3, .int .i64 b), (4, .int .i64 c), (12, .pointer (some ⟨x, 0, none⟩)), (13, .pointer (some ⟨b13, 0, none⟩)), (14, .int .i64 ((k + 1) : Nat))] (by omega) ⟨rfl, rfl, rfl, rfl, rfl, rfl, rfl, rfl, trivial⟩ ⟨k + 1, _, _, _, _, _, rfl, rfl, rfl, by omega, hle.trans hle88, hl.mono hle88, ho.mono hle88, hR3, hA4, hB4⟩
      · try simp only [decide_eq_true_eq, decide_eq_false_iff_not, beq_iff_eq, bne_iff_ne, ne_eq, beq_eq_false_iff_ne, bne_eq_false_iff_eq, Bool.not_eq_true', Bool.not_eq_false', Bool.not_eq_true, Bool.not_eq_false, Decidable.not_not, Int.not_lt, Int.not_le] at h11
        refine exit ?_
        refine e_then ?_
        refine e_then ?_
        refine e_in ?_
        refine n_then ?_
        refine seq ?_
        refine seq ?_
        refine region ?_
        refine op (y (x_assign rfl) rfl ?_)
        refine nil ?_
        refine n_then ?_
        refine block ?_
        obtain rfl : k = l.length := by omega
        rw [List.take_length] at *
        refine loop (fun m F ro' L' => ∃ (k : Nat) (R : List Blk) (A2 : Option Addr) (cap2 : Nat) (B2 : Option Addr) (cap3 : Nat), (m = o.length - k) ∧ (F = [(0, .slice A l.length cap), (1, .slice B o.length capo), (2, .int .i64 a), (3, .int .i64 b), (4, .int .i64 c), (12, .pointer (some ⟨x, 0, none⟩)), (13, .pointer (some ⟨b13, 0, none⟩)), (17, .int .i64 (k : Nat))]) ∧ (L' = [(b13, .cells [.slice A2 (mkN l (o.take k)).length cap2, .slice B2 (mkE l).length cap3].toArray 63 (0, 0))] :: R :: L) ∧ (k ≤ o.length) ∧ (ro.le ro') ∧ (Sl ro' 3 encEdge A cap l) ∧ (Sl ro' 1 encInt B capo o) ∧ (RelG x (mkN l (o.take k)) (mkE l) R) ∧ (Sl ro' 1 encInt A2 cap2 (mkN l (o.take k))) ∧ (Sl ro' 3 encEdge B2 cap3 (mkE l))) (o.length - 0) [(0, .slice _ l.length cap), (1, .slice B o.length capo), (2, .int .i64 a), (3, .int .i64 b), (4, .int .i64 c), (12, .pointer (some ⟨x, 0, none⟩)), (13, .pointer (some ⟨b13, 0, none⟩)), (17, .int .i64 (0 : Nat))] ⟨rfl, rfl, rfl, rfl, rfl, rfl, rfl, rfl, trivial⟩ ⟨0, _, A2, cap2, B2, cap3, rfl, rfl, rfl, by omega, hle, hl, ho, by exact hR, by exact hA2, hB2⟩ ?_
        rintro m F ro' L' ⟨k, R, A2, cap2, B2, cap3, rfl, rfl, rfl, hk, hle, hl, ho, hR, hA2, hB2⟩
        refine seq ?_
        refine seq ?_
        refine region ?_
        refine op (y (x_move rfl) rfl ?_)
        refine op (y (x_move rfl) rfl ?_)
        refine op (y (x_lenSl sz_23 rfl) rfl ?_)
        refine op (y (x_lss rfl rfl) rfl ?_)
        refine nil ?_
        refine n_then ?_
        refine cond rfl (fun h19 => ?_) (fun h19 => ?_)
        · try simp only [decide_eq_true_eq, decide_eq_false_iff_not, beq_iff_eq, bne_iff_ne, ne_eq, beq_eq_false_iff_ne, bne_eq_false_iff_eq, Bool.not_eq_true', Bool.not_eq_false', Bool.not_eq_true, Bool.not_eq_false, Decidable.not_not, Int.not_lt, Int.not_le] at h19
          refine skip ?_
          refine n_then ?_
          refine seq ?_
          refine block ?_
          refine seq ?_
          obtain ⟨bbx, offx, rfl, hcx⟩ := ho.at_ (i := k) (by omega)
          have hx := List.getElem?_eq_getElem (show k < o.length from by omega)
          have cx0 := hcx k _ hx 0 _ rfl
          have h64y := ho64 _ (List.mem_of_getElem? hx)
          obtain ⟨hs1, hs2, hs3⟩ := mkE_spec l l.length (Nat.le_refl _)
          rw [List.take_length] at hs1 hs2 hs3
          obtain ⟨hq1, hq2, hq3⟩ := mkN_spec l o k hk
          have hmn := mkN_take (es := l) hx
          refine drawL (by kernel_rfl) ?_
          refine d_take 0 rfl (by kernel_rfl) (by kernel_rfl) (by kernel_rfl) (fun _ _ _ h => h) rfl (.inl rfl) (x_loadOwn 0 [.slice A2 (mkN l (o.take k)).length cap2, .slice B2 (mkE l).length cap3] ag_63 rfl rfl rfl rfl) (fun w hi => J.of_le (by first | exact Ro.le.refl _ | assumption) (fun x hx => hx) hi) ?_
          refine d_take 1 rfl (by kernel_rfl) (by kernel_rfl) (by kernel_rfl) (fun _ _ _ h => h) rfl (.inl rfl) (x_move rfl) (fun w hi => J.of_le (by first | exact Ro.le.refl _ | assumption) (fun x hx => hx) hi) ?_
          refine d_take 2 rfl (by kernel_rfl) (by kernel_rfl) (by kernel_rfl) (fun _ _ _ h => h) rfl (.inl rfl) (x_move rfl) (fun w hi => J.of_le (by first | exact Ro.le.refl _ | assumption) (fun x hx => hx) hi) ?_
          refine d_take 3 rfl (by kernel_rfl) (by kernel_rfl) (by kernel_rfl) (fun _ _ _ h => h) rfl (.inl rfl) (x_indexNat sz_23 rfl rfl (by omega)) (fun w hi => J.of_le (by first | exact Ro.le.refl _ | assumption) (fun x hx => hx) hi) ?_
          refine d_take 4 rfl (by kernel_rfl) (by kernel_rfl) (by kernel_rfl) (fun _ _ _ h => h) rfl (.inl rfl) (x_load1 ag_3 rfl (by first | assumption | exact Cell.own 0 rfl rfl | exact Cell.own 1 rfl rfl | exact Cell.own 2 rfl rfl | exact Cell.own 3 rfl rfl | exact Cell.own 4 rfl rfl | exact Cell.own 5 rfl rfl | exact Cell.ofRo (by assumption))) (fun w hi => J.of_le (by first | exact Ro.le.refl _ | assumption) (fun x hx => hx) hi) ?_
          refine d_one 5 rfl (by kernel_rfl) (.inl rfl) (e_call rfl fn_60 rfl rfl (GHasNode_c _ _ A2 cap2 B2 cap3 _ _ hA2 hB2 _) fun v100 ro100 L100 hle100 hp100 => ?_)
          obtain ⟨rfl, hr100, hLL100⟩ := hp100
          subst hr100
          subst hLL100
          refine d_next (fun w hi => J.of_le (by first | exact Ro.le.refl _ | assumption) (fun x hx => hx) hi) ?_
          refine d_take 6 rfl (by kernel_rfl) (by kernel_rfl) (by kernel_rfl) (fun _ _ _ h => h) rfl (.inl rfl) (x_not rfl) (fun w hi => J.of_le (by first | exact Ro.le.refl _ | assumption) (fun x hx => hx) hi) ?_
          refine d_take 7 rfl (by kernel_rfl) (by kernel_rfl) (by kernel_rfl) (fun _ _ _ h => h) rfl (.inl rfl) (x_assign rfl) (fun w hi => J.of_le (by first | exact Ro.le.refl _ | assumption) (fun x hx => hx) hi) ?_
          refine d_end (by kernel_rfl) ?_
          refine n_then ?_
          refine seq ?_
          refine seq ?_
          refine region ?_
          refine op (y (x_move rfl) rfl ?_)
          refine op (y (x_move rfl) rfl ?_)
          refine op (y (x_move rfl) rfl ?_)
          refine op (y (x_indexNat sz_23 rfl rfl (by omega)) rfl ?_)
          refine op (y (x_load1 ag_3 rfl (by first | assumption | exact Cell.own 0 rfl rfl | exact Cell.own 1 rfl rfl | exact Cell.own 2 rfl rfl | exact Cell.own 3 rfl rfl | exact Cell.own 4 rfl rfl | exact Cell.own 5 rfl rfl | exact Cell.ofRo (by assumption))) rfl ?_)
          refine swap0 ?_
          refine op (e_call rfl fn_61 rfl rfl (GrNode_c x _ _ _ _ _ hR _ h64y) fun v107 ro107 L107 hle107 hp107 => ?_)
          obtain ⟨rfl, R2, hR2, rfl, rfl⟩ := hp107
          have hR3 := hR2.perm (N' := mkN l (o.take (k + 1))) (by rw [hmn]; exact putI_perm hq1 _) (.refl _)
          refine op (y (x_move rfl) rfl ?_)
          refine op (y ((x_bneq Try.underlying4 rfl rfl).as (v' := .bool false) (by simp)) rfl ?_)
          refine nil ?_
          refine n_then ?_
          refine condF rfl ?_
          refine skip ?_
          refine n_then ?_
          refine draw ([]) (by kernel_rfl) ?_
          refine d_take 1 rfl (by kernel_rfl) (by kernel_rfl) (by kernel_rfl) (fun _ _ _ h => h) rfl (.inl rfl) (x_move rfl) (fun w hi => J.of_le (by first | exact Ro.le.refl _ | assumption) (by simp) hi) ?_
          refine d_take 2 rfl (by kernel_rfl) (by kernel_rfl) (by kernel_rfl) (fun _ _ _ h => h) rfl (.inl rfl) (x_move rfl) (fun w hi => J.of_le (by first | exact Ro.le.refl _ | assumption) (by simp) hi) ?_
          refine d_take 3 rfl (by kernel_rfl) (by kernel_rfl) (by kernel_rfl) (fun _ _ _ h => h) rfl (.inl rfl) (x_indexNat sz_23 rfl rfl (by omega)) (fun w hi => J.of_le (by first | exact Ro.le.refl _ | assumption) (by simp) hi) ?_
          refine d_take 4 rfl (by kernel_rfl) (by kernel_rfl) (by kernel_rfl) (fun _ _ _ h => h) rfl (.inl rfl) (x_load1 ag_3 rfl (by first | assumption | exact Cell.own 0 rfl rfl | exact Cell.own 1 rfl rfl | exact Cell.own 2 rfl rfl | exact Cell.own 3 rfl rfl | exact Cell.own 4 rfl rfl | exact Cell.own 5 rfl rfl | exact Cell.ofRo (by assumption))) (fun w hi => J.of_le (by first | exact Ro.le.refl _ | assumption) (by simp) hi) ?_
          refine d_one 0 rfl (by kernel_rfl) (.inl rfl) (y (x_loadOwn 1 [.slice A2 (mkN l (o.take k)).length cap2, .slice B2 (mkE l).length cap3] ag_63 rfl rfl rfl rfl) rfl ?_)
          refine d_next (fun w hi => J.of_le (by first | exact Ro.le.refl _ | assumption) (by simp) hi) ?_
          refine d_one 5 rfl (by kernel_rfl) (.inl rfl) (e_call rfl fn_62 rfl rfl (GNode_c _ _ A2 cap2 B2 cap3 _ _ hA2 hB2 _ (by omega)) fun v115 ro115 L115 hle115 hp115 => ?_)
          obtain ⟨A4, cap4, B4, cap5, rfl, hA4, hB4, hLL⟩ := hp115
          subst hLL
          rw [← hmn] at hA4 ⊢
          refine d_next (fun w hi => J.of_le (by first | exact Ro.le.refl _ | assumption) (by simp) hi) ?_
          first | refine d_one 6 rfl (by kernel_rfl) (.inl rfl) (e_store 0 rfl rfl ts_63 rfl rfl rfl rfl rfl rfl ?_) | refine d_one 6 rfl (by kernel_rfl) (.inl rfl) (e_store 1 rfl rfl ts_63 rfl rfl rfl rfl rfl rfl ?_) | refine d_one 6 rfl (by kernel_rfl) (.inl rfl) (e_store 2 rfl rfl ts_63 rfl rfl rfl rfl rfl rfl ?_) | refine d_one 6 rfl (by kernel_rfl) (.inl rfl) (e_store 3 rfl rfl ts_63 rfl rfl rfl rfl rfl rfl ?_) | refine d_one 6 rfl (by kernel_rfl) (.inl rfl) (e_store 4 rfl rfl ts_63 rfl rfl rfl rfl rfl rfl ?_) | refine d_one 6 rfl (by kernel_rfl) (.inl rfl) (e_store 5 rfl rfl ts_63 rfl rfl rfl rfl rfl rfl ?_)
          refine d_next (fun w hi => J.of_le (by first | exact Ro.le.refl _ | assumption) (by simp) hi) ?_
          refine d_end (by kernel_rfl) ?_
          refine n_in ?_
          refine n_then ?_
          refine region ?_
          refine op (y (x_move rfl) rfl ?_)
          refine op (y (x_add rfl rfl _ (wr (by omega) (by omega))) rfl ?_)
          refine op (y (x_assign rfl) rfl ?_)
          refine nil ?_
          refine swap0 ?_
          exact round (o.length - (k + 1)) [(0, .slice A l.length cap), (1, .slice _ o.length capo), (2, .int .i64 a), (3, .int .i64 b), (4, .int .i64 c), (12, .pointer (some ⟨x, 0, none⟩)), (13, .pointer (some ⟨b13, 0, none⟩)), (17, .int .i64 ((k + 1) : Nat))] (by omega) ⟨rfl, rfl, rfl, rfl, rfl, rfl, rfl, rfl, trivial⟩ ⟨k + 1, _, _, _, _, _, rfl, rfl, rfl, by omega, hle.trans hle115, hl.mono hle115, ho.mono hle115, hR3, hA4, hB4⟩
        · try simp only [decide_eq_true_eq, decide_eq_false_iff_not, beq_iff_eq, bne_iff_ne, ne_eq, beq_eq_false_iff_ne, bne_eq_false_iff_eq, Bool.not_eq_true', Bool.not_eq_false', Bool.not_eq_true, Bool.not_eq_false, Decidable.not_not, Int.not_lt, Int.not_le] at h19
          refine exit ?_
          refine e_then ?_
          refine e_then ?_
          refine e_in ?_
          refine n_then ?_
          refine seq ?_
          obtain rfl : k = o.length := by omega
          rw [List.take_length] at *
          obtain ⟨hs1, hs2, hs3⟩ := mkE_spec l l.length (Nat.le_refl _)
          rw [List.take_length] at hs1 hs2 hs3
          obtain ⟨hq1, hq2, hq3⟩ := mkN_spec l o o.length (Nat.le_refl _)
          rw [List.take_length] at hq1 hq2 hq3
          generalize mkN l o = N at *
          generalize mkE l = E at *
          refine drawL (by kernel_rfl) ?_
          refine d_take 0 rfl (by kernel_rfl) (by kernel_rfl) (by kernel_rfl) (fun _ _ _ h => h) rfl (.inl rfl) (x_move rfl) (fun w hi => J.of_le (by first | exact Ro.le.refl _ | assumption) (fun x hx => hx) hi) ?_
          refine d_take 1 rfl (by kernel_rfl) (by kernel_rfl) (by kernel_rfl) (fun _ _ _ h => h) rfl (.inl rfl) (x_move rfl) (fun w hi => J.of_le (by first | exact Ro.le.refl _ | assumption) (fun x hx => hx) hi) ?_
          refine d_take 2 rfl (by kernel_rfl) (by kernel_rfl) (by kernel_rfl) (fun _ _ _ h => h) rfl (.inl rfl) (x_move rfl) (fun w hi => J.of_le (by first | exact Ro.le.refl _ | assumption) (fun x hx => hx) hi) ?_
          refine d_take 4 rfl (by kernel_rfl) (by kernel_rfl) (by kernel_rfl) (fun _ _ _ h => h) rfl (.inl rfl) (x_loadOwn 0 [.slice A2 (N).length cap2, .slice B2 (E).length cap3] ag_63 rfl rfl rfl rfl) (fun w hi => J.of_le (by first | exact Ro.le.refl _ | assumption) (fun x hx => hx) hi) ?_
          refine d_take 5 rfl (by kernel_rfl) (by kernel_rfl) (by kernel_rfl) (fun _ _ _ h => h) rfl (.inl rfl) (x_move rfl) (fun w hi => J.of_le (by first | exact Ro.le.refl _ | assumption) (fun x hx => hx) hi) ?_
          refine d_take 6 rfl (by kernel_rfl) (by kernel_rfl) (by kernel_rfl) (fun _ _ _ h => h) rfl (.inl rfl) (x_move rfl) (fun w hi => J.of_le (by first | exact Ro.le.refl _ | assumption) (fun x hx => hx) hi) ?_
          refine d_one 3 rfl (by kernel_rfl) (.inl rfl) (e_call rfl fn_49 rfl rfl (GrKinds_c x _ _ R _ _ hR (by simp) (by omega) (by omega) a b) fun v119 ro119 L119 hle119 hp119 => ?_)
          obtain ⟨A119, cap119, R119, rfl, hO119, rfl, rfl⟩ := hp119
          refine ufreeze fun ro119 hle119b hR119 => ?_
          have hS119 := OwnS.sl hO119 (fun _ _ => rfl) hR119
          have hA3 := hA2.mono hle119b
          have hB3 := hB2.mono hle119b
          refine d_next (fun w hi => J.of_le (by first | exact Ro.le.refl _ | assumption) (fun x hx => hx) hi) ?_
          refine d_one 7 rfl (by kernel_rfl) (.inl rfl) (e_call rfl fn_63 rfl rfl (GKinds_c _ _ A2 cap2 B2 cap3 _ _ hA3 hB3 a b (by omega)) fun v123 ro123 L123 hle123 hp123 => ?_)
          obtain ⟨A123, cap123, rfl, hS123, hLL123⟩ := hp123
          subst hLL123
          have hq123 := hle119b.trans hle123
          refine d_next (fun w hi => J.of_le (by first | exact Ro.le.refl _ | assumption) (fun x hx => hx) hi) ?_
          refine d_one 8 rfl (by kernel_rfl) (.inl rfl) (e_call rfl fn_39 rfl rfl (SameInts_c (kindsR E a b) _ _ (kindsR E a b) _ _ _ _ (hS119.mono hle123) hS123) fun v124 ro124 L124 hle124 hp124 => ?_)
          obtain ⟨hv124, hr124, hLL124⟩ := hp124
          subst hr124
          subst hLL124
          obtain rfl : v124 = .bool true := hv124.trans (by simp)
          refine d_next (fun w hi => J.of_le (by first | exact Ro.le.refl _ | assumption) (fun x hx => hx) hi) ?_
          refine d_take 9 rfl (by kernel_rfl) (by kernel_rfl) (by kernel_rfl) (fun _ _ _ h => h) rfl (.inl rfl) (x_assign rfl) (fun w hi => J.of_le (by first | exact Ro.le.refl _ | assumption) (fun x hx => hx) hi) ?_
          refine d_end (by kernel_rfl) ?_
          refine n_then ?_
          refine seq ?_
          refine drawL (by kernel_rfl) ?_
          refine d_take 0 rfl (by kernel_rfl) (by kernel_rfl) (by kernel_rfl) (fun _ _ _ h => h) rfl (.inl rfl) (x_move rfl) (fun w hi => J.of_le (by first | exact Ro.le.refl _ | assumption) (fun x hx => hx) hi) ?_
          refine d_take 1 rfl (by kernel_rfl) (by kernel_rfl) (by kernel_rfl) (fun _ _ _ h => h) rfl (.inl rfl) (x_move rfl) (fun w hi => J.of_le (by first | exact Ro.le.refl _ | assumption) (fun x hx => hx) hi) ?_
          refine d_take 3 rfl (by kernel_rfl) (by kernel_rfl) (by kernel_rfl) (fun _ _ _ h => h) rfl (.inl rfl) (x_loadOwn 0 [.slice A2 (N).length cap2, .slice B2 (E).length cap3] ag_63 rfl rfl rfl rfl) (fun w hi => J.of_le (by first | exact Ro.le.refl _ | assumption) (fun x hx => hx) hi) ?_
          refine d_take 4 rfl (by kernel_rfl) (by kernel_rfl) (by kernel_rfl) (fun _ _ _ h => h) rfl (.inl rfl) (x_move rfl) (fun w hi => J.of_le (by first | exact Ro.le.refl _ | assumption) (fun x hx => hx) hi) ?_
          refine d_one 2 rfl (by kernel_rfl) (.inl rfl) (e_call rfl fn_54 rfl rfl (GrOut_c x _ _ R _ _ hR (by simp) (by omega) (by omega) a) fun v127 ro127 L127 hle127 hp127 => ?_)
          obtain ⟨A127, cap127, R127, rfl, hO127, rfl, rfl⟩ := hp127
          refine ufreeze fun ro127 hle127b hR127 => ?_
          have hS127 := OwnS.sl hO127 (fun _ _ => rfl) hR127
          have hA5 := (hA3.mono hle123).mono hle127b
          have hB5 := (hB3.mono hle123).mono hle127b
          refine d_next (fun w hi => J.of_le (by first | exact Ro.le.refl _ | assumption) (fun x hx => hx) hi) ?_
          refine d_one 5 rfl (by kernel_rfl) (.inl rfl) (e_call rfl fn_64 rfl rfl (GOut_c _ _ A2 cap2 B2 cap3 _ _ hA5 hB5 a (by omega)) fun v130 ro130 L130 hle130 hp130 => ?_)
          obtain ⟨A130, cap130, rfl, hS130, hLL130⟩ := hp130
          subst hLL130
          have hq130 := hle127b.trans hle130
          refine d_next (fun w hi => J.of_le (by first | exact Ro.le.refl _ | assumption) (fun x hx => hx) hi) ?_
          refine d_one 6 rfl (by kernel_rfl) (.inl rfl) (e_call rfl fn_39 rfl rfl (SameInts_c (BehindR (prE E) a) _ _ (BehindR (prE E) a) _ _ _ _ (hS127.mono hle130) hS130) fun v131 ro131 L131 hle131 hp131 => ?_)
          obtain ⟨hv131, hr131, hLL131⟩ := hp131
          subst hr131
          subst hLL131
          obtain rfl : v131 = .bool true := hv131.trans (by simp)
          refine d_next (fun w hi => J.of_le (by first | exact Ro.le.refl _ | assumption) (fun x hx => hx) hi) ?_
          refine d_take 7 rfl (by kernel_rfl) (by kernel_rfl) (by kernel_rfl) (fun _ _ _ h => h) rfl (.inl rfl) (x_assign rfl) (fun w hi => J.of_le (by first | exact Ro.le.refl _ | assumption) (fun x hx => hx) hi) ?_
          refine d_end (by kernel_rfl) ?_
          refine n_then ?_
          refine seq ?_
          refine drawL (by kernel_rfl) ?_
          refine d_take 0 rfl (by kernel_rfl) (by kernel_rfl) (by kernel_rfl) (fun _ _ _ h => h) rfl (.inl rfl) (x_move rfl) (fun w hi => J.of_le (by first | exact Ro.le.refl _ | assumption) (fun x hx => hx) hi) ?_
          refine d_take 1 rfl (by kernel_rfl) (by kernel_rfl) (by kernel_rfl) (fun _ _ _ h => h) rfl (.inl rfl) (x_loadOwn 0 [.slice A2 (N).length cap2, .slice B2 (E).length cap3] ag_63 rfl rfl rfl rfl) (fun w hi => J.of_le (by first | exact Ro.le.refl _ | assumption) (fun x hx => hx) hi) ?_
          refine d_one 2 rfl (by kernel_rfl) (.inl rfl) (e_call rfl fn_65 rfl rfl (GIs_c x _ _ R A2 cap2 B2 cap3 _ _ hR (by simp) hq1 hs1 (hA5.mono hle130) (hB5.mono hle130) (by omega) (by omega)) fun v134 ro134 L134 hle134 hp134 => ?_)
          obtain ⟨rfl, hLL134⟩ := hp134
          subst hLL134
          have hA6 := (hA5.mono hle130).mono hle134
          have hB6 := (hB5.mono hle130).mono hle134
          refine d_next (fun w hi => J.of_le (by first | exact Ro.le.refl _ | assumption) (fun x hx => hx) hi) ?_
          refine d_take 3 rfl (by kernel_rfl) (by kernel_rfl) (by kernel_rfl) (fun _ _ _ h => h) rfl (.inl rfl) (x_move rfl) (fun w hi => J.of_le (by first | exact Ro.le.refl _ | assumption) (fun x hx => hx) hi) ?_
          refine d_take 4 rfl (by kernel_rfl) (by kernel_rfl) (by kernel_rfl) (fun _ _ _ h => h) rfl (.inr ⟨_, _, _, rfl, rfl, rfl⟩) (x_move rfl) (fun w hi => J.of_le (by first | exact Ro.le.refl _ | assumption) (fun x hx => hx) hi) ?_
          refine d_take 5 rfl (by kernel_rfl) (by kernel_rfl) (by kernel_rfl) (fun _ _ _ h => h) rfl (.inl rfl) (x_pickT rfl rfl) (fun w hi => J.of_le (by first | exact Ro.le.refl _ | assumption) (fun x hx => hx) hi) ?_
          refine d_take 6 rfl (by kernel_rfl) (by kernel_rfl) (by kernel_rfl) (fun _ _ _ h => h) rfl (.inl rfl) (x_move rfl) (fun w hi => J.of_le (by first | exact Ro.le.refl _ | assumption) (fun x hx => hx) hi) ?_
          refine d_take 7 rfl (by kernel_rfl) (by kernel_rfl) (by kernel_rfl) (fun _ _ _ h => h) rfl (.inr ⟨_, _, _, rfl, rfl, rfl⟩) (x_move rfl) (fun w hi => J.of_le (by first | exact Ro.le.refl _ | assumption) (fun x hx => hx) hi) ?_
          refine d_take 8 rfl (by kernel_rfl) (by kernel_rfl) (by kernel_rfl) (fun _ _ _ h => h) rfl (.inl rfl) (x_pickT rfl rfl) (fun w hi => J.of_le (by first | exact Ro.le.refl _ | assumption) (fun x hx => hx) hi) ?_
          refine d_take 9 rfl (by kernel_rfl) (by kernel_rfl) (by kernel_rfl) (fun _ _ _ h => h) rfl (.inl rfl) (x_move rfl) (fun w hi => J.of_le (by first | exact Ro.le.refl _ | assumption) (fun x hx => hx) hi) ?_
          refine d_take 10 rfl (by kernel_rfl) (by kernel_rfl) (by kernel_rfl) (fun _ _ _ h => h) rfl (.inr ⟨_, _, _, rfl, rfl, rfl⟩) (x_move rfl) (fun w hi => J.of_le (by first | exact Ro.le.refl _ | assumption) (fun x hx => hx) hi) ?_
          refine d_take 11 rfl (by kernel_rfl) (by kernel_rfl) (by kernel_rfl) (fun _ _ _ h => h) rfl (.inr ⟨_, _, _, rfl, rfl, rfl⟩) (x_move rfl) (fun w hi => J.of_le (by first | exact Ro.le.refl _ | assumption) (fun x hx => hx) hi) ?_
          refine d_take 12 rfl (by kernel_rfl) (by kernel_rfl) (by kernel_rfl) (fun _ _ _ h => h) rfl (.inr ⟨_, _, _, rfl, rfl, rfl⟩) (x_move rfl) (fun w hi => J.of_le (by first | exact Ro.le.refl _ | assumption) (fun x hx => hx) hi) ?_
          refine d_take 13 rfl (by kernel_rfl) (by kernel_rfl) (by kernel_rfl) (fun _ _ _ h => h) rfl (.inr ⟨_, _, _, rfl, rfl, rfl⟩) (x_move rfl) (fun w hi => J.of_le (by first | exact Ro.le.refl _ | assumption) (fun x hx => hx) hi) ?_
          refine d_take 15 rfl (by kernel_rfl) (by kernel_rfl) (by kernel_rfl) (fun _ _ _ h => h) rfl (.inr ⟨_, _, _, rfl, rfl, rfl⟩) (x_loadOwn 0 [.slice A2 (N).length cap2, .slice B2 (E).length cap3] ag_63 rfl rfl rfl rfl) (fun w hi => J.of_le (by first | exact Ro.le.refl _ | assumption) (fun x hx => hx) hi) ?_
          refine d_take 16 rfl (by kernel_rfl) (by kernel_rfl) (by kernel_rfl) (fun _ _ _ h => h) rfl (.inr ⟨_, _, _, rfl, rfl, rfl⟩) (x_move rfl) (fun w hi => J.of_le (by first | exact Ro.le.refl _ | assumption) (fun x hx => hx) hi) ?_
          refine d_take 17 rfl (by kernel_rfl) (by kernel_rfl) (by kernel_rfl) (fun _ _ _ h => h) rfl (.inr ⟨_, _, _, rfl, rfl, rfl⟩) (x_move rfl) (fun w hi => J.of_le (by first | exact Ro.le.refl _ | assumption) (fun x hx => hx) hi) ?_
          refine d_take 18 rfl (by kernel_rfl) (by kernel_rfl) (by kernel_rfl) (fun _ _ _ h => h) rfl (.inr ⟨_, _, _, rfl, rfl, rfl⟩) (x_move rfl) (fun w hi => J.of_le (by first | exact Ro.le.refl _ | assumption) (fun x hx => hx) hi) ?_
          refine d_one 14 rfl (by kernel_rfl) (.inr ⟨_, _, _, rfl, rfl, rfl⟩) (e_call rfl fn_57 rfl rfl (GrHas_c x _ _ R _ _ hR (by simp) a b c) fun v146 ro146 L146 hle146 hp146 => ?_)
          obtain ⟨rfl, hr146, hLL146⟩ := hp146
          subst hr146
          subst hLL146
          refine d_next (fun w hi => J.of_le (by first | exact Ro.le.refl _ | assumption) (fun x hx => hx) hi) ?_
          refine d_one 19 rfl (by kernel_rfl) (.inr ⟨_, _, _, rfl, rfl, rfl⟩) (e_call rfl fn_56 rfl rfl (GHas_c _ _ A2 cap2 B2 cap3 _ _ hA6 hB6 a b c) fun v151 ro151 L151 hle151 hp151 => ?_)
          obtain ⟨rfl, hr151, hLL151⟩ := hp151
          subst hr151
          subst hLL151
          refine d_next (fun w hi => J.of_le (by first | exact Ro.le.refl _ | assumption) (fun x hx => hx) hi) ?_
          refine d_take 20 rfl (by kernel_rfl) (by kernel_rfl) (by kernel_rfl) (fun _ _ _ h => h) rfl (.inr ⟨_, _, _, rfl, rfl, rfl⟩) ((x_beql Try.underlying4 rfl rfl).as (v' := .bool true) (by simp)) (fun w hi => J.of_le (by first | exact Ro.le.refl _ | assumption) (fun x hx => hx) hi) ?_
          refine d_take 21 rfl (by kernel_rfl) (by kernel_rfl) (by kernel_rfl) (fun _ _ _ h => h) rfl (.inl rfl) (x_pickT rfl rfl) (fun w hi => J.of_le (by first | exact Ro.le.refl _ | assumption) (fun x hx => hx) hi) ?_
          refine d_take 22 rfl (by kernel_rfl) (by kernel_rfl) (by kernel_rfl) (fun _ _ _ h => h) rfl (.inl rfl) (x_assign rfl) (fun w hi => J.of_le (by first | exact Ro.le.refl _ | assumption) (fun x hx => hx) hi) ?_
          refine d_end (by kernel_rfl) ?_
          refine n_then ?_
          refine ret ?_
          refine drop0 ?_
          refine drop0 ?_
          exact done rfl (.tmp rfl (.nil)) ((((((hle).trans hle119b).trans hle123).trans hle127b).trans hle130).trans hle134) (L) (⟨_, .refl _, .refl _⟩) (⟨rfl, rfl⟩)

end Go.Proofs.Ytlmeblhcipkgmaa
