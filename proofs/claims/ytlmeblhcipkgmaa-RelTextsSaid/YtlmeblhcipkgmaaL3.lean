/- The walk of the statement on closures, circles and orders. -/
import Derived.Test.YtlmeblhcipkgmaaL2
namespace Go.Proofs.Ytlmeblhcipkgmaa
open Go Go.U
set_option maxRecDepth 20000
set_option linter.unusedSimpArgs false
set_option linter.unusedVariables false

open Go.RowKit
theorem gt_false {n m : Nat} (h : n ≤ m) : decide ((m : Int) < (n : Int)) = false := decide_eq_false (by omega)
theorem Clo_perm {S C c : List (Int × Int)} (hn : C.Nodup) (hfin : ∀ p, p ∈ C ↔ TG S p.1 p.2) {m : List (Int × Int)} (hSm : ∀ p, p ∈ S ↔ p ∈ m) (hC : CS m c) : C.Perm c :=
  (List.perm_ext_iff_of_nodup hn hC.1.nodup).2 fun p => (hfin p).trans ⟨fun t => (hC.2.1 p.1 p.2).2 (t.mono fun q hq => (hSm q).1 hq), fun h => ((hC.2.1 p.1 p.2).1 h).mono fun q hq => (hSm q).2 hq⟩
theorem bool_eq {b c : Bool} {p q : Prop} (hb : b = true ↔ p) (hc : c = true ↔ q) (h : p ↔ q) : (b == c) = true := by
  cases b <;> cases c <;> simp at * <;> grind

theorem RelCloses_c (l : List (Int × Int)) (A : Option Addr) (cap : Nat) (o : List Int) (B : Option Addr) (cap2 : Nat) (ro : Ro) (L : List (List Blk)) (hl : Sl ro 2 encPair A cap l) (ho : Sl ro 1 encInt B cap2 o) (h64 : ∀ p ∈ l, I64 p.1 ∧ I64 p.2) :
    CT Try.prog 3 [.slice A l.length cap, .slice B o.length cap2].toArray ro L (PV (.bool true) L) := by
  have hcap : l.length ≤ 9223372036854775807 := by have := hl.1; have := hl.2.1; unfold maxLen at this; omega
  have hcap2 : o.length ≤ 9223372036854775807 := by have := ho.1; have := ho.2.1; unfold maxLen at this; omega
  refine enter Try.func3 rfl Try.ntmps3 rfl ?_
  refine seq ?_
  refine region ?_
  refine op (y (x_assign rfl) rfl ?_)
  refine nil ?_
  refine n_then ?_
  refine seq ?_
  refine region ?_
  refine op (e_call rfl fn_15 rfl rfl (First_c _ _) fun v11 ro11 L11 hle11 hp11 => ?_)
  obtain ⟨rfl, rfl⟩ := hp11
  have hl1 := hl.mono hle11
  have ho1 := ho.mono hle11
  refine op (y (x_assign rfl) rfl ?_)
  refine nil ?_
  refine n_then ?_
  refine seq ?_
  refine seq ?_
  refine region ?_
  refine op (y (x_move rfl) rfl ?_)
  refine op (y (x_not rfl) rfl ?_)
  refine nil ?_
  refine n_then ?_
  refine condF rfl ?_
  refine skip ?_
  refine n_then ?_
  refine seq ?_
  refine seq ?_
  refine region ?_
  refine op (y (x_move rfl) rfl ?_)
  refine op (y (x_lenSl sz_22 rfl) rfl ?_)
  refine op (y (x_gtr rfl rfl) rfl ?_)
  refine op (y (x_move rfl) rfl ?_)
  refine bsplit 17 rfl (fun g17 => ?_) (fun g17 => ?_)
  · try simp only [decide_eq_true_eq, decide_eq_false_iff_not, beq_iff_eq, bne_iff_ne, ne_eq, beq_eq_false_iff_ne, bne_eq_false_iff_eq, Bool.not_eq_true', Bool.not_eq_false', Bool.not_eq_true, Bool.not_eq_false, Decidable.not_not, Int.not_lt, Int.not_le] at g17
    refine opN rfl rfl rfl rfl ?_
    refine opN rfl rfl rfl rfl ?_
    refine opN rfl rfl rfl rfl ?_
    refine op (y (x_pickT rfl rfl) rfl ?_)
    refine op (y (x_move rfl) rfl ?_)
    refine opN rfl rfl rfl rfl ?_
    refine opN rfl rfl rfl rfl ?_
    refine op (y (x_pickT rfl rfl) rfl ?_)
    refine nil ?_
    refine n_then ?_
    refine condT rfl ?_
    refine seq ?_
    refine region ?_
    refine op (y (x_move rfl) rfl ?_)
    refine op (y (x_assign rfl) rfl ?_)
    refine nil ?_
    refine n_then ?_
    refine ret ?_
    refine r_then ?_
    exact done rfl (.tmp rfl (.nil)) (hle11) (L) (⟨_, .refl _, .refl _⟩) (⟨rfl, rfl⟩)
  · try simp only [decide_eq_true_eq, decide_eq_false_iff_not, beq_iff_eq, bne_iff_ne, ne_eq, beq_eq_false_iff_ne, bne_eq_false_iff_eq, Bool.not_eq_true', Bool.not_eq_false', Bool.not_eq_true, Bool.not_eq_false, Decidable.not_not, Int.not_lt, Int.not_le] at g17
    refine opG rfl rfl (y (x_move rfl) rfl ?_)
    refine opG rfl rfl (y (x_lenSl sz_23 rfl) rfl ?_)
    refine opG rfl rfl (y (x_gtr rfl rfl) rfl ?_)
    refine op (y (x_pickF rfl rfl) rfl ?_)
    refine op (y (x_move rfl) rfl ?_)
    refine bsplit 22 rfl (fun g22 => ?_) (fun g22 => ?_)
    · try simp only [decide_eq_true_eq, decide_eq_false_iff_not, beq_iff_eq, bne_iff_ne, ne_eq, beq_eq_false_iff_ne, bne_eq_false_iff_eq, Bool.not_eq_true', Bool.not_eq_false', Bool.not_eq_true, Bool.not_eq_false, Decidable.not_not, Int.not_lt, Int.not_le] at g22
      refine opN rfl rfl rfl rfl ?_
      refine opN rfl rfl rfl rfl ?_
      refine op (y (x_pickT rfl rfl) rfl ?_)
      refine nil ?_
      refine n_then ?_
      refine condT rfl ?_
      refine seq ?_
      refine region ?_
      refine op (y (x_move rfl) rfl ?_)
      refine op (y (x_assign rfl) rfl ?_)
      refine nil ?_
      refine n_then ?_
      refine ret ?_
      refine r_then ?_
      exact done rfl (.tmp rfl (.nil)) (hle11) (L) (⟨_, .refl _, .refl _⟩) (⟨rfl, rfl⟩)
    · try simp only [decide_eq_true_eq, decide_eq_false_iff_not, beq_iff_eq, bne_iff_ne, ne_eq, beq_eq_false_iff_ne, bne_eq_false_iff_eq, Bool.not_eq_true', Bool.not_eq_false', Bool.not_eq_true, Bool.not_eq_false, Decidable.not_not, Int.not_lt, Int.not_le] at g22
      refine opG rfl rfl (y (x_move rfl) rfl ?_)
      refine opG rfl rfl (y (x_not rfl) rfl ?_)
      refine op (y (x_pickF rfl rfl) rfl ?_)
      refine nil ?_
      refine n_then ?_
      refine condF rfl ?_
      refine skip ?_
      refine n_then ?_
      refine seq ?_
      refine region ?_
      refine op (y (x_move rfl) rfl ?_)
      refine op (e_call rfl fn_16 rfl rfl (Made_c l A cap _ _ hl1 (by omega) h64) fun v29 ro29 L29 hle29 hp29 => ?_)
      obtain ⟨x, R, A2, cap22, rfl, hR, hm, hLL⟩ := hp29
      subst hLL
      obtain ⟨hs1, hs2, hs3⟩ := mk_spec l l.length (Nat.le_refl _)
      rw [List.take_length] at hs1 hs2 hs3
      have hml : (mk l).length ≤ 60 := by omega
      have ho2 := ho1.mono hle29
      refine op (y (x_move rfl) rfl ?_)
      refine op (y (x_extract rfl rfl) rfl ?_)
      refine op (y (x_extract rfl rfl) rfl ?_)
      refine op (y (x_assign rfl) rfl ?_)
      refine op (y (x_assign rfl) rfl ?_)
      refine nil ?_
      refine n_then ?_
      refine seq ?_
      refine seq ?_
      refine region ?_
      refine op (y (x_move rfl) rfl ?_)
      refine op (y (x_ptrEqNil Try.underlying25 rfl rfl) rfl ?_)
      refine nil ?_
      refine n_then ?_
      refine condF rfl ?_
      refine skip ?_
      refine n_then ?_
      refine seq ?_
      refine region ?_
      refine op (y (x_move rfl) rfl ?_)
      refine op (e_call rfl fn_17 rfl rfl (RClosure_c x (mk l) R _ _ hR (List.mem_cons_self) (by omega)) fun v35 ro35 L35 hle35 hp35 => ?_)
      obtain ⟨x2, C, R2, rfl, hC, hfin, hCl, rfl, hLL⟩ := hp35
      subst hLL
      have hCl2 : C.length ≤ 60 * 60 := Nat.le_trans hCl (Nat.mul_le_mul hml hml)
      refine op (y (x_assign rfl) rfl ?_)
      refine nil ?_
      refine n_then ?_
      refine seq ?_
      refine region ?_
      refine op (y (x_move rfl) rfl ?_)
      refine op (e_call rfl fn_18 rfl rfl (Ints_c o B cap2 _ _ ho2 (by omega)) fun v37 ro37 L37 hle37 hp37 => ?_)
      obtain ⟨A3, cap3, R3, rfl, hO3, hLL⟩ := hp37
      subst hLL
      refine op (e_slice1 rfl Try.underlying23 ti_3 rfl rfl (by decide) (by decide) rfl rfl rfl fun b38 => ?_)
      refine op (e_append1 0 rfl st_23 rfl rfl rfl hO3 rfl rfl (by omega) (by omega) (fun _ => rfl) fun A39 cap39 R39 hO39 => ?_)
      refine ufreeze fun ro39 hle39 hR39 => ?_
      have hmine : Sl ro39 1 encInt A39 cap39 (o ++ [47]) := OwnS.sl (l := o ++ [47]) ((OwnS.snoc (l := o) (x := 47) (enc := encInt) hO39).cast (by simp) rfl) (fun _ _ => rfl) hR39
      have hlen39 := hmine.1
      simp only [List.length_append, List.length_singleton] at hlen39
      have hmo : Sl ro39 1 encInt A39 cap39 o := by simpa using hmine.take o.length
      refine op (y (x_assign rfl) rfl ?_)
      refine nil ?_
      refine n_then ?_
      refine seq ?_
      refine region ?_
      refine op (y (x_move rfl) rfl ?_)
      refine op (y (x_move rfl) rfl ?_)
      refine op (y (x_move rfl) rfl ?_)
      refine op (y (x_lenSl sz_23 rfl) rfl ?_)
      refine op (y (x_sliceHiN sz_23 rfl rfl (by omega)) rfl ?_)
      refine op (e_call rfl fn_19 rfl rfl (RFits_c x (mk l) R _ _ hR (by simp) o A39 cap39 hmo) fun v45 ro45 L45 hle45 hp45 => ?_)
      obtain ⟨b45, rfl, hb45, rfl⟩ := hp45
      have hm2 := (((hm.mono hle35).mono hle37).mono hle39).mono hle45
      have ho3 := (((ho2.mono hle35).mono hle37).mono hle39).mono hle45
      refine op (y (x_assign rfl) rfl ?_)
      refine nil ?_
      refine n_then ?_
      refine seq ?_
      refine region ?_
      refine op (y (x_move rfl) rfl ?_)
      refine op (y (x_move rfl) rfl ?_)
      refine op (e_call rfl fn_21 rfl rfl (Closure_c (mk l) A2 cap22 _ _ hm2 (by omega) hs1) fun v48 ro48 L48 hle48 hp48 => ?_)
      obtain ⟨c, hCS, A4, cap4, rfl, hO4, rfl⟩ := hp48
      have hcl3 : c.length ≤ 60 * 60 := Nat.le_trans hCS.2.2 (Nat.mul_le_mul hml hml)
      refine op (e_call rfl fn_20 rfl rfl (Is_c x2 C R2 c A4 cap4 _ _ hC (List.mem_cons_self) hO4 hCS.1 (Clo_perm hC.nodup hfin (fun _ => Iff.rfl) hCS) (by omega)) fun v49 ro49 L49 hle49 hp49 => ?_)
      obtain ⟨rfl, rfl⟩ := hp49
      refine op (y (x_move rfl) rfl ?_)
      refine opG rfl rfl (y (x_move rfl) rfl ?_)
      refine opG rfl rfl (y (x_move rfl) rfl ?_)
      refine opG rfl rfl (e_call rfl fn_20 rfl rfl (Is_c x (mk l) R (mk l) A2 cap22 _ _ hR (by simp) ((hm2.mono hle48).mono hle49) hs1 (.refl _) (by omega)) fun v53 ro53 L53 hle53 hp53 => ?_)
      obtain ⟨rfl, rfl⟩ := hp53
      refine op (y (x_pickT rfl rfl) rfl ?_)
      refine op (y (x_move rfl) rfl ?_)
      refine opG rfl rfl (y (x_move rfl) rfl ?_)
      refine opG rfl rfl (e_call rfl fn_22 rfl rfl (RCircle_c x (mk l) R _ _ hR (by simp) (by omega)) fun v57 ro57 L57 hle57 hp57 => ?_)
      obtain ⟨b57, rfl, hb57, rfl⟩ := hp57
      refine opG rfl rfl (y (x_move rfl) rfl ?_)
      refine opG rfl rfl (e_call rfl fn_23 rfl rfl (Circle_c (mk l) A2 cap22 _ _ ((((hm2.mono hle48).mono hle49).mono hle53).mono hle57) (by omega) hs1) fun v59 ro59 L59 hle59 hp59 => ?_)
      obtain ⟨b59, rfl, hb59, rfl⟩ := hp59
      refine opG rfl rfl (y ((x_beql Try.underlying4 rfl rfl).as (v' := .bool true) (by rw [bool_eq hb57 hb59 Iff.rfl])) rfl ?_)
      refine op (y (x_pickT rfl rfl) rfl ?_)
      refine op (y (x_move rfl) rfl ?_)
      refine opG rfl rfl (y (x_move rfl) rfl ?_)
      refine opG rfl rfl (y (x_move rfl) rfl ?_)
      refine opG rfl rfl (y (x_move rfl) rfl ?_)
      refine opG rfl rfl (e_call rfl fn_24 rfl rfl (Fits_c (mk l) A2 cap22 o B cap2 _ _ (((((hm2.mono hle48).mono hle49).mono hle53).mono hle57).mono hle59) (((((ho3.mono hle48).mono hle49).mono hle53).mono hle57).mono hle59)) fun v66 ro66 L66 hle66 hp66 => ?_)
      obtain ⟨b66, rfl, hb66, rfl⟩ := hp66
      have hfits : (∀ i : Nat, ∀ p, o[i]? = some p → ∀ k : Nat, i ≤ k → ∀ q, o[k]? = some q → (q, p) ∉ mk l) ↔ (∀ i : Nat, ∀ p, o[i]? = some p → ∀ k : Nat, k ≤ i → ∀ q, o[k]? = some q → (p, q) ∉ mk l) :=
        ⟨fun h i p hp k hk q hq => h k q hq i hk p hp, fun h i p hp k hk q hq => h k q hq i hk p hp⟩
      refine opG rfl rfl (y ((x_beql Try.underlying4 rfl rfl).as (v' := .bool true) (by rw [bool_eq hb45 hb66 hfits])) rfl ?_)
      refine op (y (x_pickT rfl rfl) rfl ?_)
      refine op (y (x_move rfl) rfl ?_)
      refine opG rfl rfl (y (x_move rfl) rfl ?_)
      refine opG rfl rfl (y (x_move rfl) rfl ?_)
      refine opG rfl rfl (y (x_lenSl sz_23 rfl) rfl ?_)
      obtain ⟨bm, offm, rfl, hcm⟩ := hmine.at_ (i := o.length) (by simp)
      have cm := hcm o.length 47 (by simp) 0 _ rfl
      have cm2 := ((((((hle45.trans hle48).trans hle49).trans hle53).trans hle57).trans hle59).trans hle66).cell cm
      refine opG rfl rfl (y (x_indexNat sz_23 rfl rfl (by omega)) rfl ?_)
      refine opG rfl rfl (y (x_load1 ag_3 rfl (Cell.ofRo cm2)) rfl ?_)
      refine opG rfl rfl (y ((x_eql rfl rfl).as (v' := .bool true) (by simp)) rfl ?_)
      refine op (y (x_pickT rfl rfl) rfl ?_)
      refine op (y (x_assign rfl) rfl ?_)
      refine nil ?_
      refine n_then ?_
      refine ret ?_
      refine drop0 ?_
      refine drop0 ?_
      exact done rfl (.tmp rfl (.nil)) (((((hle11.trans hle29).trans hle35).trans (hle37.trans hle39)).trans hle45).trans ((((((hle48.trans hle49).trans hle53).trans hle57).trans hle59).trans hle66))) (L) (⟨_, .refl _, .refl _⟩) (⟨rfl, rfl⟩)

end Go.Proofs.Ytlmeblhcipkgmaa
