/- The chapter's examples of relations. -/
import Derived.Test.YtlmeblhcipkgmaaL1
namespace Go.Proofs.Ytlmeblhcipkgmaa
open Go Go.U
set_option maxRecDepth 20000
set_option linter.unusedSimpArgs false
set_option linter.unusedVariables false

open Go.RowKit
theorem first_mk : mk [(2, 3), (1, 2), (5, 5)] = [(1, 2), (2, 3), (5, 5)] := by decide
theorem first_tg (a b : Int) : TG [((1 : Int), (2 : Int)), (2, 3), (5, 5)] a b ↔ (a, b) ∈ [((1 : Int), (2 : Int)), (1, 3), (2, 3), (5, 5)] := by
  constructor
  · intro h
    induction h with
    | one h => simp at h ⊢; omega
    | step _ h ih => simp at h ih ⊢; omega
  · intro h
    simp at h
    rcases h with ⟨rfl, rfl⟩ | ⟨rfl, rfl⟩ | ⟨rfl, rfl⟩ | ⟨rfl, rfl⟩
    · exact .one (by simp)
    · exact .step (b := 2) (.one (by simp)) (by simp)
    · exact .one (by simp)
    · exact .one (by simp)
theorem fits3 (S : List (Int × Int)) (a b c : Int) (h : ∀ i k : Nat, i ≤ k → k < 3 → ([a, b, c].getD k 0, [a, b, c].getD i 0) ∉ S) : ∀ i : Nat, ∀ p, [a, b, c][i]? = some p → ∀ k : Nat, i ≤ k → ∀ q, [a, b, c][k]? = some q → (q, p) ∉ S := fun i p hp k hk q hq => by
  have h3 := (List.getElem?_eq_some_iff.1 hq).1
  have := h i k hk (by simpa using h3)
  simpa [List.getD, hp, hq] using this

theorem First_c (ro : Ro) (L : List (List Blk)) : CT Try.prog 15 [].toArray ro L (PV (.bool true) L) := by
  refine enter Try.func15 rfl Try.ntmps15 rfl ?_
  refine seq ?_
  refine region ?_
  refine op (y (x_assign rfl) rfl ?_)
  refine nil ?_
  refine n_then ?_
  refine seq ?_
  refine region ?_
  refine op (y (x_build bu_40 rfl rfl) rfl ?_)
  refine op (y (x_build bu_40 rfl rfl) rfl ?_)
  refine op (y (x_build bu_40 rfl rfl) rfl ?_)
  refine op (e_sliceN (zs := [.int .i64 0, .int .i64 0, .int .i64 0, .int .i64 0, .int .i64 0, .int .i64 0]) rfl Try.underlying22 ti_40 tz_40 rfl (by decide) (by decide) (by kernel_rfl) rfl rfl fun b8 => ?_)
  refine ufreeze fun ro8 hle8 hR8 => ?_
  have hS8 : Sl ro8 2 encPair (some ⟨b8, 0, none⟩) 3 [((2 : Int), (3 : Int)), (1, 2), (5, 5)] := OwnS.sl (e := 40) (k := 2) (enc := encPair) (l := [((2 : Int), (3 : Int)), (1, 2), (5, 5)]) (OwnS.lit (e := 40) (b := b8) (k := 2) (m := 3) (xs := ([((2 : Int), (3 : Int)), (1, 2), (5, 5)]).flatMap encPair) rfl (by simp [maxLen])) (fun _ _ => rfl) hR8
  refine op (e_call rfl fn_16 rfl rfl (Made_c [((2 : Int), (3 : Int)), (1, 2), (5, 5)] _ 3 _ _ hS8 (by decide) (by simp [I64])) fun v9 ro9 L9 hle9 hp9 => ?_)
  obtain ⟨x, R, A, cap, rfl, hR, hO, hLL⟩ := hp9
  subst hLL
  rw [first_mk] at *
  refine op (y (x_move rfl) rfl ?_)
  refine op (y (x_extract rfl rfl) rfl ?_)
  refine op (y (x_extract rfl rfl) rfl ?_)
  refine op (y (x_assign rfl) rfl ?_)
  refine op (y (x_assign rfl) rfl ?_)
  refine nil ?_
  refine n_then ?_
  refine seq ?_
  refine seq ?_
  refine region ?_
  refine op (y (x_move rfl) rfl ?_)
  refine op (y (x_move rfl) rfl ?_)
  refine op (e_call rfl fn_20 rfl rfl (Is_c x _ R _ A cap _ _ hR (List.mem_cons_self) hO (by simp [SP, ltP]) (.refl _) (by simp)) fun v14 ro14 L14 hle14 hp14 => ?_)
  obtain ⟨rfl, rfl⟩ := hp14
  refine op (y (x_not rfl) rfl ?_)
  refine op (y (x_move rfl) rfl ?_)
  refine opG rfl rfl (y (x_move rfl) rfl ?_)
  refine opG rfl rfl (y (x_lenSl sz_26 rfl) rfl ?_)
  refine opG rfl rfl (y ((x_neq rfl rfl).as (v' := .bool false) (by simp)) rfl ?_)
  refine op (y (x_pickF rfl rfl) rfl ?_)
  refine nil ?_
  refine n_then ?_
  refine condF rfl ?_
  refine skip ?_
  refine n_then ?_
  refine seq ?_
  refine region ?_
  refine op (y (x_move rfl) rfl ?_)
  refine op (e_call rfl fn_17 rfl rfl (RClosure_c x _ R _ _ hR (List.mem_cons_self) (by simp)) fun v22 ro22 L22 hle22 hp22 => ?_)
  obtain ⟨x2, C, R2, rfl, hC, hfin, hCl, rfl, hLL⟩ := hp22
  subst hLL
  have hCp : C.Perm [((1 : Int), (2 : Int)), (1, 3), (2, 3), (5, 5)] := (List.perm_ext_iff_of_nodup hC.nodup (by decide)).2 (fun p => (hfin p).trans (first_tg p.1 p.2))
  refine op (y (x_assign rfl) rfl ?_)
  refine nil ?_
  refine n_then ?_
  refine seq ?_
  refine region ?_
  refine op (y (x_move rfl) rfl ?_)
  refine op (y (x_ptrNeNil Try.underlying25 rfl rfl) rfl ?_)
  refine op (y (x_move rfl) rfl ?_)
  refine opG rfl rfl (y (x_move rfl) rfl ?_)
  refine opG rfl rfl (e_call rfl fn_33 rfl rfl (RHas_c x2 C R2 _ _ hC (List.mem_cons_self) 1 3) fun v27 ro27 L27 hle27 hp27 => ?_)
  obtain ⟨rfl, rfl, rfl⟩ := hp27
  rw [decide_eq_true (hCp.mem_iff.2 (by simp))]
  refine op (y (x_pickT rfl rfl) rfl ?_)
  refine op (y (x_move rfl) rfl ?_)
  refine opG rfl rfl (y (x_move rfl) rfl ?_)
  refine opG rfl rfl (e_call rfl fn_31 rfl rfl (RLen_c x2 C R2 _ _ hC (List.mem_cons_self) (by rw [hCp.length_eq]; simp)) fun v31 ro31 L31 hle31 hp31 => ?_)
  obtain ⟨rfl, rfl, rfl⟩ := hp31
  rw [hCp.length_eq]
  refine opG rfl rfl (y ((x_eql rfl rfl).as (v' := .bool true) (by simp)) rfl ?_)
  refine op (y (x_pickT rfl rfl) rfl ?_)
  refine op (y (x_move rfl) rfl ?_)
  refine opG rfl rfl (y (x_move rfl) rfl ?_)
  refine opG rfl rfl (e_call rfl fn_22 rfl rfl (RCircle_c x _ R _ _ hR (by simp) (by simp)) fun v36 ro36 L36 hle36 hp36 => ?_)
  obtain ⟨bb36, rfl, hb36, rfl⟩ := hp36
  obtain rfl : bb36 = true := hb36.2 ⟨5, (first_tg 5 5).2 (by simp)⟩
  refine op (y (x_pickT rfl rfl) rfl ?_)
  refine op (y (x_move rfl) rfl ?_)
  refine opG rfl rfl (y (x_move rfl) rfl ?_)
  refine opG rfl rfl (e_sliceN (zs := [.int .i64 0, .int .i64 0, .int .i64 0]) rfl Try.underlying23 ti_3 tz_3 rfl (by decide) (by decide) (by kernel_rfl) rfl rfl fun b40 => ?_)
  refine ufreeze fun ro40 hle40 hR40 => ?_
  have hS40 : Sl ro40 1 encInt (some ⟨b40, 0, none⟩) 3 [(1 : Int), 2, 3] := OwnS.sl (e := 3) (k := 1) (enc := encInt) (l := [(1 : Int), 2, 3]) (OwnS.lit (e := 3) (b := b40) (k := 1) (m := 3) (xs := ([(1 : Int), 2, 3]).flatMap encInt) rfl (by simp [maxLen])) (fun _ _ => rfl) hR40
  refine opG rfl rfl (e_call rfl fn_19 rfl rfl (RFits_c x _ R _ _ hR (by simp) [(1 : Int), 2, 3] _ 3 hS40) fun v41 ro41 L41 hle41 hp41 => ?_)
  obtain ⟨bb41, rfl, hb41, rfl⟩ := hp41
  obtain rfl : bb41 = true := hb41.2 (fits3 _ 1 2 3 (fun i k h1 h2 => by
    have hk : k = 0 ∨ k = 1 ∨ k = 2 := by omega
    have hi : i = 0 ∨ i = 1 ∨ i = 2 := by omega
    rcases hk with rfl | rfl | rfl <;> rcases hi with rfl | rfl | rfl <;> simp at h1 ⊢))
  refine op (y (x_pickT rfl rfl) rfl ?_)
  refine op (y (x_move rfl) rfl ?_)
  refine opG rfl rfl (y (x_move rfl) rfl ?_)
  refine opG rfl rfl (e_slice1 rfl Try.underlying23 ti_3 rfl rfl (by decide) (by decide) rfl rfl rfl fun b45 => ?_)
  refine ufreeze fun ro45 hle45 hR45 => ?_
  have hS45 : Sl ro45 1 encInt (some ⟨b45, 0, none⟩) 1 [(5 : Int)] := OwnS.sl (e := 3) (k := 1) (enc := encInt) (l := [(5 : Int)]) (OwnS.lit (e := 3) (b := b45) (k := 1) (m := 1) (xs := ([(5 : Int)]).flatMap encInt) rfl (by simp [maxLen])) (fun _ _ => rfl) hR45
  refine opG rfl rfl (e_call rfl fn_19 rfl rfl (RFits_c x _ R _ _ hR (by simp) [(5 : Int)] _ 1 hS45) fun v46 ro46 L46 hle46 hp46 => ?_)
  obtain ⟨bb46, rfl, hb46, rfl⟩ := hp46
  obtain rfl : bb46 = false := by
    cases bb46 with
    | false => rfl
    | true => exact absurd (by simp) (hb46.1 rfl 0 5 rfl 0 (Nat.le_refl _) 5 rfl)
  refine opG rfl rfl (y (x_not rfl) rfl ?_)
  refine op (y (x_pickT rfl rfl) rfl ?_)
  refine op (y (x_move rfl) rfl ?_)
  refine opG rfl rfl (y (x_move rfl) rfl ?_)
  refine opG rfl rfl (e_sliceN (zs := [.int .i64 0, .int .i64 0, .int .i64 0]) rfl Try.underlying23 ti_3 tz_3 rfl (by decide) (by decide) (by kernel_rfl) rfl rfl fun b51 => ?_)
  refine ufreeze fun ro51 hle51 hR51 => ?_
  have hS51 : Sl ro51 1 encInt (some ⟨b51, 0, none⟩) 3 [(2 : Int), 9, 1] := OwnS.sl (e := 3) (k := 1) (enc := encInt) (l := [(2 : Int), 9, 1]) (OwnS.lit (e := 3) (b := b51) (k := 1) (m := 3) (xs := ([(2 : Int), 9, 1]).flatMap encInt) rfl (by simp [maxLen])) (fun _ _ => rfl) hR51
  refine opG rfl rfl (e_call rfl fn_19 rfl rfl (RFits_c x _ R _ _ hR (by simp) [(2 : Int), 9, 1] _ 3 hS51) fun v52 ro52 L52 hle52 hp52 => ?_)
  obtain ⟨bb52, rfl, hb52, rfl⟩ := hp52
  obtain rfl : bb52 = false := by
    cases bb52 with
    | false => rfl
    | true => exact absurd (by simp) (hb52.1 rfl 0 2 rfl 2 (by omega) 1 rfl)
  refine opG rfl rfl (y (x_not rfl) rfl ?_)
  refine op (y (x_pickT rfl rfl) rfl ?_)
  refine op (y (x_assign rfl) rfl ?_)
  refine nil ?_
  refine n_then ?_
  refine ret ?_
  refine drop0 ?_
  refine drop0 ?_
  exact done rfl (.tmp rfl (.nil)) (((((hle8.trans hle9).trans hle14).trans hle36).trans (hle40.trans hle41)).trans ((hle45.trans hle46).trans (hle51.trans hle52))) (L) (⟨_, .refl _, .refl _⟩) (⟨rfl, rfl⟩)

end Go.Proofs.Ytlmeblhcipkgmaa
