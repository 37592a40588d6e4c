/- The chapter's examples of graphs. -/
import Derived.Test.YtlmeblhcipkgmaaGE
namespace Go.Proofs.Ytlmeblhcipkgmaa
open Go Go.U
set_option maxRecDepth 20000
set_option linter.unusedSimpArgs false
set_option linter.unusedVariables false

open Go.RowKit
def exE1 : List Ed := [(1, 2, 1), (2, 3, 1), (3, 1, 2), (3, 2, 1)]
def exN1 : List Int := [1, 2, 3, 7]
def exE2 : List Ed := [(5, 4, 1), (6, 4, 1)]
def exN2 : List Int := [1, 4, 5, 6]
def exL1 : List Ed := [(1, 2, 1), (2, 3, 1), (3, 2, 1), (3, 1, 2)]
def exL2 : List Ed := [(5, 4, 1), (6, 4, 1)]
theorem ex_E1 : mkE exL1 = exE1 := by decide +kernel
theorem ex_N1 : mkN exL1 [7] = exN1 := by decide +kernel
theorem ex_E2 : mkE exL2 = exE2 := by decide +kernel
theorem ex_N2 : mkN exL2 [1] = exN2 := by decide +kernel
theorem ex_t1 : topoR (Ob exE1) exN1 = none := by decide +kernel
theorem ex_t2 : topoR (Ob exE2) exN2 = some [1, 5, 6, 4] := by decide +kernel
theorem ex_c1 : cycR (Ob exE1) exN1 = [1, 2, 3] := by decide +kernel
theorem ex_c2 : cycR (Ob exE2) exN2 = [] := by decide +kernel
theorem ex_p1 : (partsR (Ob exE1) exN1).length = 2 := by decide +kernel

set_option maxHeartbeats 2000000 in
theorem GFirst_c (ro : Ro) (L : List (List Blk)) : CT Try.prog 44 [].toArray ro L (PV (.bool true) L) := by
  refine enter Try.func44 rfl Try.ntmps44 rfl ?_
  refine seq ?_
  refine region ?_
  refine op (y (x_assign rfl) rfl ?_)
  refine nil ?_
  refine n_then ?_
  refine seq ?_
  refine region ?_
  refine op (y (x_build bu_75 rfl rfl) rfl ?_)
  refine op (y (x_build bu_75 rfl rfl) rfl ?_)
  refine op (y (x_build bu_75 rfl rfl) rfl ?_)
  refine op (y (x_build bu_75 rfl rfl) rfl ?_)
  refine op (e_sliceN (zs := [.int .i64 0, .int .i64 0, .int .i64 0, .int .i64 0, .int .i64 0, .int .i64 0, .int .i64 0, .int .i64 0, .int .i64 0, .int .i64 0, .int .i64 0, .int .i64 0]) rfl Try.underlying59 ti_75 tz_75 rfl (by decide) (by decide) (by kernel_rfl) rfl rfl fun b16 => ?_)
  refine ufreeze fun ro16 hle16 hR16 => ?_
  have hS16 : Sl ro16 3 encEdge (some ⟨b16, 0, none⟩) 4 exL1 := OwnS.sl (e := 75) (k := 3) (enc := encEdge) (l := exL1) (OwnS.lit (e := 75) (b := b16) (k := 3) (m := 4) (xs := (exL1).flatMap encEdge) rfl (by simp [maxLen])) (fun _ _ => rfl) hR16
  refine op (e_slice1 rfl Try.underlying23 ti_3 rfl rfl (by decide) (by decide) rfl rfl rfl fun b17 => ?_)
  refine ufreeze fun ro17 hle17 hR17 => ?_
  have hS17 : Sl ro17 1 encInt (some ⟨b17, 0, none⟩) 1 [(7 : Int)] := OwnS.sl (e := 3) (k := 1) (enc := encInt) (l := [(7 : Int)]) (OwnS.lit (e := 3) (b := b17) (k := 1) (m := 1) (xs := ([(7 : Int)]).flatMap encInt) rfl (by simp [maxLen])) (fun _ _ => rfl) hR17
  refine op (e_call rfl fn_45 rfl rfl (GMade_c exL1 _ 4 [7] _ 1 _ _ (hS16.mono hle17) hS17 (by decide) (by decide) (by simp [exL1, I64]) (by simp [I64])) fun v18 ro18 L18 hle18 hp18 => ?_)
  obtain ⟨x, R, A, cap, B, cap2, rfl, hR, hA, hB, hLL⟩ := hp18
  subst hLL
  rw [ex_E1, ex_N1] at *
  refine op (y (x_move rfl) rfl ?_)
  refine op (y (x_extract rfl rfl) rfl ?_)
  refine op (y (x_extract rfl rfl) rfl ?_)
  refine op (e_alloc rfl zc_63 rfl fun b2 => ?_)
  refine op (y (x_assign rfl) rfl ?_)
  first | refine op (e_store 0 rfl rfl ts_63 rfl rfl rfl rfl rfl rfl ?_) | refine op (e_store 1 rfl rfl ts_63 rfl rfl rfl rfl rfl rfl ?_) | refine op (e_store 2 rfl rfl ts_63 rfl rfl rfl rfl rfl rfl ?_) | refine op (e_store 3 rfl rfl ts_63 rfl rfl rfl rfl rfl rfl ?_) | refine op (e_store 4 rfl rfl ts_63 rfl rfl rfl rfl rfl rfl ?_) | refine op (e_store 5 rfl rfl ts_63 rfl rfl rfl rfl rfl rfl ?_)
  refine nil ?_
  refine n_then ?_
  refine seq ?_
  refine region ?_
  refine op (y (x_build bu_75 rfl rfl) rfl ?_)
  refine op (y (x_build bu_75 rfl rfl) rfl ?_)
  refine op (e_sliceN (zs := [.int .i64 0, .int .i64 0, .int .i64 0, .int .i64 0, .int .i64 0, .int .i64 0]) rfl Try.underlying59 ti_75 tz_75 rfl (by decide) (by decide) (by kernel_rfl) rfl rfl fun b24 => ?_)
  refine ufreeze fun ro24 hle24 hR24 => ?_
  have hS24 : Sl ro24 3 encEdge (some ⟨b24, 0, none⟩) 2 exL2 := OwnS.sl (e := 75) (k := 3) (enc := encEdge) (l := exL2) (OwnS.lit (e := 75) (b := b24) (k := 3) (m := 2) (xs := (exL2).flatMap encEdge) rfl (by simp [maxLen])) (fun _ _ => rfl) hR24
  refine op (e_slice1 rfl Try.underlying23 ti_3 rfl rfl (by decide) (by decide) rfl rfl rfl fun b25 => ?_)
  refine ufreeze fun ro25 hle25 hR25 => ?_
  have hS25 : Sl ro25 1 encInt (some ⟨b25, 0, none⟩) 1 [(1 : Int)] := OwnS.sl (e := 3) (k := 1) (enc := encInt) (l := [(1 : Int)]) (OwnS.lit (e := 3) (b := b25) (k := 1) (m := 1) (xs := ([(1 : Int)]).flatMap encInt) rfl (by simp [maxLen])) (fun _ _ => rfl) hR25
  refine op (e_call rfl fn_45 rfl rfl (GMade_c exL2 _ 2 [1] _ 1 _ _ (hS24.mono hle25) hS25 (by decide) (by decide) (by simp [exL2, I64]) (by simp [I64])) fun v26 ro26 L26 hle26 hp26 => ?_)
  obtain ⟨x2, R2, A2, cap2, B2, cap22, rfl, hR2, hA2, hB2, hLL⟩ := hp26
  subst hLL
  rw [ex_E2, ex_N2] at *
  refine op (y (x_move rfl) rfl ?_)
  refine op (y (x_extract rfl rfl) rfl ?_)
  refine op (y (x_extract rfl rfl) rfl ?_)
  refine op (e_alloc rfl zc_63 rfl fun b4 => ?_)
  refine op (y (x_assign rfl) rfl ?_)
  first | refine op (e_store 0 rfl rfl ts_63 rfl rfl rfl rfl rfl rfl ?_) | refine op (e_store 1 rfl rfl ts_63 rfl rfl rfl rfl rfl rfl ?_) | refine op (e_store 2 rfl rfl ts_63 rfl rfl rfl rfl rfl rfl ?_) | refine op (e_store 3 rfl rfl ts_63 rfl rfl rfl rfl rfl rfl ?_) | refine op (e_store 4 rfl rfl ts_63 rfl rfl rfl rfl rfl rfl ?_) | refine op (e_store 5 rfl rfl ts_63 rfl rfl rfl rfl rfl rfl ?_)
  refine nil ?_
  refine n_then ?_
  refine seq ?_
  refine seq ?_
  refine region ?_
  refine op (y (x_move rfl) rfl ?_)
  refine op (y (x_ptrEqNil Try.underlying60 rfl rfl) rfl ?_)
  refine op (y (x_move rfl) rfl ?_)
  refine opG rfl rfl (y (x_move rfl) rfl ?_)
  refine opG rfl rfl (y (x_ptrEqNil Try.underlying60 rfl rfl) rfl ?_)
  refine op (y (x_pickF rfl rfl) rfl ?_)
  refine nil ?_
  refine n_then ?_
  refine condF rfl ?_
  refine skip ?_
  refine n_then ?_
  refine seq ?_
  refine region ?_
  refine op (y (x_move rfl) rfl ?_)
  refine op (e_call rfl fn_46 rfl rfl (GrTopo_c x _ _ R _ _ hR (by simp) (by decide) (by decide) (by decide)) fun v37 ro37 L37 hle37 hp37 => ?_)
  obtain ⟨A37, cap37, R37, hLL, hc37⟩ := hp37
  subst hLL
  obtain ⟨_, rfl, _⟩ | ⟨l37, hl37, _⟩ := hc37
  rotate_left
  · rw [ex_t1] at hl37; cases hl37
  refine drop0 ?_
  refine op (y (x_move rfl) rfl ?_)
  refine op (y (x_extract rfl rfl) rfl ?_)
  refine op (y (x_extract rfl rfl) rfl ?_)
  refine op (y (x_assign rfl) rfl ?_)
  refine op (y (x_assign rfl) rfl ?_)
  refine nil ?_
  refine n_then ?_
  refine seq ?_
  refine region ?_
  refine op (y (x_move rfl) rfl ?_)
  refine op (e_call rfl fn_46 rfl rfl (GrTopo_c x2 _ _ R2 _ _ hR2 (by simp) (by decide) (by decide) (by decide)) fun v42 ro42 L42 hle42 hp42 => ?_)
  obtain ⟨A42, cap42, R42, hLL, hc42⟩ := hp42
  subst hLL
  obtain ⟨hl42, _, _⟩ | ⟨l42, hl42, hll42, rfl, hO42⟩ := hc42
  · rw [ex_t2] at hl42; cases hl42
  rw [ex_t2] at hl42
  obtain rfl : [(1 : Int), 5, 6, 4] = l42 := by simpa using hl42
  refine ufreeze fun ro43 hle43 hR43 => ?_
  have hS42 := OwnS.sl hO42 (fun _ _ => rfl) hR43
  refine op (y (x_move rfl) rfl ?_)
  refine op (y (x_extract rfl rfl) rfl ?_)
  refine op (y (x_extract rfl rfl) rfl ?_)
  refine op (y (x_assign rfl) rfl ?_)
  refine op (y (x_assign rfl) rfl ?_)
  refine nil ?_
  refine n_then ?_
  refine seq ?_
  refine region ?_
  refine op (y (x_move rfl) rfl ?_)
  refine op (e_call rfl fn_47 rfl rfl (GrCycle_c x _ _ R _ _ hR (by simp) (by decide) (by decide) (by decide)) fun v46 ro46 L46 hle46 hp46 => ?_)
  obtain ⟨A46, cap46, R46, rfl, hO46, hLL⟩ := hp46
  subst hLL
  rw [ex_c1] at hO46 ⊢
  refine ufreeze fun ro47 hle47 hR47 => ?_
  have hS46 := OwnS.sl hO46 (fun _ _ => rfl) hR47
  refine op (e_sliceN (zs := [.int .i64 0, .int .i64 0, .int .i64 0]) rfl Try.underlying23 ti_3 tz_3 rfl (by decide) (by decide) (by kernel_rfl) rfl rfl fun b47 => ?_)
  refine ufreeze fun ro4x hle4x hR4x => ?_
  have hS47 : Sl ro4x 1 encInt (some ⟨b47, 0, none⟩) 3 [(1 : Int), 2, 3] := OwnS.sl (e := 3) (k := 1) (enc := encInt) (l := [(1 : Int), 2, 3]) (OwnS.lit (e := 3) (b := b47) (k := 1) (m := 3) (xs := ([(1 : Int), 2, 3]).flatMap encInt) rfl (by simp [maxLen])) (fun _ _ => rfl) hR4x
  refine op (e_call rfl fn_39 rfl rfl (SameInts_c [(1 : Int), 2, 3] A46 cap46 [(1 : Int), 2, 3] _ 3 _ _ (hS46.mono hle4x) hS47) fun v48 ro48 L48 hle48 hp48 => ?_)
  obtain ⟨hv48, hr48, hLL48⟩ := hp48
  subst hr48
  subst hLL48
  obtain rfl : v48 = .bool true := hv48.trans (by simp)
  refine op (y (x_assign rfl) rfl ?_)
  refine nil ?_
  refine n_then ?_
  refine seq ?_
  refine region ?_
  refine op (y (x_move rfl) rfl ?_)
  refine op (e_sliceN (zs := [.int .i64 0, .int .i64 0, .int .i64 0, .int .i64 0]) rfl Try.underlying23 ti_3 tz_3 rfl (by decide) (by decide) (by kernel_rfl) rfl rfl fun b50 => ?_)
  refine ufreeze fun ro50 hle50 hR50 => ?_
  have hS50 : Sl ro50 1 encInt (some ⟨b50, 0, none⟩) 4 [(1 : Int), 5, 6, 4] := OwnS.sl (e := 3) (k := 1) (enc := encInt) (l := [(1 : Int), 5, 6, 4]) (OwnS.lit (e := 3) (b := b50) (k := 1) (m := 4) (xs := ([(1 : Int), 5, 6, 4]).flatMap encInt) rfl (by simp [maxLen])) (fun _ _ => rfl) hR50
  refine op (e_call rfl fn_39 rfl rfl (SameInts_c [(1 : Int), 5, 6, 4] A42 cap42 [(1 : Int), 5, 6, 4] _ 4 _ _ ((((hS42.mono hle46).mono hle47).mono hle4x).mono hle50) hS50) fun v51 ro51 L51 hle51 hp51 => ?_)
  obtain ⟨hv51, hr51, hLL51⟩ := hp51
  subst hr51
  subst hLL51
  obtain rfl : v51 = .bool true := hv51.trans (by simp)
  refine op (y (x_assign rfl) rfl ?_)
  refine nil ?_
  refine n_then ?_
  refine seq ?_
  refine region ?_
  refine op (y (x_move rfl) rfl ?_)
  refine op (y (x_move rfl) rfl ?_)
  refine opG rfl rfl (y (x_move rfl) rfl ?_)
  refine opG rfl rfl (y ((x_not rfl).as (v' := .bool true) rfl) rfl ?_)
  refine op (y (x_pickT rfl rfl) rfl ?_)
  refine op (y (x_move rfl) rfl ?_)
  refine opG rfl rfl (y (x_move rfl) rfl ?_)
  refine op (y (x_pickT rfl rfl) rfl ?_)
  refine op (y (x_move rfl) rfl ?_)
  refine opG rfl rfl (y (x_move rfl) rfl ?_)
  refine op (y (x_pickT rfl rfl) rfl ?_)
  refine op (y (x_move rfl) rfl ?_)
  refine opG rfl rfl (y (x_move rfl) rfl ?_)
  refine opG rfl rfl (e_call rfl fn_48 rfl rfl (GrParts_c x _ _ R _ _ hR (by simp) (by decide) (by decide) (by decide)) fun v65 ro65 L65 hle65 hp65 => ?_)
  obtain ⟨ps, vs, A65, cap65, R65, RI65, rfl, hO65, hI65, hps, hLL⟩ := hp65
  subst hLL
  have hpl : ps.length = 2 := by rw [hps]; exact ex_p1
  rw [hpl]
  refine opG rfl rfl (y (x_lenSl sz_69 rfl) rfl ?_)
  refine opG rfl rfl (y ((x_eql rfl rfl).as (v' := .bool true) rfl) rfl ?_)
  refine op (y (x_pickT rfl rfl) rfl ?_)
  refine op (y (x_move rfl) rfl ?_)
  refine opG rfl rfl (y (x_move rfl) rfl ?_)
  refine opG rfl rfl (e_call rfl fn_47 rfl rfl (GrCycle_c x2 _ _ R2 _ _ hR2 (by simp) (by decide) (by decide) (by decide)) fun v71 ro71 L71 hle71 hp71 => ?_)
  obtain ⟨A71, cap71, R71, rfl, hO71, hLL⟩ := hp71
  subst hLL
  rw [ex_c2]
  refine opG rfl rfl (y (x_lenSl sz_23 rfl) rfl ?_)
  refine opG rfl rfl (y ((x_eql rfl rfl).as (v' := .bool true) rfl) rfl ?_)
  refine op (y (x_pickT rfl rfl) rfl ?_)
  refine op (y (x_assign rfl) rfl ?_)
  refine nil ?_
  refine n_then ?_
  refine ret ?_
  refine drop0 ?_
  refine drop0 ?_
  refine drop0 ?_
  refine drop0 ?_
  refine drop0 ?_
  refine drop0 ?_
  refine drop0 ?_
  exact done rfl (.tmp rfl (.nil)) (((((((((((((((hle16).trans hle17).trans hle18).trans hle24).trans hle25).trans hle26).trans hle37).trans hle42).trans hle43).trans hle46).trans hle47).trans hle4x).trans hle50).trans hle65).trans hle71) (L) (⟨_, .refl _, .refl _⟩) (⟨rfl, rfl⟩)

end Go.Proofs.Ytlmeblhcipkgmaa
