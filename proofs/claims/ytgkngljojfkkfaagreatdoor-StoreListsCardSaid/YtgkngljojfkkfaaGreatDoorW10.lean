/- The walk of chapter 7's examples. -/
import Derived.Test.YtgkngljojfkkfaaGreatDoorW9
namespace Go.Proofs.YtgkngljojfkkfaaGreatDoor
open Go Go.U
set_option maxRecDepth 20000
set_option linter.unusedSimpArgs false
set_option linter.unusedVariables false

def os0 : List Ob := [⟨1, 5⟩, ⟨3, 0⟩]
def st0 : List Sn := os0.map bareSn
theorem hv0 : HVO os0 := by decide
theorem sdo1 : sdoM st0 1 5 0 3 = 0 := by decide
theorem sdo2 : sdoM st0 2 1 0 0 = 4 := by decide
theorem st0_mem {s : Sn} (h : s ∈ st0) : s = ⟨1, 5, none, 0, [], none, 0, []⟩ ∨ s = ⟨3, 0, none, 0, [], none, 0, []⟩ := by
  simpa [st0, os0, bareSn] using h
theorem st0_num {s : Sn} (h : s ∈ st0) : -1000000000000000 ≤ s.num ∧ s.num ≤ 1000000000000000 := by
  rcases st0_mem h with rfl | rfl <;> decide
theorem st0_q {s : Sn} (h : s ∈ st0) : s.q.length ≤ 999999 := by
  rcases st0_mem h with rfl | rfl <;> decide
theorem st0_B {s : Sn} (h : s ∈ st0) : SvB s.v := by
  rcases st0_mem h with rfl | rfl
  · exact ⟨⟨by decide, by decide⟩, ⟨by decide, by decide⟩, fun x hx => (by cases hx), fun x hx => (by cases hx), by decide, by decide⟩
  · exact ⟨⟨by decide, by decide⟩, ⟨by decide, by decide⟩, fun x hx => (by cases hx), fun x hx => (by cases hx), by decide, by decide⟩
theorem num5 : numT 5 = ⟨#[53]⟩ := by
  unfold numT Lib.itoa
  rw [if_neg (by decide), Lib.decDigits, dif_pos (by decide)]
  rfl
theorem num3 : numT 3 = ⟨#[51]⟩ := by
  unfold numT Lib.itoa
  rw [if_neg (by decide), Lib.decDigits, dif_pos (by decide)]
  rfl
theorem key_r5 : keyT ⟨1, 5, [], []⟩ = ⟨#[114, 101, 103, 105, 115, 116, 101, 114, 32, 53]⟩ := by
  have e : restW ⟨1, 5, [], []⟩ = [numT 5] := rfl
  unfold keyT
  rw [e, num5]
  decide +kernel
theorem key_q : keyT ⟨3, 0, [], []⟩ = ⟨#[113, 117, 101, 117, 101]⟩ := by decide +kernel
theorem key_q3 : keyT ⟨3, 0, [3], []⟩ = ⟨#[113, 117, 101, 117, 101, 32, 51]⟩ := by
  have e : restW ⟨3, 0, [3], []⟩ = [numT 3] := rfl
  unfold keyT
  rw [e, num3]
  decide +kernel
theorem key_st0 : storeT st0 = ⟨#[114, 101, 103, 105, 115, 116, 101, 114, 32, 53, 59, 32, 113, 117, 101, 117, 101]⟩ := by
  have e : kTs st0 = [keyT ⟨1, 5, [], []⟩, keyT ⟨3, 0, [], []⟩] := rfl
  unfold storeT
  rw [e, key_r5, key_q]
  decide +kernel
theorem st1 {l' : List Sn} {r g : Int} (h : ∃ s s' : Sn, atL st0 1 = some s ∧ (s'.v, r, g) = deedM 5 0 3 s.v ∧ l' = setL st0 1 s') : r = 1 ∧ l'.length = 2 ∧ (∀ s ∈ l', SvB s.v) ∧ storeT l' = ⟨#[114, 101, 103, 105, 115, 116, 101, 114, 32, 53, 59, 32, 113, 117, 101, 117, 101, 32, 51]⟩ := by
  obtain ⟨s, s', h1, h2, rfl⟩ := h
  have e1 : atL st0 1 = some ⟨3, 0, none, 0, [], none, 0, []⟩ := rfl
  rw [e1] at h1
  cases h1
  have e2 : deedM 5 0 3 (Sn.v ⟨3, 0, none, 0, [], none, 0, []⟩) = (⟨3, 0, [3], []⟩, 1, 0) := rfl
  rw [e2] at h2
  simp only [Prod.mk.injEq] at h2
  obtain ⟨hv, rfl, rfl⟩ := h2
  have e3 : setL st0 1 s' = [⟨1, 5, none, 0, [], none, 0, []⟩, s'] := rfl
  refine ⟨rfl, by rw [e3]; rfl, fun y hy => ?_, ?_⟩
  · rw [e3] at hy
    simp only [List.mem_cons, List.not_mem_nil, or_false] at hy
    rcases hy with rfl | rfl
    · exact st0_B (by simp [st0, os0, bareSn])
    · rw [hv]
      exact ⟨⟨by decide, by decide⟩, ⟨by decide, by decide⟩, fun x hx => (by simp at hx; subst hx; exact ⟨by decide, by decide⟩), fun x hx => (by cases hx), by decide, by decide⟩
  · have e4 : kTs (setL st0 1 s') = [keyT ⟨1, 5, [], []⟩, keyT s'.v] := rfl
    unfold storeT
    rw [e4, hv, key_r5, key_q3]
    decide +kernel

theorem first7_c (er : Nat → Addr) (ro : Ro) (L : List (List Blk)) (hG : Glob er ro) :
    CT Tryz.prog 20 [].toArray ro L (PV (.bool true) L) := by
  refine enter Tryz.func20 rfl Tryz.ntmps20 rfl ?_
  refine seq ?_
  refine region ?_
  refine op (y (x_assign rfl) rfl ?_)
  refine nil ?_
  refine n_then ?_
  refine seq ?_
  refine region ?_
  refine op (y (x_build bu_35 rfl rfl) rfl ?_)
  refine op (y (x_build bu_35 rfl rfl) rfl ?_)
  refine op (e_sliceN (zs := [.int .i64 0, .int .i64 0, .int .i64 0, .int .i64 0]) rfl Tryz.underlying60 ti_35 tz_35 rfl (by decide) (by decide) (by kernel_rfl) rfl rfl fun b18 => ?_)
  refine ufreeze fun rz18 hz18 hzR18 => ?_
  have hSz18 : Sl rz18 2 encOb (some ⟨b18, 0, none⟩) 2 os0 := OwnS.sl (e := 35) (k := 2) (l := os0) (enc := encOb) (OwnS.lit rfl (by decide)) enc_ob hzR18
  have hG1 := hG.mono hz18
  refine op (e_call rfl fn_33 rfl rfl (SNew_c os0 _ _ _ _ hSz18 (fun o ho => by simp [os0] at ho; rcases ho with rfl | rfl <;> exact ⟨by decide, by decide⟩) er hG1) fun v19 ro19 L19 hle19 hp19 => ?_)
  obtain ⟨A19, c19, l19, ev19, rfl, hev19, rfl, hS19, hc19⟩ := hp19
  obtain ⟨hn19, rfl⟩ : isNilI ev19 = true ∧ l19 = st0 := by rcases hc19 with ⟨h1, _, h2⟩ | ⟨_, h1, _⟩; exact ⟨h1, h2⟩; exact absurd hv0 h1
  obtain rfl := isnil hev19 hn19
  have hG2 := hG1.mono hle19
  refine op (y (x_move rfl) rfl ?_)
  refine op (y (x_extract rfl rfl) rfl ?_)
  refine op (y (x_extract rfl rfl) rfl ?_)
  refine op (e_alloc rfl zc_66 rfl fun b1 => ?_)
  first | refine op (e_store 0 rfl rfl ts_66 rfl rfl rfl rfl rfl rfl ?_) | refine op (e_store 1 rfl rfl ts_66 rfl rfl rfl rfl rfl rfl ?_) | refine op (e_store 2 rfl rfl ts_66 rfl rfl rfl rfl rfl rfl ?_) | refine op (e_store 3 rfl rfl ts_66 rfl rfl rfl rfl rfl rfl ?_) | refine op (e_store 4 rfl rfl ts_66 rfl rfl rfl rfl rfl rfl ?_) | refine op (e_store 5 rfl rfl ts_66 rfl rfl rfl rfl rfl rfl ?_) | refine op (e_store 6 rfl rfl ts_66 rfl rfl rfl rfl rfl rfl ?_) | refine op (e_store 7 rfl rfl ts_66 rfl rfl rfl rfl rfl rfl ?_) | refine op (e_store 8 rfl rfl ts_66 rfl rfl rfl rfl rfl rfl ?_) | refine op (e_store 9 rfl rfl ts_66 rfl rfl rfl rfl rfl rfl ?_)
  refine op (y (x_assign rfl) rfl ?_)
  refine nil ?_
  refine n_then ?_
  refine seq ?_
  refine region ?_
  refine op (y ((by first | exact x_loadOwn 0 _ ag_66 rfl rfl rfl rfl | exact x_loadOwn 1 _ ag_66 rfl rfl rfl rfl | exact x_loadOwn 2 _ ag_66 rfl rfl rfl rfl | exact x_loadOwn 3 _ ag_66 rfl rfl rfl rfl | exact x_loadOwn 4 _ ag_66 rfl rfl rfl rfl | exact x_loadOwn 5 _ ag_66 rfl rfl rfl rfl | exact x_loadOwn 6 _ ag_66 rfl rfl rfl rfl | exact x_loadOwn 7 _ ag_66 rfl rfl rfl rfl | exact x_loadOwn 8 _ ag_66 rfl rfl rfl rfl | exact x_loadOwn 9 _ ag_66 rfl rfl rfl rfl | exact x_loadOwn 10 _ ag_66 rfl rfl rfl rfl | exact x_loadOwn 11 _ ag_66 rfl rfl rfl rfl)) rfl ?_)
  refine op (e_call rfl fn_37 rfl rfl (SDo_c st0 A19 c19 1 5 0 3 er _ _ hG2 hS19 (by decide) (fun s hs => st0_num hs) (fun s hat _ ro' L' hle => by have e : deedF 5 = 80 := (by decide) ; rw [e] ; exact Enq_c s 0 3 ro' L' ((hS19.ok s (atL_mem hat)).mono hle) (st0_q (atL_mem hat)))) fun v24 ro24 L24 hle24 hp24 => ?_)
  obtain ⟨A24, c24, l24, r24, g24, rfl, hS24, rfl, hc24⟩ := hp24
  obtain ⟨rfl, hl24, hB24, hK24⟩ := st1 (by rcases hc24 with ⟨_, h⟩ | ⟨h, _⟩; exact h; exact absurd sdo1 h)
  rw [sdo1]
  have hG3 := hG2.mono hle24
  refine op (y (x_move rfl) rfl ?_)
  refine op (y (x_extract rfl rfl) rfl ?_)
  refine op (y (x_extract rfl rfl) rfl ?_)
  refine op (y (x_extract rfl rfl) rfl ?_)
  refine op (y (x_extract rfl rfl) rfl ?_)
  refine op (e_alloc rfl zc_66 rfl fun b3 => ?_)
  first | refine op (e_store 0 rfl rfl ts_66 rfl rfl rfl rfl rfl rfl ?_) | refine op (e_store 1 rfl rfl ts_66 rfl rfl rfl rfl rfl rfl ?_) | refine op (e_store 2 rfl rfl ts_66 rfl rfl rfl rfl rfl rfl ?_) | refine op (e_store 3 rfl rfl ts_66 rfl rfl rfl rfl rfl rfl ?_) | refine op (e_store 4 rfl rfl ts_66 rfl rfl rfl rfl rfl rfl ?_) | refine op (e_store 5 rfl rfl ts_66 rfl rfl rfl rfl rfl rfl ?_) | refine op (e_store 6 rfl rfl ts_66 rfl rfl rfl rfl rfl rfl ?_) | refine op (e_store 7 rfl rfl ts_66 rfl rfl rfl rfl rfl rfl ?_) | refine op (e_store 8 rfl rfl ts_66 rfl rfl rfl rfl rfl rfl ?_) | refine op (e_store 9 rfl rfl ts_66 rfl rfl rfl rfl rfl rfl ?_)
  refine op (y (x_assign rfl) rfl ?_)
  refine op (y (x_assign rfl) rfl ?_)
  refine op (y (x_assign rfl) rfl ?_)
  refine nil ?_
  refine n_then ?_
  refine seq ?_
  refine region ?_
  refine op (y ((by first | exact x_loadOwn 0 _ ag_66 rfl rfl rfl rfl | exact x_loadOwn 1 _ ag_66 rfl rfl rfl rfl | exact x_loadOwn 2 _ ag_66 rfl rfl rfl rfl | exact x_loadOwn 3 _ ag_66 rfl rfl rfl rfl | exact x_loadOwn 4 _ ag_66 rfl rfl rfl rfl | exact x_loadOwn 5 _ ag_66 rfl rfl rfl rfl | exact x_loadOwn 6 _ ag_66 rfl rfl rfl rfl | exact x_loadOwn 7 _ ag_66 rfl rfl rfl rfl | exact x_loadOwn 8 _ ag_66 rfl rfl rfl rfl | exact x_loadOwn 9 _ ag_66 rfl rfl rfl rfl | exact x_loadOwn 10 _ ag_66 rfl rfl rfl rfl | exact x_loadOwn 11 _ ag_66 rfl rfl rfl rfl)) rfl ?_)
  refine op (e_call rfl fn_37 rfl rfl (SDo_c st0 A19 c19 2 1 0 0 er _ _ hG3 (hS19.mono hle24) (by decide) (fun s hs => st0_num hs) (fun s hat _ ro' L' hle => by cases hat)) fun v31 ro31 L31 hle31 hp31 => ?_)
  obtain ⟨A31, c31, l31, r31, g31, rfl, hS31, rfl, hc31⟩ := hp31
  rw [sdo2]
  have hG4 := hG3.mono hle31
  refine op (y (x_move rfl) rfl ?_)
  refine op (y (x_extract rfl rfl) rfl ?_)
  refine op (y (x_extract rfl rfl) rfl ?_)
  refine op (y (x_extract rfl rfl) rfl ?_)
  refine op (y (x_extract rfl rfl) rfl ?_)
  refine op (e_alloc rfl zc_66 rfl fun b7 => ?_)
  first | refine op (e_store 0 rfl rfl ts_66 rfl rfl rfl rfl rfl rfl ?_) | refine op (e_store 1 rfl rfl ts_66 rfl rfl rfl rfl rfl rfl ?_) | refine op (e_store 2 rfl rfl ts_66 rfl rfl rfl rfl rfl rfl ?_) | refine op (e_store 3 rfl rfl ts_66 rfl rfl rfl rfl rfl rfl ?_) | refine op (e_store 4 rfl rfl ts_66 rfl rfl rfl rfl rfl rfl ?_) | refine op (e_store 5 rfl rfl ts_66 rfl rfl rfl rfl rfl rfl ?_) | refine op (e_store 6 rfl rfl ts_66 rfl rfl rfl rfl rfl rfl ?_) | refine op (e_store 7 rfl rfl ts_66 rfl rfl rfl rfl rfl rfl ?_) | refine op (e_store 8 rfl rfl ts_66 rfl rfl rfl rfl rfl rfl ?_) | refine op (e_store 9 rfl rfl ts_66 rfl rfl rfl rfl rfl rfl ?_)
  refine op (y (x_assign rfl) rfl ?_)
  refine op (y (x_assign rfl) rfl ?_)
  refine op (y (x_assign rfl) rfl ?_)
  refine nil ?_
  refine n_then ?_
  refine seq ?_
  refine region ?_
  refine op (e_sliceN (zs := [.int .i64 0, .int .i64 0]) rfl Tryz.underlying26 ti_3 tz_3 rfl (by decide) (by decide) (by kernel_rfl) rfl rfl fun b36 => ?_)
  refine op (e_call rfl fn_22 rfl rfl (PLO.frozen int_len (OfI_o [1, 2] (some ⟨b36, 0, none⟩) 2 _ _ (OwnS.src (e := 3) (cap := 2) (R := [(b36, _)]) (OwnS.lit rfl (by decide)) (fun q hq => List.mem_append_left _ hq)) (by decide))) fun v37 ro37 L37 hle37 hp37 => ?_)
  obtain ⟨A37, c37, rfl, hS37, rfl⟩ := hp37
  refine op (e_call rfl fn_23 rfl rfl (WithI_c [1, 2] A37 c37 1 7 _ _ hS37 (by decide)) fun v38 ro38 L38 hle38 hp38 => ?_)
  obtain ⟨A38, c38, rfl, hS38, rfl⟩ := hp38
  refine op (e_call rfl fn_27 rfl rfl (PO.frozen int_len (AllI_o (setL [1, 2] 1 7) A38 c38 _ _ hS38 (by decide))) fun v39 ro39 L39 hle39 hp39 => ?_)
  obtain ⟨A39, c39, rfl, hS39, rfl⟩ := hp39
  refine op (y (x_assign rfl) rfl ?_)
  refine nil ?_
  refine n_then ?_
  refine seq ?_
  refine region ?_
  refine op (e_slice1 rfl Tryz.underlying26 ti_3 rfl rfl (by decide) (by decide) rfl rfl rfl fun b40 => ?_)
  refine op (e_call rfl fn_22 rfl rfl (PLO.frozen int_len (OfI_o [1] (some ⟨b40, 0, none⟩) 1 _ _ (OwnS.src (e := 3) (cap := 1) (R := [(b40, _)]) (OwnS.lit rfl (by decide)) (fun q hq => List.mem_append_left _ hq)) (by decide))) fun v41 ro41 L41 hle41 hp41 => ?_)
  obtain ⟨A41, c41, rfl, hS41, rfl⟩ := hp41
  refine op (e_call rfl fn_24 rfl rfl (PLO.frozen int_len (AndI_o [1] A41 c41 _ _ hS41 (by decide) 2)) fun v42 ro42 L42 hle42 hp42 => ?_)
  obtain ⟨A42, c42, rfl, hS42, rfl⟩ := hp42
  refine op (e_call rfl fn_27 rfl rfl (PO.frozen int_len (AllI_o ([1] ++ [2]) A42 c42 _ _ hS42 (by decide))) fun v43 ro43 L43 hle43 hp43 => ?_)
  obtain ⟨A43, c43, rfl, hS43, rfl⟩ := hp43
  refine op (y (x_assign rfl) rfl ?_)
  refine nil ?_
  refine n_then ?_
  refine seq ?_
  refine region ?_
  refine op (y (x_move rfl) rfl ?_)
  refine op (e_sliceN (zs := [.int .i64 0, .int .i64 0]) rfl Tryz.underlying26 ti_3 tz_3 rfl (by decide) (by decide) (by kernel_rfl) rfl rfl fun b45 => ?_)
  refine ufreeze fun rz45 hz45 hzR45 => ?_
  have hSz45 : Sl rz45 1 encInt (some ⟨b45, 0, none⟩) 2 [1, 7] := OwnS.sl (e := 3) (k := 1) (l := [1, 7]) (enc := encInt) (OwnS.lit rfl (by decide)) int_len hzR45
  refine op (e_call rfl fn_26 rfl rfl (SameInts_c (setL [1, 2] 1 7) _ _ [1, 7] _ _ _ _ (hS39.mono (hle41.trans (hle42.trans (hle43.trans hz45)))) hSz45) fun v46 ro46 L46 hle46 hp46 => ?_)
  obtain ⟨rfl, rfl, rfl⟩ := hp46
  refine said 46 (.bool true) rfl (congrArg Value.bool (by decide)) ?_
  refine op (y (x_assign rfl) rfl ?_)
  refine nil ?_
  refine n_then ?_
  refine seq ?_
  refine region ?_
  refine op (y (x_move rfl) rfl ?_)
  refine op (e_sliceN (zs := [.int .i64 0, .int .i64 0]) rfl Tryz.underlying26 ti_3 tz_3 rfl (by decide) (by decide) (by kernel_rfl) rfl rfl fun b48 => ?_)
  refine ufreeze fun rz48 hz48 hzR48 => ?_
  have hSz48 : Sl rz48 1 encInt (some ⟨b48, 0, none⟩) 2 [1, 2] := OwnS.sl (e := 3) (k := 1) (l := [1, 2]) (enc := encInt) (OwnS.lit rfl (by decide)) int_len hzR48
  refine op (e_call rfl fn_26 rfl rfl (SameInts_c ([1] ++ [2]) _ _ [1, 2] _ _ _ _ (hS43.mono (hz45.trans (hle46.trans hz48))) hSz48) fun v49 ro49 L49 hle49 hp49 => ?_)
  obtain ⟨rfl, rfl, rfl⟩ := hp49
  refine said 49 (.bool true) rfl (congrArg Value.bool (by decide)) ?_
  refine op (y (x_assign rfl) rfl ?_)
  refine nil ?_
  refine n_then ?_
  refine seq ?_
  have leA := hle37.trans (hle38.trans (hle39.trans (hle41.trans (hle42.trans (hle43.trans (hz45.trans hz48))))))
  have hG5 := hG4.mono leA
  have hS24x := hS24.mono (hle31.trans leA)
  have hS19x := hS19.mono (hle24.trans (hle31.trans leA))
  have hGc := hG5.err 4 (by omega) (by omega) (by omega)
  refine region ?_
  refine op (y (x_move rfl) rfl ?_)
  refine op (y (x_ifEqNil Tryz.underlying31 rfl (IfV.nil)) rfl ?_)
  refine said 51 (.bool true) rfl (rfl) ?_
  refine op (y (x_move rfl) rfl ?_)
  refine opG rfl rfl (y (x_move rfl) rfl ?_)
  refine opG rfl rfl (y (x_ifEqNil Tryz.underlying31 rfl (IfV.nil)) rfl ?_)
  refine said 54 (.bool true) rfl (rfl) ?_
  refine op (y (x_pickT rfl rfl) rfl ?_)
  refine op (y (x_move rfl) rfl ?_)
  refine opG rfl rfl (y (x_move rfl) rfl ?_)
  refine opG rfl rfl (y (x_eql rfl rfl) rfl ?_)
  refine said 58 (.bool true) rfl (rfl) ?_
  refine op (y (x_pickT rfl rfl) rfl ?_)
  refine op (y (x_move rfl) rfl ?_)
  refine opG rfl rfl (y ((by first | exact x_loadOwn 0 _ ag_66 rfl rfl rfl rfl | exact x_loadOwn 1 _ ag_66 rfl rfl rfl rfl | exact x_loadOwn 2 _ ag_66 rfl rfl rfl rfl | exact x_loadOwn 3 _ ag_66 rfl rfl rfl rfl | exact x_loadOwn 4 _ ag_66 rfl rfl rfl rfl | exact x_loadOwn 5 _ ag_66 rfl rfl rfl rfl | exact x_loadOwn 6 _ ag_66 rfl rfl rfl rfl | exact x_loadOwn 7 _ ag_66 rfl rfl rfl rfl | exact x_loadOwn 8 _ ag_66 rfl rfl rfl rfl | exact x_loadOwn 9 _ ag_66 rfl rfl rfl rfl | exact x_loadOwn 10 _ ag_66 rfl rfl rfl rfl | exact x_loadOwn 11 _ ag_66 rfl rfl rfl rfl)) rfl ?_)
  refine opG rfl rfl (e_call rfl fn_40 rfl rfl (SKey_c l24 A24 c24 er _ _ hG5 hS24x hB24 (by omega)) fun v62 ro62 L62 hle62 hp62 => ?_)
  obtain ⟨rfl, rfl⟩ := hp62
  rw [hK24]
  refine opG rfl rfl (y (x_seql rfl rfl) rfl ?_)
  refine said 63 (.bool true) rfl (congrArg Value.bool (by simp)) ?_
  refine op (y (x_pickT rfl rfl) rfl ?_)
  refine op (y (x_move rfl) rfl ?_)
  refine opG rfl rfl (y ((by first | exact x_loadOwn 0 _ ag_66 rfl rfl rfl rfl | exact x_loadOwn 1 _ ag_66 rfl rfl rfl rfl | exact x_loadOwn 2 _ ag_66 rfl rfl rfl rfl | exact x_loadOwn 3 _ ag_66 rfl rfl rfl rfl | exact x_loadOwn 4 _ ag_66 rfl rfl rfl rfl | exact x_loadOwn 5 _ ag_66 rfl rfl rfl rfl | exact x_loadOwn 6 _ ag_66 rfl rfl rfl rfl | exact x_loadOwn 7 _ ag_66 rfl rfl rfl rfl | exact x_loadOwn 8 _ ag_66 rfl rfl rfl rfl | exact x_loadOwn 9 _ ag_66 rfl rfl rfl rfl | exact x_loadOwn 10 _ ag_66 rfl rfl rfl rfl | exact x_loadOwn 11 _ ag_66 rfl rfl rfl rfl)) rfl ?_)
  refine opG rfl rfl (e_call rfl fn_40 rfl rfl (SKey_c st0 A19 c19 er _ _ (hG5.mono hle62) (hS19x.mono hle62) (fun s hs => st0_B hs) (by decide)) fun v67 ro67 L67 hle67 hp67 => ?_)
  obtain ⟨rfl, rfl⟩ := hp67
  rw [key_st0]
  refine opG rfl rfl (y (x_seql rfl rfl) rfl ?_)
  refine said 68 (.bool true) rfl (congrArg Value.bool (by simp)) ?_
  refine op (y (x_pickT rfl rfl) rfl ?_)
  refine op (y (x_move rfl) rfl ?_)
  refine opG rfl rfl (y (x_move rfl) rfl ?_)
  refine opG rfl rfl (y (x_load1 ag_31 rfl (Cell.ofRo ((hle62.trans hle67).cell hGc))) rfl ?_)
  refine opG rfl rfl (y (x_ifSame Tryz.underlying31 Tryz.underlying242 ti_242 (by kernel_rfl) ti_244 rfl rfl) rfl ?_)
  refine said 73 (.bool true) rfl (by simp) ?_
  refine op (y (x_pickT rfl rfl) rfl ?_)
  refine op (y (x_move rfl) rfl ?_)
  refine opG rfl rfl (y (x_move rfl) rfl ?_)
  refine op (y (x_pickT rfl rfl) rfl ?_)
  refine op (y (x_move rfl) rfl ?_)
  refine opG rfl rfl (y (x_move rfl) rfl ?_)
  refine op (y (x_pickT rfl rfl) rfl ?_)
  refine op (y (x_assign rfl) rfl ?_)
  refine nil ?_
  refine n_then ?_
  refine ret ?_
  exact done rfl (.tmp rfl (.nil)) (hz18.trans (hle19.trans (hle24.trans (hle31.trans (leA.trans (hle62.trans hle67)))))) (L) (subF (by (repeat (first | exact List.Sublist.refl _ | apply List.Sublist.cons_cons | apply List.Sublist.cons)); done)) (⟨rfl, rfl⟩)

end Go.Proofs.YtgkngljojfkkfaaGreatDoor
