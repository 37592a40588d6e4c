/- The walk of the chapter's examples. -/
import Derived.Test.YtijafcilfefafaaDoorV19
namespace Go.Proofs.YtijafcilfefafaaDoor
open Go Go.U
set_option maxRecDepth 20000
set_option linter.unusedSimpArgs false
set_option linter.unusedVariables false

def h0 : Hi := ⟨[⟨1, 0⟩, ⟨3, 0⟩], [⟨1, 1, 0, 0, 0, 0, 0, 0⟩, ⟨1, 2, 1, 0, 0, 0, 0, 0⟩, ⟨2, 1, 0, 0, 2, 0, 0, 0⟩, ⟨3, 1, 0, 0, 0, 0, 0, 1⟩]⟩
theorem hI0 : HI h0 := ⟨by intro o ho; simp [h0] at ho; rcases ho with rfl | rfl <;> exact ⟨⟨by decide, by decide⟩, ⟨by decide, by decide⟩⟩, by
  intro e he
  simp [h0] at he
  rcases he with rfl | rfl | rfl | rfl <;> exact ⟨⟨by decide, by decide⟩, ⟨by decide, by decide⟩, ⟨by decide, by decide⟩, ⟨by decide, by decide⟩, ⟨by decide, by decide⟩, ⟨by decide, by decide⟩, ⟨by decide, by decide⟩, ⟨by decide, by decide⟩⟩⟩
theorem h0_drop : (dropM h0 1 0).map (fun r => r.es.length) = some 2 := by decide +kernel
theorem h0_none : dropM h0 3 0 = none := by decide +kernel
theorem h0_noTx : noTx h0 3 = true := by decide +kernel
theorem h0_taken : (takenM h0).isSome = true := by decide +kernel
theorem h0_spare : (spareH h0).os.length = 1 := by decide +kernel
theorem h0_sub : SubH (pre h0 2) h0 := by decide +kernel
theorem h0_nosub : ¬ SubH h0 (pre h0 2) := by decide +kernel
theorem h0_pre : (pre h0 2).es.length = 2 := by decide +kernel
theorem h0_wo : (woT h0 1).es.length = 1 := by decide +kernel

theorem first_c (er : Nat → Addr) (ro : Ro) (L : List (List Blk)) (hG : Glob er ro) :
    CT Tryd.prog 8 [].toArray ro L (PV (.bool true) L) := by
  refine enter Tryd.func8 rfl Tryd.ntmps8 rfl ?_
  refine seq ?_
  refine region ?_
  refine op (y (x_assign rfl) rfl ?_)
  refine nil ?_
  refine n_then ?_
  refine seq ?_
  refine region ?_
  refine op (y (x_build bu_31 rfl rfl) rfl ?_)
  refine op (y (x_build bu_31 rfl rfl) rfl ?_)
  refine op (e_sliceN (zs := [.int .i64 0, .int .i64 0, .int .i64 0, .int .i64 0]) rfl Tryd.underlying22 ti_31 tz_31 rfl (by decide) (by decide) (by kernel_rfl) rfl rfl fun b12 => ?_)
  refine ufreeze fun rz12 hlz12 hRz12 => ?_
  have hSz12 : Sl rz12 2 encOb (some ⟨b12, 0, none⟩) 2 h0.os := OwnS.sl (e := 31) (k := 2) (l := h0.os) (enc := encOb) (OwnS.lit rfl (by decide)) enc_ob hRz12
  refine op (y (x_build bu_34 rfl rfl) rfl ?_)
  refine op (y (x_build bu_34 rfl rfl) rfl ?_)
  refine op (y (x_build bu_34 rfl rfl) rfl ?_)
  refine op (y (x_build bu_34 rfl rfl) rfl ?_)
  refine op (e_sliceN (zs := [.int .i64 0, .int .i64 0, .int .i64 0, .int .i64 0, .int .i64 0, .int .i64 0, .int .i64 0, .int .i64 0, .int .i64 0, .int .i64 0, .int .i64 0, .int .i64 0, .int .i64 0, .int .i64 0, .int .i64 0, .int .i64 0, .int .i64 0, .int .i64 0, .int .i64 0, .int .i64 0, .int .i64 0, .int .i64 0, .int .i64 0, .int .i64 0, .int .i64 0, .int .i64 0, .int .i64 0, .int .i64 0, .int .i64 0, .int .i64 0, .int .i64 0, .int .i64 0]) rfl Tryd.underlying23 ti_34 tz_34 rfl (by decide) (by decide) (by kernel_rfl) rfl rfl fun b17 => ?_)
  refine ufreeze fun rz17 hlz17 hRz17 => ?_
  have hSz17 : Sl rz17 8 encEv (some ⟨b17, 0, none⟩) 4 h0.es := OwnS.sl (e := 34) (k := 8) (l := h0.es) (enc := encEv) (OwnS.lit rfl (by decide)) enc_ev hRz17
  have hS0 : SH rz17 (some ⟨b12, 0, none⟩) 2 (some ⟨b17, 0, none⟩) 4 h0 := ⟨hSz12.mono hlz17, hSz17⟩
  have hG0 := hG.mono (hlz12.trans hlz17)
  refine op (y (x_build bu_25 rfl rfl) rfl ?_)
  refine op (e_alloc rfl zc_25 rfl fun b1 => ?_)
  first | refine op (e_store 0 rfl rfl ts_25 rfl rfl rfl rfl rfl rfl ?_) | refine op (e_store 1 rfl rfl ts_25 rfl rfl rfl rfl rfl rfl ?_) | refine op (e_store 2 rfl rfl ts_25 rfl rfl rfl rfl rfl rfl ?_) | refine op (e_store 3 rfl rfl ts_25 rfl rfl rfl rfl rfl rfl ?_) | refine op (e_store 4 rfl rfl ts_25 rfl rfl rfl rfl rfl rfl ?_) | refine op (e_store 5 rfl rfl ts_25 rfl rfl rfl rfl rfl rfl ?_) | refine op (e_store 6 rfl rfl ts_25 rfl rfl rfl rfl rfl rfl ?_) | refine op (e_store 7 rfl rfl ts_25 rfl rfl rfl rfl rfl rfl ?_) | refine op (e_store 8 rfl rfl ts_25 rfl rfl rfl rfl rfl rfl ?_) | refine op (e_store 9 rfl rfl ts_25 rfl rfl rfl rfl rfl rfl ?_)
  refine nil ?_
  refine n_then ?_
  refine seq ?_
  refine region ?_
  refine op (y ((by first | exact x_loadOwn 0 _ ag_25 rfl rfl rfl rfl | exact x_loadOwn 1 _ ag_25 rfl rfl rfl rfl | exact x_loadOwn 2 _ ag_25 rfl rfl rfl rfl | exact x_loadOwn 3 _ ag_25 rfl rfl rfl rfl | exact x_loadOwn 4 _ ag_25 rfl rfl rfl rfl | exact x_loadOwn 5 _ ag_25 rfl rfl rfl rfl | exact x_loadOwn 6 _ ag_25 rfl rfl rfl rfl | exact x_loadOwn 7 _ ag_25 rfl rfl rfl rfl | exact x_loadOwn 8 _ ag_25 rfl rfl rfl rfl | exact x_loadOwn 9 _ ag_25 rfl rfl rfl rfl | exact x_loadOwn 10 _ ag_25 rfl rfl rfl rfl | exact x_loadOwn 11 _ ag_25 rfl rfl rfl rfl)) rfl ?_)
  refine op (e_call rfl fn_13 rfl rfl (PHo.frozen (Prefix_o h0 _ _ _ _ _ _ hS0 2 (by decide) (by decide))) fun v20 ro20 L20 hle20 hp20 => ?_)
  obtain ⟨pA, pc, pB, pd, rfl, hSp, rfl⟩ := hp20
  refine op (e_alloc rfl zc_25 rfl fun b2 => ?_)
  first | refine op (e_store 0 rfl rfl ts_25 rfl rfl rfl rfl rfl rfl ?_) | refine op (e_store 1 rfl rfl ts_25 rfl rfl rfl rfl rfl rfl ?_) | refine op (e_store 2 rfl rfl ts_25 rfl rfl rfl rfl rfl rfl ?_) | refine op (e_store 3 rfl rfl ts_25 rfl rfl rfl rfl rfl rfl ?_) | refine op (e_store 4 rfl rfl ts_25 rfl rfl rfl rfl rfl rfl ?_) | refine op (e_store 5 rfl rfl ts_25 rfl rfl rfl rfl rfl rfl ?_) | refine op (e_store 6 rfl rfl ts_25 rfl rfl rfl rfl rfl rfl ?_) | refine op (e_store 7 rfl rfl ts_25 rfl rfl rfl rfl rfl rfl ?_) | refine op (e_store 8 rfl rfl ts_25 rfl rfl rfl rfl rfl rfl ?_) | refine op (e_store 9 rfl rfl ts_25 rfl rfl rfl rfl rfl rfl ?_)
  refine nil ?_
  refine n_then ?_
  refine seq ?_
  refine region ?_
  refine op (y ((by first | exact x_loadOwn 0 _ ag_25 rfl rfl rfl rfl | exact x_loadOwn 1 _ ag_25 rfl rfl rfl rfl | exact x_loadOwn 2 _ ag_25 rfl rfl rfl rfl | exact x_loadOwn 3 _ ag_25 rfl rfl rfl rfl | exact x_loadOwn 4 _ ag_25 rfl rfl rfl rfl | exact x_loadOwn 5 _ ag_25 rfl rfl rfl rfl | exact x_loadOwn 6 _ ag_25 rfl rfl rfl rfl | exact x_loadOwn 7 _ ag_25 rfl rfl rfl rfl | exact x_loadOwn 8 _ ag_25 rfl rfl rfl rfl | exact x_loadOwn 9 _ ag_25 rfl rfl rfl rfl | exact x_loadOwn 10 _ ag_25 rfl rfl rfl rfl | exact x_loadOwn 11 _ ag_25 rfl rfl rfl rfl)) rfl ?_)
  refine op (e_call rfl fn_15 rfl rfl (PHo.frozen (Without_o h0 _ _ _ _ _ _ (hS0.mono hle20) 1 (by decide) (by decide))) fun v22 ro22 L22 hle22 hp22 => ?_)
  obtain ⟨wA, wc, wB, wd, rfl, hSw, rfl⟩ := hp22
  refine op (e_alloc rfl zc_25 rfl fun b3 => ?_)
  first | refine op (e_store 0 rfl rfl ts_25 rfl rfl rfl rfl rfl rfl ?_) | refine op (e_store 1 rfl rfl ts_25 rfl rfl rfl rfl rfl rfl ?_) | refine op (e_store 2 rfl rfl ts_25 rfl rfl rfl rfl rfl rfl ?_) | refine op (e_store 3 rfl rfl ts_25 rfl rfl rfl rfl rfl rfl ?_) | refine op (e_store 4 rfl rfl ts_25 rfl rfl rfl rfl rfl rfl ?_) | refine op (e_store 5 rfl rfl ts_25 rfl rfl rfl rfl rfl rfl ?_) | refine op (e_store 6 rfl rfl ts_25 rfl rfl rfl rfl rfl rfl ?_) | refine op (e_store 7 rfl rfl ts_25 rfl rfl rfl rfl rfl rfl ?_) | refine op (e_store 8 rfl rfl ts_25 rfl rfl rfl rfl rfl rfl ?_) | refine op (e_store 9 rfl rfl ts_25 rfl rfl rfl rfl rfl rfl ?_)
  refine nil ?_
  refine n_then ?_
  refine seq ?_
  refine region ?_
  refine op (y ((by first | exact x_loadOwn 0 _ ag_25 rfl rfl rfl rfl | exact x_loadOwn 1 _ ag_25 rfl rfl rfl rfl | exact x_loadOwn 2 _ ag_25 rfl rfl rfl rfl | exact x_loadOwn 3 _ ag_25 rfl rfl rfl rfl | exact x_loadOwn 4 _ ag_25 rfl rfl rfl rfl | exact x_loadOwn 5 _ ag_25 rfl rfl rfl rfl | exact x_loadOwn 6 _ ag_25 rfl rfl rfl rfl | exact x_loadOwn 7 _ ag_25 rfl rfl rfl rfl | exact x_loadOwn 8 _ ag_25 rfl rfl rfl rfl | exact x_loadOwn 9 _ ag_25 rfl rfl rfl rfl | exact x_loadOwn 10 _ ag_25 rfl rfl rfl rfl | exact x_loadOwn 11 _ ag_25 rfl rfl rfl rfl)) rfl ?_)
  refine op (e_call rfl fn_23 rfl rfl (Drop_c h0 _ _ _ _ _ _ (hS0.mono (hle20.trans hle22)) (by decide) (by decide) 1 0 hI0 er (hG0.mono (hle20.trans hle22))) fun v25 ro25 L25 hle25 hp25 => ?_)
  obtain ⟨r4, dA, dc, dB, dd, ev4, rfl, hS4, rfl, hc4⟩ := hp25
  obtain ⟨rfl, hr4⟩ : ev4 = .nilIface ∧ dropM h0 1 0 = some r4 := by
    rcases hc4 with h | ⟨_, h, _⟩
    · exact h
    · have := h0_drop; rw [h] at this; cases this
  have hl4 : r4.es.length = 2 := by have := h0_drop; rw [hr4] at this; simpa using this
  refine op (y (x_move rfl) rfl ?_)
  refine op (y (x_extract rfl rfl) rfl ?_)
  refine op (y (x_extract rfl rfl) rfl ?_)
  refine op (e_alloc rfl zc_25 rfl fun b4 => ?_)
  first | refine op (e_store 0 rfl rfl ts_25 rfl rfl rfl rfl rfl rfl ?_) | refine op (e_store 1 rfl rfl ts_25 rfl rfl rfl rfl rfl rfl ?_) | refine op (e_store 2 rfl rfl ts_25 rfl rfl rfl rfl rfl rfl ?_) | refine op (e_store 3 rfl rfl ts_25 rfl rfl rfl rfl rfl rfl ?_) | refine op (e_store 4 rfl rfl ts_25 rfl rfl rfl rfl rfl rfl ?_) | refine op (e_store 5 rfl rfl ts_25 rfl rfl rfl rfl rfl rfl ?_) | refine op (e_store 6 rfl rfl ts_25 rfl rfl rfl rfl rfl rfl ?_) | refine op (e_store 7 rfl rfl ts_25 rfl rfl rfl rfl rfl rfl ?_) | refine op (e_store 8 rfl rfl ts_25 rfl rfl rfl rfl rfl rfl ?_) | refine op (e_store 9 rfl rfl ts_25 rfl rfl rfl rfl rfl rfl ?_)
  refine op (y (x_assign rfl) rfl ?_)
  refine nil ?_
  refine n_then ?_
  refine seq ?_
  refine region ?_
  refine op (y ((by first | exact x_loadOwn 0 _ ag_25 rfl rfl rfl rfl | exact x_loadOwn 1 _ ag_25 rfl rfl rfl rfl | exact x_loadOwn 2 _ ag_25 rfl rfl rfl rfl | exact x_loadOwn 3 _ ag_25 rfl rfl rfl rfl | exact x_loadOwn 4 _ ag_25 rfl rfl rfl rfl | exact x_loadOwn 5 _ ag_25 rfl rfl rfl rfl | exact x_loadOwn 6 _ ag_25 rfl rfl rfl rfl | exact x_loadOwn 7 _ ag_25 rfl rfl rfl rfl | exact x_loadOwn 8 _ ag_25 rfl rfl rfl rfl | exact x_loadOwn 9 _ ag_25 rfl rfl rfl rfl | exact x_loadOwn 10 _ ag_25 rfl rfl rfl rfl | exact x_loadOwn 11 _ ag_25 rfl rfl rfl rfl)) rfl ?_)
  refine op (e_call rfl fn_23 rfl rfl (Drop_c h0 _ _ _ _ _ _ (hS0.mono (hle20.trans (hle22.trans hle25))) (by decide) (by decide) 3 0 hI0 er (hG0.mono (hle20.trans (hle22.trans hle25)))) fun v30 ro30 L30 hle30 hp30 => ?_)
  obtain ⟨r6, eA, ec, eB, ed, ev6, rfl, hS6, rfl, hc6⟩ := hp30
  obtain rfl : ev6 = .iface 125 (.pointer (some (er 0))) := by
    rcases hc6 with ⟨_, h⟩ | ⟨_, _, _, h⟩
    · rw [h0_none] at h; cases h
    · exact h h0_noTx
  refine op (y (x_move rfl) rfl ?_)
  refine op (y (x_extract rfl rfl) rfl ?_)
  refine op (y (x_extract rfl rfl) rfl ?_)
  refine op (e_alloc rfl zc_25 rfl fun b6 => ?_)
  first | refine op (e_store 0 rfl rfl ts_25 rfl rfl rfl rfl rfl rfl ?_) | refine op (e_store 1 rfl rfl ts_25 rfl rfl rfl rfl rfl rfl ?_) | refine op (e_store 2 rfl rfl ts_25 rfl rfl rfl rfl rfl rfl ?_) | refine op (e_store 3 rfl rfl ts_25 rfl rfl rfl rfl rfl rfl ?_) | refine op (e_store 4 rfl rfl ts_25 rfl rfl rfl rfl rfl rfl ?_) | refine op (e_store 5 rfl rfl ts_25 rfl rfl rfl rfl rfl rfl ?_) | refine op (e_store 6 rfl rfl ts_25 rfl rfl rfl rfl rfl rfl ?_) | refine op (e_store 7 rfl rfl ts_25 rfl rfl rfl rfl rfl rfl ?_) | refine op (e_store 8 rfl rfl ts_25 rfl rfl rfl rfl rfl rfl ?_) | refine op (e_store 9 rfl rfl ts_25 rfl rfl rfl rfl rfl rfl ?_)
  refine op (y (x_assign rfl) rfl ?_)
  refine nil ?_
  refine n_then ?_
  refine seq ?_
  refine region ?_
  refine op (y ((by first | exact x_loadOwn 0 _ ag_25 rfl rfl rfl rfl | exact x_loadOwn 1 _ ag_25 rfl rfl rfl rfl | exact x_loadOwn 2 _ ag_25 rfl rfl rfl rfl | exact x_loadOwn 3 _ ag_25 rfl rfl rfl rfl | exact x_loadOwn 4 _ ag_25 rfl rfl rfl rfl | exact x_loadOwn 5 _ ag_25 rfl rfl rfl rfl | exact x_loadOwn 6 _ ag_25 rfl rfl rfl rfl | exact x_loadOwn 7 _ ag_25 rfl rfl rfl rfl | exact x_loadOwn 8 _ ag_25 rfl rfl rfl rfl | exact x_loadOwn 9 _ ag_25 rfl rfl rfl rfl | exact x_loadOwn 10 _ ag_25 rfl rfl rfl rfl | exact x_loadOwn 11 _ ag_25 rfl rfl rfl rfl)) rfl ?_)
  refine op (e_call rfl fn_29 rfl rfl (Spare_c h0 _ _ _ _ _ _ (hS0.mono (hle20.trans (hle22.trans (hle25.trans hle30)))) (by decide) (by decide) hI0 er (hG0.mono (hle20.trans (hle22.trans (hle25.trans hle30))))) fun v35 ro35 L35 hle35 hp35 => ?_)
  obtain ⟨r8, sA, sc, sB, sd, R1, R2, ev8, rfl, hO1, hO2, rfl, hc8⟩ := hp35
  obtain ⟨rfl, hr8⟩ : ev8 = .nilIface ∧ r8 = spareH h0 := by
    rcases hc8 with ⟨h, _, h2⟩ | ⟨_, h, _⟩
    · exact ⟨h, h2⟩
    · have := h0_taken; rw [h] at this; cases this
  subst hr8
  refine drop0 ?_
  refine drop0 ?_
  refine op (y (x_move rfl) rfl ?_)
  refine op (y (x_extract rfl rfl) rfl ?_)
  refine op (y (x_extract rfl rfl) rfl ?_)
  refine op (e_alloc rfl zc_25 rfl fun b8 => ?_)
  first | refine op (e_store 0 rfl rfl ts_25 rfl rfl rfl rfl rfl rfl ?_) | refine op (e_store 1 rfl rfl ts_25 rfl rfl rfl rfl rfl rfl ?_) | refine op (e_store 2 rfl rfl ts_25 rfl rfl rfl rfl rfl rfl ?_) | refine op (e_store 3 rfl rfl ts_25 rfl rfl rfl rfl rfl rfl ?_) | refine op (e_store 4 rfl rfl ts_25 rfl rfl rfl rfl rfl rfl ?_) | refine op (e_store 5 rfl rfl ts_25 rfl rfl rfl rfl rfl rfl ?_) | refine op (e_store 6 rfl rfl ts_25 rfl rfl rfl rfl rfl rfl ?_) | refine op (e_store 7 rfl rfl ts_25 rfl rfl rfl rfl rfl rfl ?_) | refine op (e_store 8 rfl rfl ts_25 rfl rfl rfl rfl rfl rfl ?_) | refine op (e_store 9 rfl rfl ts_25 rfl rfl rfl rfl rfl rfl ?_)
  refine op (y (x_assign rfl) rfl ?_)
  refine nil ?_
  refine n_then ?_
  refine seq ?_
  have hGc := (hG0.mono (hle20.trans (hle22.trans (hle25.trans (hle30.trans hle35))))).err 0 (by omega)
  have hSx := hS0.mono (hle20.trans (hle22.trans (hle25.trans (hle30.trans hle35))))
  have hSy := hSp.mono (hle22.trans (hle25.trans (hle30.trans hle35)))
  refine region ?_
  refine op (y (x_fieldAddr fo_25_1 rfl) rfl ?_)
  refine op (y (x_load1 ag_23 rfl (by first | assumption | exact Cell.own 0 rfl rfl | exact Cell.own 1 rfl rfl | exact Cell.own 2 rfl rfl | exact Cell.own 3 rfl rfl | exact Cell.own 4 rfl rfl | exact Cell.own 5 rfl rfl | exact Cell.own 6 rfl rfl | exact Cell.own 7 rfl rfl | exact Cell.own 8 rfl rfl | exact Cell.own 9 rfl rfl | exact Cell.ofRo (by assumption))) rfl ?_)
  refine op (y (x_lenSl sz_23 rfl) rfl ?_)
  refine op (y (x_eql rfl rfl) rfl ?_)
  refine said 41 (.bool true) rfl (by rw [h0_pre]; rfl) ?_
  refine op (y (x_move rfl) rfl ?_)
  refine opG rfl rfl (y (x_fieldAddr fo_25_1 rfl) rfl ?_)
  refine opG rfl rfl (y (x_load1 ag_23 rfl (by first | assumption | exact Cell.own 0 rfl rfl | exact Cell.own 1 rfl rfl | exact Cell.own 2 rfl rfl | exact Cell.own 3 rfl rfl | exact Cell.own 4 rfl rfl | exact Cell.own 5 rfl rfl | exact Cell.own 6 rfl rfl | exact Cell.own 7 rfl rfl | exact Cell.own 8 rfl rfl | exact Cell.own 9 rfl rfl | exact Cell.ofRo (by assumption))) rfl ?_)
  refine opG rfl rfl (y (x_lenSl sz_23 rfl) rfl ?_)
  refine opG rfl rfl (y (x_eql rfl rfl) rfl ?_)
  refine said 46 (.bool true) rfl (by rw [h0_wo]; rfl) ?_
  refine op (y (x_pickT rfl rfl) rfl ?_)
  refine op (y (x_move rfl) rfl ?_)
  refine opG rfl rfl (y (x_fieldAddr fo_25_1 rfl) rfl ?_)
  refine opG rfl rfl (y (x_load1 ag_23 rfl (by first | assumption | exact Cell.own 0 rfl rfl | exact Cell.own 1 rfl rfl | exact Cell.own 2 rfl rfl | exact Cell.own 3 rfl rfl | exact Cell.own 4 rfl rfl | exact Cell.own 5 rfl rfl | exact Cell.own 6 rfl rfl | exact Cell.own 7 rfl rfl | exact Cell.own 8 rfl rfl | exact Cell.own 9 rfl rfl | exact Cell.ofRo (by assumption))) rfl ?_)
  refine opG rfl rfl (y (x_lenSl sz_23 rfl) rfl ?_)
  refine opG rfl rfl (y (x_eql rfl rfl) rfl ?_)
  refine said 52 (.bool true) rfl (by rw [hl4]; rfl) ?_
  refine op (y (x_pickT rfl rfl) rfl ?_)
  refine op (y (x_move rfl) rfl ?_)
  refine opG rfl rfl (y (x_move rfl) rfl ?_)
  refine opG rfl rfl (y (x_ifEqNil Tryd.underlying43 rfl (IfV.nil)) rfl ?_)
  refine said 56 (.bool true) rfl (rfl) ?_
  refine op (y (x_pickT rfl rfl) rfl ?_)
  refine op (y (x_move rfl) rfl ?_)
  refine opG rfl rfl (y (x_move rfl) rfl ?_)
  refine opG rfl rfl (y (x_load1 ag_43 rfl (Cell.ofRo hGc)) rfl ?_)
  refine opG rfl rfl (y (x_ifSame Tryd.underlying43 Tryd.underlying125 ti_125 (by kernel_rfl) ti_142 rfl rfl) rfl ?_)
  refine said 61 (.bool true) rfl (rfl) ?_
  refine op (y (x_pickT rfl rfl) rfl ?_)
  refine op (y (x_move rfl) rfl ?_)
  refine opG rfl rfl (y (x_fieldAddr fo_25_0 rfl) rfl ?_)
  refine opG rfl rfl (y (x_load1 ag_22 rfl (by first | assumption | exact Cell.own 0 rfl rfl | exact Cell.own 1 rfl rfl | exact Cell.own 2 rfl rfl | exact Cell.own 3 rfl rfl | exact Cell.own 4 rfl rfl | exact Cell.own 5 rfl rfl | exact Cell.own 6 rfl rfl | exact Cell.own 7 rfl rfl | exact Cell.own 8 rfl rfl | exact Cell.own 9 rfl rfl | exact Cell.ofRo (by assumption))) rfl ?_)
  refine opG rfl rfl (y (x_lenSl sz_22 rfl) rfl ?_)
  refine opG rfl rfl (y (x_eql rfl rfl) rfl ?_)
  refine said 67 (.bool true) rfl (by rw [h0_spare]; rfl) ?_
  refine op (y (x_pickT rfl rfl) rfl ?_)
  refine op (y (x_move rfl) rfl ?_)
  refine opG rfl rfl (y (x_move rfl) rfl ?_)
  refine opG rfl rfl (y (x_ifEqNil Tryd.underlying43 rfl (IfV.nil)) rfl ?_)
  refine said 71 (.bool true) rfl (rfl) ?_
  refine op (y (x_pickT rfl rfl) rfl ?_)
  refine op (y (x_move rfl) rfl ?_)
  refine opG rfl rfl (y ((by first | exact x_loadOwn 0 _ ag_25 rfl rfl rfl rfl | exact x_loadOwn 1 _ ag_25 rfl rfl rfl rfl | exact x_loadOwn 2 _ ag_25 rfl rfl rfl rfl | exact x_loadOwn 3 _ ag_25 rfl rfl rfl rfl | exact x_loadOwn 4 _ ag_25 rfl rfl rfl rfl | exact x_loadOwn 5 _ ag_25 rfl rfl rfl rfl | exact x_loadOwn 6 _ ag_25 rfl rfl rfl rfl | exact x_loadOwn 7 _ ag_25 rfl rfl rfl rfl | exact x_loadOwn 8 _ ag_25 rfl rfl rfl rfl | exact x_loadOwn 9 _ ag_25 rfl rfl rfl rfl | exact x_loadOwn 10 _ ag_25 rfl rfl rfl rfl | exact x_loadOwn 11 _ ag_25 rfl rfl rfl rfl)) rfl ?_)
  refine opG rfl rfl (y ((by first | exact x_loadOwn 0 _ ag_25 rfl rfl rfl rfl | exact x_loadOwn 1 _ ag_25 rfl rfl rfl rfl | exact x_loadOwn 2 _ ag_25 rfl rfl rfl rfl | exact x_loadOwn 3 _ ag_25 rfl rfl rfl rfl | exact x_loadOwn 4 _ ag_25 rfl rfl rfl rfl | exact x_loadOwn 5 _ ag_25 rfl rfl rfl rfl | exact x_loadOwn 6 _ ag_25 rfl rfl rfl rfl | exact x_loadOwn 7 _ ag_25 rfl rfl rfl rfl | exact x_loadOwn 8 _ ag_25 rfl rfl rfl rfl | exact x_loadOwn 9 _ ag_25 rfl rfl rfl rfl | exact x_loadOwn 10 _ ag_25 rfl rfl rfl rfl | exact x_loadOwn 11 _ ag_25 rfl rfl rfl rfl)) rfl ?_)
  refine opG rfl rfl (e_call rfl fn_21 rfl rfl (Sub_c (pre h0 2) _ _ _ _ h0 _ _ _ _ _ _ hSy hSx) fun v76 ro76 L76 hle76 hp76 => ?_)
  obtain ⟨rfl, rfl, rfl⟩ := hp76
  refine said 76 (.bool true) rfl (by simp [h0_sub]) ?_
  refine op (y (x_pickT rfl rfl) rfl ?_)
  refine op (y (x_move rfl) rfl ?_)
  refine opG rfl rfl (y ((by first | exact x_loadOwn 0 _ ag_25 rfl rfl rfl rfl | exact x_loadOwn 1 _ ag_25 rfl rfl rfl rfl | exact x_loadOwn 2 _ ag_25 rfl rfl rfl rfl | exact x_loadOwn 3 _ ag_25 rfl rfl rfl rfl | exact x_loadOwn 4 _ ag_25 rfl rfl rfl rfl | exact x_loadOwn 5 _ ag_25 rfl rfl rfl rfl | exact x_loadOwn 6 _ ag_25 rfl rfl rfl rfl | exact x_loadOwn 7 _ ag_25 rfl rfl rfl rfl | exact x_loadOwn 8 _ ag_25 rfl rfl rfl rfl | exact x_loadOwn 9 _ ag_25 rfl rfl rfl rfl | exact x_loadOwn 10 _ ag_25 rfl rfl rfl rfl | exact x_loadOwn 11 _ ag_25 rfl rfl rfl rfl)) rfl ?_)
  refine opG rfl rfl (y ((by first | exact x_loadOwn 0 _ ag_25 rfl rfl rfl rfl | exact x_loadOwn 1 _ ag_25 rfl rfl rfl rfl | exact x_loadOwn 2 _ ag_25 rfl rfl rfl rfl | exact x_loadOwn 3 _ ag_25 rfl rfl rfl rfl | exact x_loadOwn 4 _ ag_25 rfl rfl rfl rfl | exact x_loadOwn 5 _ ag_25 rfl rfl rfl rfl | exact x_loadOwn 6 _ ag_25 rfl rfl rfl rfl | exact x_loadOwn 7 _ ag_25 rfl rfl rfl rfl | exact x_loadOwn 8 _ ag_25 rfl rfl rfl rfl | exact x_loadOwn 9 _ ag_25 rfl rfl rfl rfl | exact x_loadOwn 10 _ ag_25 rfl rfl rfl rfl | exact x_loadOwn 11 _ ag_25 rfl rfl rfl rfl)) rfl ?_)
  refine opG rfl rfl (e_call rfl fn_21 rfl rfl (Sub_c h0 _ _ _ _ (pre h0 2) _ _ _ _ _ _ hSx hSy) fun v81 ro81 L81 hle81 hp81 => ?_)
  obtain ⟨rfl, rfl, rfl⟩ := hp81
  refine said 81 (.bool false) rfl (by simp [h0_nosub]) ?_
  refine opG rfl rfl (y (x_not rfl) rfl ?_)
  refine op (y (x_pickT rfl rfl) rfl ?_)
  refine op (y (x_assign rfl) rfl ?_)
  refine nil ?_
  refine n_then ?_
  refine ret ?_
  exact done rfl (.tmp rfl (.nil)) (hlz12.trans (hlz17.trans (hle20.trans (hle22.trans (hle25.trans (hle30.trans hle35)))))) (L) (subF (by (repeat (first | exact List.Sublist.refl _ | apply List.Sublist.cons_cons | apply List.Sublist.cons)); done)) (⟨rfl, rfl⟩)

end Go.Proofs.YtijafcilfefafaaDoor
