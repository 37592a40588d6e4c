/- The walk of StoreLists. -/
import Derived.Test.YtgkngljojfkkfaaGreatDoorW10
namespace Go.Proofs.YtgkngljojfkkfaaGreatDoor
open Go Go.U
set_option maxRecDepth 20000
set_option linter.unusedSimpArgs false
set_option linter.unusedVariables false

theorem src_take {ro : Ro} {K : List Blk} {k : Nat} {B : Option Addr} {m m' : Nat} {a b : List Value} (h : Src ro K k B m (a ++ b)) (ha : a.length = m' * k) (hm : m' ≤ m) : Src ro K k B m' a :=
  ⟨ha, fun h0 => by
    obtain ⟨bb, off, rfl, hc⟩ := h.2 (by omega)
    exact ⟨bb, off, rfl, fun j v hv => hc j v (by rw [List.getElem?_append_left (List.getElem?_eq_some_iff.1 hv).1]; exact hv)⟩⟩
theorem atL_is {α : Type} {l : List α} {i : Int} {t : Bool} (h : t = true ↔ 0 ≤ i ∧ i < (l.length : Int)) : (atL l i).isSome = t := by
  by_cases hc : 0 ≤ i ∧ i < (l.length : Int)
  · rw [h.2 hc]
    unfold atL
    rw [if_pos hc.1, List.getElem?_eq_getElem (by omega)]; rfl
  · rw [atL_none (by omega)]
    cases t with
    | false => rfl
    | true => exact absurd (h.1 rfl) hc
theorem fm_app {l : List Int} {x : Int} : l.flatMap encInt ++ [Value.int .i64 x] = (l ++ [x]).flatMap encInt := by simp [encInt]
theorem fm_app2 {l : List Int} {x y : Int} : l.flatMap encInt ++ [Value.int .i64 x, Value.int .i64 y] = ((l ++ [x]) ++ [y]).flatMap encInt := by simp [encInt]

set_option maxHeartbeats 1000000 in
theorem StoreLists_c (l : List Int) (A : Option Addr) (cap : Nat) (i x : Int) (ro : Ro) (L : List (List Blk)) (hl : Sl ro 1 encInt A cap l) (er : Nat → Addr) (hG : Glob er ro) :
    CT Tryz.prog 5 [.slice A l.length cap, .int .i64 i, .int .i64 x].toArray ro L (PV (.bool true) L) := by
  have hcapl := cap_ge hl
  refine enter Tryz.func5 rfl Tryz.ntmps5 rfl ?_
  refine seq ?_
  refine region ?_
  refine op (y (x_assign rfl) rfl ?_)
  refine nil ?_
  refine n_then ?_
  refine seq ?_
  refine region ?_
  refine op (e_call rfl fn_20 rfl rfl (first7_c er _ _ hG) fun v24 ro24 L24 hle24 hp24 => ?_)
  obtain ⟨rfl, rfl⟩ := hp24
  refine op (y (x_assign rfl) rfl ?_)
  refine nil ?_
  refine n_then ?_
  refine seq ?_
  refine seq ?_
  refine region ?_
  refine op (y (x_move rfl) rfl ?_)
  refine op (y (x_not rfl) rfl ?_)
  refine nil ?_
  refine n_then ?_
  refine condF rfl ?_
  refine skip ?_
  refine n_then ?_
  refine seq ?_
  refine seq ?_
  refine region ?_
  refine op (y (x_move rfl) rfl ?_)
  refine op (y (x_lenSl sz_26 rfl) rfl ?_)
  refine op (y (x_gtr rfl rfl) rfl ?_)
  refine op (y (x_move rfl) rfl ?_)
  refine bsplit 30 rfl (fun g30 => ?_) (fun g30 => ?_)
  · try simp only [decide_eq_true_eq, decide_eq_false_iff_not, beq_iff_eq, bne_iff_ne, ne_eq, beq_eq_false_iff_ne, bne_eq_false_iff_eq, Bool.not_eq_true', Bool.not_eq_false', Bool.not_eq_true, Bool.not_eq_false, Decidable.not_not, Int.not_lt, Int.not_le] at g30
    refine opN rfl rfl rfl rfl ?_
    refine opN rfl rfl rfl rfl ?_
    refine op (y (x_pickT rfl rfl) rfl ?_)
    refine nil ?_
    refine n_then ?_
    refine condT rfl ?_
    refine seq ?_
    refine region ?_
    refine op (y (x_move rfl) rfl ?_)
    refine op (y (x_assign rfl) rfl ?_)
    refine nil ?_
    refine n_then ?_
    refine ret ?_
    refine r_then ?_
    exact done rfl (.tmp rfl (.nil)) (hle24) (L) (subF (by (repeat (first | exact List.Sublist.refl _ | apply List.Sublist.cons_cons | apply List.Sublist.cons)); done)) (⟨rfl, rfl⟩)
  · try simp only [decide_eq_true_eq, decide_eq_false_iff_not, beq_iff_eq, bne_iff_ne, ne_eq, beq_eq_false_iff_ne, bne_eq_false_iff_eq, Bool.not_eq_true', Bool.not_eq_false', Bool.not_eq_true, Bool.not_eq_false, Decidable.not_not, Int.not_lt, Int.not_le] at g30
    refine opG rfl rfl (y (x_move rfl) rfl ?_)
    refine opG rfl rfl (y (x_not rfl) rfl ?_)
    refine op (y (x_pickF rfl rfl) rfl ?_)
    refine nil ?_
    refine n_then ?_
    refine condF rfl ?_
    refine skip ?_
    refine n_then ?_
    refine seq ?_
    have hn : l.length ≤ 1000 := by first | omega | grind
    have hl1 := hl.mono hle24
    refine region ?_
    refine op (y (x_move rfl) rfl ?_)
    refine op (e_call rfl fn_21 rfl rfl (Ints_o l A cap _ _ hl1 (by omega)) fun v36 ro36 L36 hle36 hp36 => ?_)
    obtain ⟨A36, c36, R36, rfl, hO36, rfl⟩ := hp36
    refine op (e_sliceN (zs := [.int .i64 0, .int .i64 0]) rfl Tryz.underlying26 ti_3 tz_3 rfl (by decide) (by decide) (by kernel_rfl) rfl rfl fun b37 => ?_)
    refine op (e_append 1 rfl st_26 rfl rfl rfl hO36 (OwnS.src (e := 3) (cap := 2) (R := [(b37, _)]) (OwnS.lit rfl (by decide)) (fun q hq => List.mem_append_left _ hq)) (by decide) (by omega) (by omega) (fun _ => rfl) fun A38 c38 R38 hO38 => ?_)
    refine drop0 ?_
    refine op (y (x_assign rfl) rfl ?_)
    refine nil ?_
    refine n_then ?_
    refine seq ?_
    have hc38 : l.length + 2 ≤ c38 := by rcases hO38.2 with ⟨_, h0, _⟩ | ⟨_, _, _, _, _, h0, _⟩; omega; exact h0
    refine region ?_
    refine op (y (x_move rfl) rfl ?_)
    refine op (y (x_move rfl) rfl ?_)
    refine op (y (x_lenSl sz_26 rfl) rfl ?_)
    refine op (y (x_sliceHiN sz_26 rfl rfl (by omega)) rfl ?_)
    refine op (e_call rfl fn_22 rfl rfl (PLO.frozen int_len (OfI_o l A38 c38 _ _ (src_take (OwnS.src hO38 (fun q hq => List.mem_append_left _ hq)) (flat_len int_len) (by omega)) (by omega))) fun v43 ro43 L43 hle43 hp43 => ?_)
    obtain ⟨A43, c43, rfl, hS43, rfl⟩ := hp43
    refine op (e_alloc rfl zc_46 rfl fun b9 => ?_)
    first | refine op (e_store 0 rfl rfl ts_46 rfl rfl rfl rfl rfl rfl ?_) | refine op (e_store 1 rfl rfl ts_46 rfl rfl rfl rfl rfl rfl ?_) | refine op (e_store 2 rfl rfl ts_46 rfl rfl rfl rfl rfl rfl ?_) | refine op (e_store 3 rfl rfl ts_46 rfl rfl rfl rfl rfl rfl ?_) | refine op (e_store 4 rfl rfl ts_46 rfl rfl rfl rfl rfl rfl ?_) | refine op (e_store 5 rfl rfl ts_46 rfl rfl rfl rfl rfl rfl ?_) | refine op (e_store 6 rfl rfl ts_46 rfl rfl rfl rfl rfl rfl ?_) | refine op (e_store 7 rfl rfl ts_46 rfl rfl rfl rfl rfl rfl ?_) | refine op (e_store 8 rfl rfl ts_46 rfl rfl rfl rfl rfl rfl ?_) | refine op (e_store 9 rfl rfl ts_46 rfl rfl rfl rfl rfl rfl ?_)
    refine nil ?_
    refine n_then ?_
    refine seq ?_
    refine seq ?_
    refine region ?_
    refine op (y (x_assign rfl) rfl ?_)
    refine nil ?_
    refine n_then ?_
    refine block ?_
    obtain ⟨roX, hroX⟩ : ∃ roX, ro43 = roX := ⟨_, rfl⟩
    subst hroX
    refine loop (fun m F ro' L' => ∃ (k : Nat) (xs : List Value) (Rm : List Blk), (m = (l.length + 2) - k) ∧ (F = [(0, .slice A l.length cap), (1, .int .i64 i), (2, .int .i64 x), (8, .slice A38 (l.length + 2) c38), (9, .pointer (some ⟨b9, 0, none⟩)), (10, .int .i64 (k : Nat))]) ∧ (ro43 = ro') ∧ (L' = [(b9, Obj.cells [Value.slice A43 l.length c43].toArray 46 (0, 0))] :: Rm :: L) ∧ (k ≤ l.length + 2) ∧ (OwnS 3 1 A38 (l.length + 2) c38 xs Rm)) ((l.length + 2) - 0) [(0, .slice A l.length cap), (1, .int .i64 i), (2, .int .i64 x), (8, .slice A38 (l.length + 2) c38), (9, .pointer (some ⟨b9, 0, none⟩)), (10, .int .i64 (0 : Nat))] ⟨rfl, rfl, rfl, rfl, rfl, rfl, trivial⟩ ⟨0, _, R38, rfl, rfl, rfl, rfl, by omega, hO38⟩ ?_
    rintro m F ro' L' ⟨k, xs, Rm, rfl, rfl, rfl, rfl, hk, hOm⟩
    refine seq ?_
    refine seq ?_
    refine region ?_
    refine op (y (x_move rfl) rfl ?_)
    refine op (y (x_move rfl) rfl ?_)
    refine op (y (x_lenSl sz_26 rfl) rfl ?_)
    refine op (y (x_lss rfl rfl) rfl ?_)
    refine nil ?_
    refine n_then ?_
    refine cond rfl (fun h9 => ?_) (fun h9 => ?_)
    · try simp only [decide_eq_true_eq, decide_eq_false_iff_not, beq_iff_eq, bne_iff_ne, ne_eq, beq_eq_false_iff_ne, bne_eq_false_iff_eq, Bool.not_eq_true', Bool.not_eq_false', Bool.not_eq_true, Bool.not_eq_false, Decidable.not_not, Int.not_lt, Int.not_le] at h9
      refine skip ?_
      refine n_then ?_
      refine seq ?_
      refine block ?_
      obtain ⟨bm, om, curm, rfl, rfl, _, hcm⟩ := hOm.at_ (by omega)
      refine region ?_
      refine op (y (x_move rfl) rfl ?_)
      refine op (y (x_move rfl) rfl ?_)
      refine op (y (x_indexNat sz_26 rfl rfl (by omega)) rfl ?_)
      refine op (e_storeS (q := k * 1) (m := l.length + 2) 1 rfl rfl ts_3 rfl rfl rfl rfl hOm (by simp; omega) (fun _ => rfl) fun R11 hO11 => ?_)
      refine nil ?_
      refine n_in ?_
      refine n_then ?_
      refine region ?_
      refine op (y (x_move rfl) rfl ?_)
      refine op (y (x_add rfl rfl _ (wr (by omega) (by omega))) rfl ?_)
      refine op (y (x_assign rfl) rfl ?_)
      refine nil ?_
      exact round ((l.length + 2) - (k + 1)) [(0, .slice A l.length cap), (1, .int .i64 i), (2, .int .i64 x), (8, .slice _ (l.length + 2) c38), (9, .pointer (some ⟨b9, 0, none⟩)), (10, .int .i64 ((k + 1) : Nat))] (by omega) ⟨rfl, rfl, rfl, rfl, rfl, rfl, trivial⟩ ⟨k + 1, _, R11, rfl, rfl, rfl, rfl, by omega, hO11⟩
    · try simp only [decide_eq_true_eq, decide_eq_false_iff_not, beq_iff_eq, bne_iff_ne, ne_eq, beq_eq_false_iff_ne, bne_eq_false_iff_eq, Bool.not_eq_true', Bool.not_eq_false', Bool.not_eq_true, Bool.not_eq_false, Decidable.not_not, Int.not_lt, Int.not_le] at h9
      refine exit ?_
      refine e_then ?_
      refine e_then ?_
      refine e_in ?_
      refine n_then ?_
      refine seq ?_
      clear hOm
      refine region ?_
      refine op (y ((by first | exact x_loadOwn 0 _ ag_46 rfl rfl rfl rfl | exact x_loadOwn 1 _ ag_46 rfl rfl rfl rfl | exact x_loadOwn 2 _ ag_46 rfl rfl rfl rfl | exact x_loadOwn 3 _ ag_46 rfl rfl rfl rfl | exact x_loadOwn 4 _ ag_46 rfl rfl rfl rfl | exact x_loadOwn 5 _ ag_46 rfl rfl rfl rfl | exact x_loadOwn 6 _ ag_46 rfl rfl rfl rfl | exact x_loadOwn 7 _ ag_46 rfl rfl rfl rfl | exact x_loadOwn 8 _ ag_46 rfl rfl rfl rfl | exact x_loadOwn 9 _ ag_46 rfl rfl rfl rfl | exact x_loadOwn 10 _ ag_46 rfl rfl rfl rfl | exact x_loadOwn 11 _ ag_46 rfl rfl rfl rfl)) rfl ?_)
      refine op (y (x_move rfl) rfl ?_)
      refine op (y (x_move rfl) rfl ?_)
      refine op (e_call rfl fn_23 rfl rfl (WithI_c l A43 c43 i x _ _ hS43 (by omega)) fun v56 ro56 L56 hle56 hp56 => ?_)
      obtain ⟨A56, c56, rfl, hS56, rfl⟩ := hp56
      refine op (e_alloc rfl zc_46 rfl fun b11 => ?_)
      first | refine op (e_store 0 rfl rfl ts_46 rfl rfl rfl rfl rfl rfl ?_) | refine op (e_store 1 rfl rfl ts_46 rfl rfl rfl rfl rfl rfl ?_) | refine op (e_store 2 rfl rfl ts_46 rfl rfl rfl rfl rfl rfl ?_) | refine op (e_store 3 rfl rfl ts_46 rfl rfl rfl rfl rfl rfl ?_) | refine op (e_store 4 rfl rfl ts_46 rfl rfl rfl rfl rfl rfl ?_) | refine op (e_store 5 rfl rfl ts_46 rfl rfl rfl rfl rfl rfl ?_) | refine op (e_store 6 rfl rfl ts_46 rfl rfl rfl rfl rfl rfl ?_) | refine op (e_store 7 rfl rfl ts_46 rfl rfl rfl rfl rfl rfl ?_) | refine op (e_store 8 rfl rfl ts_46 rfl rfl rfl rfl rfl rfl ?_) | refine op (e_store 9 rfl rfl ts_46 rfl rfl rfl rfl rfl rfl ?_)
      refine nil ?_
      refine n_then ?_
      refine seq ?_
      refine region ?_
      refine op (y ((by first | exact x_loadOwn 0 _ ag_46 rfl rfl rfl rfl | exact x_loadOwn 1 _ ag_46 rfl rfl rfl rfl | exact x_loadOwn 2 _ ag_46 rfl rfl rfl rfl | exact x_loadOwn 3 _ ag_46 rfl rfl rfl rfl | exact x_loadOwn 4 _ ag_46 rfl rfl rfl rfl | exact x_loadOwn 5 _ ag_46 rfl rfl rfl rfl | exact x_loadOwn 6 _ ag_46 rfl rfl rfl rfl | exact x_loadOwn 7 _ ag_46 rfl rfl rfl rfl | exact x_loadOwn 8 _ ag_46 rfl rfl rfl rfl | exact x_loadOwn 9 _ ag_46 rfl rfl rfl rfl | exact x_loadOwn 10 _ ag_46 rfl rfl rfl rfl | exact x_loadOwn 11 _ ag_46 rfl rfl rfl rfl)) rfl ?_)
      refine op (y (x_move rfl) rfl ?_)
      refine op (e_call rfl fn_24 rfl rfl (PLO.frozen int_len (AndI_o l A43 c43 _ _ (hS43.mono hle56) (by omega) x)) fun v59 ro59 L59 hle59 hp59 => ?_)
      obtain ⟨A59, c59, rfl, hS59, rfl⟩ := hp59
      refine op (e_alloc rfl zc_46 rfl fun b12 => ?_)
      first | refine op (e_store 0 rfl rfl ts_46 rfl rfl rfl rfl rfl rfl ?_) | refine op (e_store 1 rfl rfl ts_46 rfl rfl rfl rfl rfl rfl ?_) | refine op (e_store 2 rfl rfl ts_46 rfl rfl rfl rfl rfl rfl ?_) | refine op (e_store 3 rfl rfl ts_46 rfl rfl rfl rfl rfl rfl ?_) | refine op (e_store 4 rfl rfl ts_46 rfl rfl rfl rfl rfl rfl ?_) | refine op (e_store 5 rfl rfl ts_46 rfl rfl rfl rfl rfl rfl ?_) | refine op (e_store 6 rfl rfl ts_46 rfl rfl rfl rfl rfl rfl ?_) | refine op (e_store 7 rfl rfl ts_46 rfl rfl rfl rfl rfl rfl ?_) | refine op (e_store 8 rfl rfl ts_46 rfl rfl rfl rfl rfl rfl ?_) | refine op (e_store 9 rfl rfl ts_46 rfl rfl rfl rfl rfl rfl ?_)
      refine nil ?_
      refine n_then ?_
      refine seq ?_
      refine region ?_
      refine op (y ((by first | exact x_loadOwn 0 _ ag_46 rfl rfl rfl rfl | exact x_loadOwn 1 _ ag_46 rfl rfl rfl rfl | exact x_loadOwn 2 _ ag_46 rfl rfl rfl rfl | exact x_loadOwn 3 _ ag_46 rfl rfl rfl rfl | exact x_loadOwn 4 _ ag_46 rfl rfl rfl rfl | exact x_loadOwn 5 _ ag_46 rfl rfl rfl rfl | exact x_loadOwn 6 _ ag_46 rfl rfl rfl rfl | exact x_loadOwn 7 _ ag_46 rfl rfl rfl rfl | exact x_loadOwn 8 _ ag_46 rfl rfl rfl rfl | exact x_loadOwn 9 _ ag_46 rfl rfl rfl rfl | exact x_loadOwn 10 _ ag_46 rfl rfl rfl rfl | exact x_loadOwn 11 _ ag_46 rfl rfl rfl rfl)) rfl ?_)
      refine op (y (x_move rfl) rfl ?_)
      refine op (y (x_add rfl rfl _ (rfl)) rfl ?_)
      refine op (e_call rfl fn_24 rfl rfl (PLO.frozen int_len (AndI_o (l ++ [x]) A59 c59 _ _ hS59 (by simp; omega) (IntKind.i64.wrap (x + 1)))) fun v63 ro63 L63 hle63 hp63 => ?_)
      obtain ⟨A63, c63, rfl, hS63, rfl⟩ := hp63
      refine op (e_alloc rfl zc_46 rfl fun b13 => ?_)
      first | refine op (e_store 0 rfl rfl ts_46 rfl rfl rfl rfl rfl rfl ?_) | refine op (e_store 1 rfl rfl ts_46 rfl rfl rfl rfl rfl rfl ?_) | refine op (e_store 2 rfl rfl ts_46 rfl rfl rfl rfl rfl rfl ?_) | refine op (e_store 3 rfl rfl ts_46 rfl rfl rfl rfl rfl rfl ?_) | refine op (e_store 4 rfl rfl ts_46 rfl rfl rfl rfl rfl rfl ?_) | refine op (e_store 5 rfl rfl ts_46 rfl rfl rfl rfl rfl rfl ?_) | refine op (e_store 6 rfl rfl ts_46 rfl rfl rfl rfl rfl rfl ?_) | refine op (e_store 7 rfl rfl ts_46 rfl rfl rfl rfl rfl rfl ?_) | refine op (e_store 8 rfl rfl ts_46 rfl rfl rfl rfl rfl rfl ?_) | refine op (e_store 9 rfl rfl ts_46 rfl rfl rfl rfl rfl rfl ?_)
      refine nil ?_
      refine n_then ?_
      refine seq ?_
      refine region ?_
      refine op (y ((by first | exact x_loadOwn 0 _ ag_46 rfl rfl rfl rfl | exact x_loadOwn 1 _ ag_46 rfl rfl rfl rfl | exact x_loadOwn 2 _ ag_46 rfl rfl rfl rfl | exact x_loadOwn 3 _ ag_46 rfl rfl rfl rfl | exact x_loadOwn 4 _ ag_46 rfl rfl rfl rfl | exact x_loadOwn 5 _ ag_46 rfl rfl rfl rfl | exact x_loadOwn 6 _ ag_46 rfl rfl rfl rfl | exact x_loadOwn 7 _ ag_46 rfl rfl rfl rfl | exact x_loadOwn 8 _ ag_46 rfl rfl rfl rfl | exact x_loadOwn 9 _ ag_46 rfl rfl rfl rfl | exact x_loadOwn 10 _ ag_46 rfl rfl rfl rfl | exact x_loadOwn 11 _ ag_46 rfl rfl rfl rfl)) rfl ?_)
      refine op (y (x_move rfl) rfl ?_)
      refine op (y (x_sub rfl rfl _ (rfl)) rfl ?_)
      refine op (e_call rfl fn_24 rfl rfl (PLO.frozen int_len (AndI_o (l ++ [x]) A59 c59 _ _ (hS59.mono hle63) (by simp; omega) (IntKind.i64.wrap (x - 1)))) fun v67 ro67 L67 hle67 hp67 => ?_)
      obtain ⟨A67, c67, rfl, hS67, rfl⟩ := hp67
      refine op (e_alloc rfl zc_46 rfl fun b14 => ?_)
      first | refine op (e_store 0 rfl rfl ts_46 rfl rfl rfl rfl rfl rfl ?_) | refine op (e_store 1 rfl rfl ts_46 rfl rfl rfl rfl rfl rfl ?_) | refine op (e_store 2 rfl rfl ts_46 rfl rfl rfl rfl rfl rfl ?_) | refine op (e_store 3 rfl rfl ts_46 rfl rfl rfl rfl rfl rfl ?_) | refine op (e_store 4 rfl rfl ts_46 rfl rfl rfl rfl rfl rfl ?_) | refine op (e_store 5 rfl rfl ts_46 rfl rfl rfl rfl rfl rfl ?_) | refine op (e_store 6 rfl rfl ts_46 rfl rfl rfl rfl rfl rfl ?_) | refine op (e_store 7 rfl rfl ts_46 rfl rfl rfl rfl rfl rfl ?_) | refine op (e_store 8 rfl rfl ts_46 rfl rfl rfl rfl rfl rfl ?_) | refine op (e_store 9 rfl rfl ts_46 rfl rfl rfl rfl rfl rfl ?_)
      refine nil ?_
      refine n_then ?_
      refine seq ?_
      refine region ?_
      refine op (y (x_move rfl) rfl ?_)
      refine op (e_call rfl fn_21 rfl rfl (Ints_o l A cap _ _ (hl1.mono (hle36.trans (hle43.trans (hle56.trans (hle59.trans (hle63.trans hle67)))))) (by omega)) fun v69 ro69 L69 hle69 hp69 => ?_)
      obtain ⟨A69, c69, R69, rfl, hO69, rfl⟩ := hp69
      refine op (y (x_assign rfl) rfl ?_)
      refine nil ?_
      refine n_then ?_
      refine seqM (fun F ro' L' => ∃ (tin : Bool), (F = [(0, .slice A l.length cap), (1, .int .i64 i), (2, .int .i64 x), (9, .pointer (some ⟨b9, 0, none⟩)), (11, .pointer (some ⟨b11, 0, none⟩)), (12, .pointer (some ⟨b12, 0, none⟩)), (13, .pointer (some ⟨b13, 0, none⟩)), (14, .pointer (some ⟨b14, 0, none⟩)), (15, .slice A69 l.length c69), (16, .bool tin)]) ∧ (ro69 = ro') ∧ (L' = R69 :: [(b14, Obj.cells [Value.slice A67 ((l ++ [x]) ++ [(IntKind.i64.wrap (x - 1))]).length c67].toArray 46 (0, 0))] :: [(b13, Obj.cells [Value.slice A63 ((l ++ [x]) ++ [(IntKind.i64.wrap (x + 1))]).length c63].toArray 46 (0, 0))] :: [(b12, Obj.cells [Value.slice A59 (l ++ [x]).length c59].toArray 46 (0, 0))] :: [(b11, Obj.cells [Value.slice A56 (setL l i x).length c56].toArray 46 (0, 0))] :: [(b9, Obj.cells [Value.slice A43 l.length c43].toArray 46 (0, 0))] :: Rm :: L) ∧ (tin = true ↔ 0 ≤ i ∧ i < (l.length : Int))) ?_ ?_
      · skip
        refine region ?_
        refine op (y (x_move rfl) rfl ?_)
        refine op (y (x_geq rfl rfl) rfl ?_)
        refine op (y (x_move rfl) rfl ?_)
        refine bsplit 72 rfl (fun g72 => ?_) (fun g72 => ?_)
        · try simp only [decide_eq_true_eq, decide_eq_false_iff_not, beq_iff_eq, bne_iff_ne, ne_eq, beq_eq_false_iff_ne, bne_eq_false_iff_eq, Bool.not_eq_true', Bool.not_eq_false', Bool.not_eq_true, Bool.not_eq_false, Decidable.not_not, Int.not_lt, Int.not_le] at g72
          refine opG rfl rfl (y (x_move rfl) rfl ?_)
          refine opG rfl rfl (y (x_move rfl) rfl ?_)
          refine opG rfl rfl (y (x_lenSl sz_26 rfl) rfl ?_)
          refine opG rfl rfl (y (x_lss rfl rfl) rfl ?_)
          refine op (y (x_pickT rfl rfl) rfl ?_)
          refine op (y (x_assign rfl) rfl ?_)
          refine nil ?_
          first | exact mid [(0, .slice A l.length cap), (1, .int .i64 i), (2, .int .i64 x), (9, .pointer (some ⟨b9, 0, none⟩)), (11, .pointer (some ⟨b11, 0, none⟩)), (12, .pointer (some ⟨b12, 0, none⟩)), (13, .pointer (some ⟨b13, 0, none⟩)), (14, .pointer (some ⟨b14, 0, none⟩)), (15, .slice A69 l.length c69), (16, .bool true)] ⟨rfl, rfl, rfl, rfl, rfl, rfl, rfl, rfl, rfl, rfl, trivial⟩ ⟨true, rfl, rfl, rfl, by simp; omega⟩ | exact mid [(0, .slice A l.length cap), (1, .int .i64 i), (2, .int .i64 x), (9, .pointer (some ⟨b9, 0, none⟩)), (11, .pointer (some ⟨b11, 0, none⟩)), (12, .pointer (some ⟨b12, 0, none⟩)), (13, .pointer (some ⟨b13, 0, none⟩)), (14, .pointer (some ⟨b14, 0, none⟩)), (15, .slice A69 l.length c69), (16, .bool false)] ⟨rfl, rfl, rfl, rfl, rfl, rfl, rfl, rfl, rfl, rfl, trivial⟩ ⟨false, rfl, rfl, rfl, by simp; omega⟩ | exact mid [(0, .slice A l.length cap), (1, .int .i64 i), (2, .int .i64 x), (9, .pointer (some ⟨b9, 0, none⟩)), (11, .pointer (some ⟨b11, 0, none⟩)), (12, .pointer (some ⟨b12, 0, none⟩)), (13, .pointer (some ⟨b13, 0, none⟩)), (14, .pointer (some ⟨b14, 0, none⟩)), (15, .slice A69 l.length c69), (16, .bool _)] ⟨rfl, rfl, rfl, rfl, rfl, rfl, rfl, rfl, rfl, rfl, trivial⟩ ⟨_, rfl, rfl, rfl, by simp; omega⟩
        · try simp only [decide_eq_true_eq, decide_eq_false_iff_not, beq_iff_eq, bne_iff_ne, ne_eq, beq_eq_false_iff_ne, bne_eq_false_iff_eq, Bool.not_eq_true', Bool.not_eq_false', Bool.not_eq_true, Bool.not_eq_false, Decidable.not_not, Int.not_lt, Int.not_le] at g72
          refine opN rfl rfl rfl rfl ?_
          refine opN rfl rfl rfl rfl ?_
          refine opN rfl rfl rfl rfl ?_
          refine opN rfl rfl rfl rfl ?_
          refine op (y (x_pickF rfl rfl) rfl ?_)
          refine op (y (x_assign rfl) rfl ?_)
          refine nil ?_
          first | exact mid [(0, .slice A l.length cap), (1, .int .i64 i), (2, .int .i64 x), (9, .pointer (some ⟨b9, 0, none⟩)), (11, .pointer (some ⟨b11, 0, none⟩)), (12, .pointer (some ⟨b12, 0, none⟩)), (13, .pointer (some ⟨b13, 0, none⟩)), (14, .pointer (some ⟨b14, 0, none⟩)), (15, .slice A69 l.length c69), (16, .bool true)] ⟨rfl, rfl, rfl, rfl, rfl, rfl, rfl, rfl, rfl, rfl, trivial⟩ ⟨true, rfl, rfl, rfl, by simp; omega⟩ | exact mid [(0, .slice A l.length cap), (1, .int .i64 i), (2, .int .i64 x), (9, .pointer (some ⟨b9, 0, none⟩)), (11, .pointer (some ⟨b11, 0, none⟩)), (12, .pointer (some ⟨b12, 0, none⟩)), (13, .pointer (some ⟨b13, 0, none⟩)), (14, .pointer (some ⟨b14, 0, none⟩)), (15, .slice A69 l.length c69), (16, .bool false)] ⟨rfl, rfl, rfl, rfl, rfl, rfl, rfl, rfl, rfl, rfl, trivial⟩ ⟨false, rfl, rfl, rfl, by simp; omega⟩ | exact mid [(0, .slice A l.length cap), (1, .int .i64 i), (2, .int .i64 x), (9, .pointer (some ⟨b9, 0, none⟩)), (11, .pointer (some ⟨b11, 0, none⟩)), (12, .pointer (some ⟨b12, 0, none⟩)), (13, .pointer (some ⟨b13, 0, none⟩)), (14, .pointer (some ⟨b14, 0, none⟩)), (15, .slice A69 l.length c69), (16, .bool _)] ⟨rfl, rfl, rfl, rfl, rfl, rfl, rfl, rfl, rfl, rfl, trivial⟩ ⟨_, rfl, rfl, rfl, by simp; omega⟩
      · rintro F ro' L' ⟨tin, rfl, rfl, rfl, htin⟩
        refine seq ?_
        have hS43b := hS43.mono (hle56.trans (hle59.trans (hle63.trans (hle67.trans hle69))))
        have hl2 := hl1.mono (hle36.trans (hle43.trans (hle56.trans (hle59.trans (hle63.trans (hle67.trans hle69))))))
        refine region ?_
        refine op (y ((by first | exact x_loadOwn 0 _ ag_46 rfl rfl rfl rfl | exact x_loadOwn 1 _ ag_46 rfl rfl rfl rfl | exact x_loadOwn 2 _ ag_46 rfl rfl rfl rfl | exact x_loadOwn 3 _ ag_46 rfl rfl rfl rfl | exact x_loadOwn 4 _ ag_46 rfl rfl rfl rfl | exact x_loadOwn 5 _ ag_46 rfl rfl rfl rfl | exact x_loadOwn 6 _ ag_46 rfl rfl rfl rfl | exact x_loadOwn 7 _ ag_46 rfl rfl rfl rfl | exact x_loadOwn 8 _ ag_46 rfl rfl rfl rfl | exact x_loadOwn 9 _ ag_46 rfl rfl rfl rfl | exact x_loadOwn 10 _ ag_46 rfl rfl rfl rfl | exact x_loadOwn 11 _ ag_46 rfl rfl rfl rfl)) rfl ?_)
        refine op (y (x_move rfl) rfl ?_)
        refine op (e_call rfl fn_25 rfl rfl (AtI_c l A43 c43 i _ _ hS43b) fun v81 ro81 L81 hle81 hp81 => ?_)
        obtain ⟨rfl, rfl, rfl⟩ := hp81
        refine op (y (x_move rfl) rfl ?_)
        refine op (y (x_extract rfl rfl) rfl ?_)
        refine op (y (x_extract rfl rfl) rfl ?_)
        refine op (y (x_assign rfl) rfl ?_)
        refine op (y (x_assign rfl) rfl ?_)
        refine nil ?_
        refine n_then ?_
        refine seqM (fun F ro' L' => ∃ (R15 : List Blk), (F = [(0, .slice A l.length cap), (1, .int .i64 i), (2, .int .i64 x), (9, .pointer (some ⟨b9, 0, none⟩)), (11, .pointer (some ⟨b11, 0, none⟩)), (12, .pointer (some ⟨b12, 0, none⟩)), (13, .pointer (some ⟨b13, 0, none⟩)), (14, .pointer (some ⟨b14, 0, none⟩)), (15, .slice A69 l.length c69), (16, .bool tin), (17, .int .i64 ((atL l i).getD 0)), (18, .bool (atL l i).isSome)]) ∧ (ro69 = ro') ∧ (L' = R15 :: [(b14, Obj.cells [Value.slice A67 ((l ++ [x]) ++ [(IntKind.i64.wrap (x - 1))]).length c67].toArray 46 (0, 0))] :: [(b13, Obj.cells [Value.slice A63 ((l ++ [x]) ++ [(IntKind.i64.wrap (x + 1))]).length c63].toArray 46 (0, 0))] :: [(b12, Obj.cells [Value.slice A59 (l ++ [x]).length c59].toArray 46 (0, 0))] :: [(b11, Obj.cells [Value.slice A56 (setL l i x).length c56].toArray 46 (0, 0))] :: [(b9, Obj.cells [Value.slice A43 l.length c43].toArray 46 (0, 0))] :: Rm :: L) ∧ (OwnS 3 1 A69 (setL l i x).length c69 ((setL l i x).flatMap encInt) R15)) ?_ ?_
        · skip
          refine seq ?_
          refine region ?_
          refine op (y (x_move rfl) rfl ?_)
          refine nil ?_
          refine n_then ?_
          refine cond rfl (fun h19 => ?_) (fun h19 => ?_)
          · try simp only [decide_eq_true_eq, decide_eq_false_iff_not, beq_iff_eq, bne_iff_ne, ne_eq, beq_eq_false_iff_ne, bne_eq_false_iff_eq, Bool.not_eq_true', Bool.not_eq_false', Bool.not_eq_true, Bool.not_eq_false, Decidable.not_not, Int.not_lt, Int.not_le] at h19
            obtain ⟨hi0, hi1⟩ := htin.1 (by first | assumption | simpa using h19)
            obtain ⟨j, hij⟩ := Int.eq_ofNat_of_zero_le hi0
            have hjl : j < l.length := by omega
            obtain ⟨bt, ot, curt, rfl, rfl, _, hct⟩ := hO69.at_ (by omega)
            refine region ?_
            refine op (y (x_move rfl) rfl ?_)
            refine op (y (x_move rfl) rfl ?_)
            refine said 86 (.int .i64 (j : Nat)) rfl (by rw [hij]) ?_
            refine op (y (x_move rfl) rfl ?_)
            refine op (y (x_indexNat sz_26 rfl rfl (by omega)) rfl ?_)
            refine op (e_storeS (q := j * 1) (xs := l.flatMap encInt) (m := l.length) 0 rfl rfl ts_3 rfl rfl rfl rfl hO69 (by simp; omega) (fun _ => rfl) fun R20 hO20 => ?_)
            refine nil ?_
            exact mid [(0, .slice A l.length cap), (1, .int .i64 i), (2, .int .i64 x), (9, .pointer (some ⟨b9, 0, none⟩)), (11, .pointer (some ⟨b11, 0, none⟩)), (12, .pointer (some ⟨b12, 0, none⟩)), (13, .pointer (some ⟨b13, 0, none⟩)), (14, .pointer (some ⟨b14, 0, none⟩)), (15, .slice _ l.length c69), (16, .bool tin), (17, .int .i64 ((atL l i).getD 0)), (18, .bool (atL l i).isSome)] ⟨rfl, rfl, rfl, rfl, rfl, rfl, rfl, rfl, rfl, rfl, rfl, rfl, trivial⟩ ⟨R20, rfl, rfl, rfl, by rw [setL_len, hij, setL_some, ← flat_set (k := 1) (enc := encInt) rfl (fun _ _ => rfl) hjl]; exact hO20⟩
          · try simp only [decide_eq_true_eq, decide_eq_false_iff_not, beq_iff_eq, bne_iff_ne, ne_eq, beq_eq_false_iff_ne, bne_eq_false_iff_eq, Bool.not_eq_true', Bool.not_eq_false', Bool.not_eq_true, Bool.not_eq_false, Decidable.not_not, Int.not_lt, Int.not_le] at h19
            refine skip ?_
            exact mid [(0, .slice A l.length cap), (1, .int .i64 i), (2, .int .i64 x), (9, .pointer (some ⟨b9, 0, none⟩)), (11, .pointer (some ⟨b11, 0, none⟩)), (12, .pointer (some ⟨b12, 0, none⟩)), (13, .pointer (some ⟨b13, 0, none⟩)), (14, .pointer (some ⟨b14, 0, none⟩)), (15, .slice A69 l.length c69), (16, .bool tin), (17, .int .i64 ((atL l i).getD 0)), (18, .bool (atL l i).isSome)] ⟨rfl, rfl, rfl, rfl, rfl, rfl, rfl, rfl, rfl, rfl, rfl, rfl, trivial⟩ ⟨R69, rfl, rfl, rfl, by have hno : ¬ (0 ≤ i ∧ i < (l.length : Int)) := (fun h => by have := htin.2 h; simp_all); rw [setL_none (by omega)]; exact hO69⟩
        · rintro F ro' L' ⟨R15, rfl, rfl, rfl, hO15⟩
          refine seqM (fun F ro' L' => (F = [(0, .slice A l.length cap), (1, .int .i64 i), (2, .int .i64 x), (9, .pointer (some ⟨b9, 0, none⟩)), (11, .pointer (some ⟨b11, 0, none⟩)), (12, .pointer (some ⟨b12, 0, none⟩)), (13, .pointer (some ⟨b13, 0, none⟩)), (14, .pointer (some ⟨b14, 0, none⟩)), (15, .slice A69 l.length c69)]) ∧ (ro69 = ro') ∧ (L' = R15 :: [(b14, Obj.cells [Value.slice A67 ((l ++ [x]) ++ [(IntKind.i64.wrap (x - 1))]).length c67].toArray 46 (0, 0))] :: [(b13, Obj.cells [Value.slice A63 ((l ++ [x]) ++ [(IntKind.i64.wrap (x + 1))]).length c63].toArray 46 (0, 0))] :: [(b12, Obj.cells [Value.slice A59 (l ++ [x]).length c59].toArray 46 (0, 0))] :: [(b11, Obj.cells [Value.slice A56 (setL l i x).length c56].toArray 46 (0, 0))] :: [(b9, Obj.cells [Value.slice A43 l.length c43].toArray 46 (0, 0))] :: Rm :: L)) ?_ ?_
          · skip
            refine seq ?_
            refine region ?_
            refine op (y (x_move rfl) rfl ?_)
            refine op (y (x_move rfl) rfl ?_)
            refine op (y (x_bneq Tryz.underlying4 rfl rfl) rfl ?_)
            refine said 91 (.bool false) rfl (congrArg Value.bool (by rw [atL_is htin]; simp)) ?_
            refine op (y (x_move rfl) rfl ?_)
            refine opG rfl rfl (y (x_move rfl) rfl ?_)
            refine opG rfl rfl (y (x_move rfl) rfl ?_)
            refine bsplit 94 rfl (fun g94 => ?_) (fun g94 => ?_)
            · try simp only [decide_eq_true_eq, decide_eq_false_iff_not, beq_iff_eq, bne_iff_ne, ne_eq, beq_eq_false_iff_ne, bne_eq_false_iff_eq, Bool.not_eq_true', Bool.not_eq_false', Bool.not_eq_true, Bool.not_eq_false, Decidable.not_not, Int.not_lt, Int.not_le] at g94
              obtain ⟨hi0, hi1⟩ := htin.1 g94
              obtain ⟨j, hij⟩ := Int.eq_ofNat_of_zero_le hi0
              obtain ⟨bbx, offx, rfl, hcx⟩ := hl2.at_ (i := j) (by omega)
              have hx := List.getElem?_eq_getElem (show j < l.length from by omega)
              have cx0 := hcx j _ hx 0 _ rfl
              refine opG rfl rfl (y (x_move rfl) rfl ?_)
              refine opG rfl rfl (y (x_move rfl) rfl ?_)
              refine opG rfl rfl (y (x_move rfl) rfl ?_)
              refine said 97 (.int .i64 (j : Nat)) rfl (by rw [hij]) ?_
              refine opG rfl rfl (y (x_indexNat sz_26 rfl rfl (by omega)) rfl ?_)
              refine opG rfl rfl (y (x_load1 ag_3 rfl (by first | assumption | exact Cell.own 0 rfl rfl | exact Cell.own 1 rfl rfl | exact Cell.own 2 rfl rfl | exact Cell.own 3 rfl rfl | exact Cell.own 4 rfl rfl | exact Cell.own 5 rfl rfl | exact Cell.own 6 rfl rfl | exact Cell.own 7 rfl rfl | exact Cell.own 8 rfl rfl | exact Cell.own 9 rfl rfl | exact Cell.ofRo (by assumption))) rfl ?_)
              refine opG rfl rfl (y (x_neq rfl rfl) rfl ?_)
              refine said 100 (.bool false) rfl (congrArg Value.bool (by subst hij; rw [atL_some hx]; simp)) ?_
              refine opG rfl rfl (y (x_pickT rfl rfl) rfl ?_)
              refine op (y (x_pickF rfl rfl) rfl ?_)
              refine op (y (x_move rfl) rfl ?_)
              refine opG rfl rfl (y (x_move rfl) rfl ?_)
              refine opG rfl rfl (y (x_not rfl) rfl ?_)
              refine opG rfl rfl (y (x_move rfl) rfl ?_)
              refine bsplit 106 rfl (fun g106 => ?_) (fun g106 => ?_)
              · try simp only [decide_eq_true_eq, decide_eq_false_iff_not, beq_iff_eq, bne_iff_ne, ne_eq, beq_eq_false_iff_ne, bne_eq_false_iff_eq, Bool.not_eq_true', Bool.not_eq_false', Bool.not_eq_true, Bool.not_eq_false, Decidable.not_not, Int.not_lt, Int.not_le] at g106
                refine opG rfl rfl (y (x_move rfl) rfl ?_)
                refine opG rfl rfl (y (x_neq rfl rfl) rfl ?_)
                refine said 108 (.bool false) rfl (congrArg Value.bool (by rw [atL_none (l := l) (i := i) (by have hno : ¬ (0 ≤ i ∧ i < (l.length : Int)) := (fun h => by have := htin.2 h; simp_all); omega)]; rfl)) ?_
                refine opG rfl rfl (y (x_pickT rfl rfl) rfl ?_)
                refine op (y (x_pickF rfl rfl) rfl ?_)
                refine nil ?_
                refine n_then ?_
                refine condF rfl ?_
                refine skip ?_
                exact mid [(0, .slice _ l.length cap), (1, .int .i64 i), (2, .int .i64 x), (9, .pointer (some ⟨b9, 0, none⟩)), (11, .pointer (some ⟨b11, 0, none⟩)), (12, .pointer (some ⟨b12, 0, none⟩)), (13, .pointer (some ⟨b13, 0, none⟩)), (14, .pointer (some ⟨b14, 0, none⟩)), (15, .slice A69 l.length c69)] ⟨rfl, rfl, rfl, rfl, rfl, rfl, rfl, rfl, rfl, trivial⟩ ⟨rfl, rfl, rfl⟩
              · try simp only [decide_eq_true_eq, decide_eq_false_iff_not, beq_iff_eq, bne_iff_ne, ne_eq, beq_eq_false_iff_ne, bne_eq_false_iff_eq, Bool.not_eq_true', Bool.not_eq_false', Bool.not_eq_true, Bool.not_eq_false, Decidable.not_not, Int.not_lt, Int.not_le] at g106
                refine opN rfl rfl rfl rfl ?_
                refine opN rfl rfl rfl rfl ?_
                refine opG rfl rfl (y (x_pickF rfl rfl) rfl ?_)
                refine op (y (x_pickF rfl rfl) rfl ?_)
                refine nil ?_
                refine n_then ?_
                refine condF rfl ?_
                refine skip ?_
                exact mid [(0, .slice _ l.length cap), (1, .int .i64 i), (2, .int .i64 x), (9, .pointer (some ⟨b9, 0, none⟩)), (11, .pointer (some ⟨b11, 0, none⟩)), (12, .pointer (some ⟨b12, 0, none⟩)), (13, .pointer (some ⟨b13, 0, none⟩)), (14, .pointer (some ⟨b14, 0, none⟩)), (15, .slice A69 l.length c69)] ⟨rfl, rfl, rfl, rfl, rfl, rfl, rfl, rfl, rfl, trivial⟩ ⟨rfl, rfl, rfl⟩
            · try simp only [decide_eq_true_eq, decide_eq_false_iff_not, beq_iff_eq, bne_iff_ne, ne_eq, beq_eq_false_iff_ne, bne_eq_false_iff_eq, Bool.not_eq_true', Bool.not_eq_false', Bool.not_eq_true, Bool.not_eq_false, Decidable.not_not, Int.not_lt, Int.not_le] at g94
              refine opN rfl rfl rfl rfl ?_
              refine opN rfl rfl rfl rfl ?_
              refine opN rfl rfl rfl rfl ?_
              refine opN rfl rfl rfl rfl ?_
              refine opN rfl rfl rfl rfl ?_
              refine opN rfl rfl rfl rfl ?_
              refine opG rfl rfl (y (x_pickF rfl rfl) rfl ?_)
              refine op (y (x_pickF rfl rfl) rfl ?_)
              refine op (y (x_move rfl) rfl ?_)
              refine opG rfl rfl (y (x_move rfl) rfl ?_)
              refine opG rfl rfl (y (x_not rfl) rfl ?_)
              refine opG rfl rfl (y (x_move rfl) rfl ?_)
              refine bsplit 106 rfl (fun g106 => ?_) (fun g106 => ?_)
              · try simp only [decide_eq_true_eq, decide_eq_false_iff_not, beq_iff_eq, bne_iff_ne, ne_eq, beq_eq_false_iff_ne, bne_eq_false_iff_eq, Bool.not_eq_true', Bool.not_eq_false', Bool.not_eq_true, Bool.not_eq_false, Decidable.not_not, Int.not_lt, Int.not_le] at g106
                refine opG rfl rfl (y (x_move rfl) rfl ?_)
                refine opG rfl rfl (y (x_neq rfl rfl) rfl ?_)
                refine said 108 (.bool false) rfl (congrArg Value.bool (by rw [atL_none (l := l) (i := i) (by have hno : ¬ (0 ≤ i ∧ i < (l.length : Int)) := (fun h => by have := htin.2 h; simp_all); omega)]; rfl)) ?_
                refine opG rfl rfl (y (x_pickT rfl rfl) rfl ?_)
                refine op (y (x_pickF rfl rfl) rfl ?_)
                refine nil ?_
                refine n_then ?_
                refine condF rfl ?_
                refine skip ?_
                exact mid [(0, .slice _ l.length cap), (1, .int .i64 i), (2, .int .i64 x), (9, .pointer (some ⟨b9, 0, none⟩)), (11, .pointer (some ⟨b11, 0, none⟩)), (12, .pointer (some ⟨b12, 0, none⟩)), (13, .pointer (some ⟨b13, 0, none⟩)), (14, .pointer (some ⟨b14, 0, none⟩)), (15, .slice A69 l.length c69)] ⟨rfl, rfl, rfl, rfl, rfl, rfl, rfl, rfl, rfl, trivial⟩ ⟨rfl, rfl, rfl⟩
              · try simp only [decide_eq_true_eq, decide_eq_false_iff_not, beq_iff_eq, bne_iff_ne, ne_eq, beq_eq_false_iff_ne, bne_eq_false_iff_eq, Bool.not_eq_true', Bool.not_eq_false', Bool.not_eq_true, Bool.not_eq_false, Decidable.not_not, Int.not_lt, Int.not_le] at g106
                refine opN rfl rfl rfl rfl ?_
                refine opN rfl rfl rfl rfl ?_
                refine opG rfl rfl (y (x_pickF rfl rfl) rfl ?_)
                refine op (y (x_pickF rfl rfl) rfl ?_)
                refine nil ?_
                refine n_then ?_
                refine condF rfl ?_
                refine skip ?_
                exact mid [(0, .slice _ l.length cap), (1, .int .i64 i), (2, .int .i64 x), (9, .pointer (some ⟨b9, 0, none⟩)), (11, .pointer (some ⟨b11, 0, none⟩)), (12, .pointer (some ⟨b12, 0, none⟩)), (13, .pointer (some ⟨b13, 0, none⟩)), (14, .pointer (some ⟨b14, 0, none⟩)), (15, .slice A69 l.length c69)] ⟨rfl, rfl, rfl, rfl, rfl, rfl, rfl, rfl, rfl, trivial⟩ ⟨rfl, rfl, rfl⟩
          · rintro F ro' L' ⟨rfl, rfl, rfl⟩
            refine seq ?_
            refine ufreeze fun rzW hzW hzRW => ?_
            have hSw := hO15.sl int_len hzRW
            have hlW := hl2.mono hzW
            have hS43W := hS43b.mono hzW
            have hS56W := hS56.mono (hle59.trans (hle63.trans (hle67.trans (hle69.trans hzW))))
            have hS59W := hS59.mono (hle63.trans (hle67.trans (hle69.trans hzW)))
            have hS63W := hS63.mono (hle67.trans (hle69.trans hzW))
            have hS67W := hS67.mono (hle69.trans hzW)
            refine said 15 (.slice A69 (setL l i x).length c69) rfl (by rw [setL_len]) ?_
            refine region ?_
            refine op (y ((by first | exact x_loadOwn 0 _ ag_46 rfl rfl rfl rfl | exact x_loadOwn 1 _ ag_46 rfl rfl rfl rfl | exact x_loadOwn 2 _ ag_46 rfl rfl rfl rfl | exact x_loadOwn 3 _ ag_46 rfl rfl rfl rfl | exact x_loadOwn 4 _ ag_46 rfl rfl rfl rfl | exact x_loadOwn 5 _ ag_46 rfl rfl rfl rfl | exact x_loadOwn 6 _ ag_46 rfl rfl rfl rfl | exact x_loadOwn 7 _ ag_46 rfl rfl rfl rfl | exact x_loadOwn 8 _ ag_46 rfl rfl rfl rfl | exact x_loadOwn 9 _ ag_46 rfl rfl rfl rfl | exact x_loadOwn 10 _ ag_46 rfl rfl rfl rfl | exact x_loadOwn 11 _ ag_46 rfl rfl rfl rfl)) rfl ?_)
            refine op (e_call rfl fn_27 rfl rfl (PO.frozen int_len (AllI_o l A43 c43 _ _ hS43W (by omega))) fun v112 ro112 L112 hle112 hp112 => ?_)
            obtain ⟨A112, c112, rfl, hS112, rfl⟩ := hp112
            refine op (y (x_move rfl) rfl ?_)
            refine op (e_call rfl fn_26 rfl rfl (SameInts_c l _ _ l _ _ _ _ hS112 (hlW.mono hle112)) fun v114 ro114 L114 hle114 hp114 => ?_)
            obtain ⟨rfl, rfl, rfl⟩ := hp114
            refine said 114 (.bool true) rfl (congrArg Value.bool (by simp)) ?_
            refine op (y (x_assign rfl) rfl ?_)
            refine nil ?_
            refine n_then ?_
            refine seq ?_
            refine region ?_
            refine op (y ((by first | exact x_loadOwn 0 _ ag_46 rfl rfl rfl rfl | exact x_loadOwn 1 _ ag_46 rfl rfl rfl rfl | exact x_loadOwn 2 _ ag_46 rfl rfl rfl rfl | exact x_loadOwn 3 _ ag_46 rfl rfl rfl rfl | exact x_loadOwn 4 _ ag_46 rfl rfl rfl rfl | exact x_loadOwn 5 _ ag_46 rfl rfl rfl rfl | exact x_loadOwn 6 _ ag_46 rfl rfl rfl rfl | exact x_loadOwn 7 _ ag_46 rfl rfl rfl rfl | exact x_loadOwn 8 _ ag_46 rfl rfl rfl rfl | exact x_loadOwn 9 _ ag_46 rfl rfl rfl rfl | exact x_loadOwn 10 _ ag_46 rfl rfl rfl rfl | exact x_loadOwn 11 _ ag_46 rfl rfl rfl rfl)) rfl ?_)
            refine op (e_call rfl fn_27 rfl rfl (PO.frozen int_len (AllI_o (setL l i x) A56 c56 _ _ (hS56W.mono hle112) (by rw [setL_len]; omega))) fun v116 ro116 L116 hle116 hp116 => ?_)
            obtain ⟨A116, c116, rfl, hS116, rfl⟩ := hp116
            refine op (y (x_move rfl) rfl ?_)
            refine op (e_call rfl fn_26 rfl rfl (SameInts_c (setL l i x) _ _ (setL l i x) _ _ _ _ hS116 (hSw.mono (hle112.trans hle116))) fun v118 ro118 L118 hle118 hp118 => ?_)
            obtain ⟨rfl, rfl, rfl⟩ := hp118
            refine said 118 (.bool true) rfl (congrArg Value.bool (by simp)) ?_
            refine op (y (x_assign rfl) rfl ?_)
            refine nil ?_
            refine n_then ?_
            refine seq ?_
            refine region ?_
            refine op (y ((by first | exact x_loadOwn 0 _ ag_46 rfl rfl rfl rfl | exact x_loadOwn 1 _ ag_46 rfl rfl rfl rfl | exact x_loadOwn 2 _ ag_46 rfl rfl rfl rfl | exact x_loadOwn 3 _ ag_46 rfl rfl rfl rfl | exact x_loadOwn 4 _ ag_46 rfl rfl rfl rfl | exact x_loadOwn 5 _ ag_46 rfl rfl rfl rfl | exact x_loadOwn 6 _ ag_46 rfl rfl rfl rfl | exact x_loadOwn 7 _ ag_46 rfl rfl rfl rfl | exact x_loadOwn 8 _ ag_46 rfl rfl rfl rfl | exact x_loadOwn 9 _ ag_46 rfl rfl rfl rfl | exact x_loadOwn 10 _ ag_46 rfl rfl rfl rfl | exact x_loadOwn 11 _ ag_46 rfl rfl rfl rfl)) rfl ?_)
            refine op (e_call rfl fn_27 rfl rfl (PO.frozen int_len (AllI_o (l ++ [x]) A59 c59 _ _ (hS59W.mono (hle112.trans hle116)) (by simp; omega))) fun v120 ro120 L120 hle120 hp120 => ?_)
            obtain ⟨A120, c120, rfl, hS120, rfl⟩ := hp120
            refine op (y (x_move rfl) rfl ?_)
            refine op (e_call rfl fn_21 rfl rfl (Ints_o l A cap _ _ (hlW.mono (hle112.trans (hle116.trans hle120))) (by omega)) fun v122 ro122 L122 hle122 hp122 => ?_)
            obtain ⟨A122, c122, R122, rfl, hO122, rfl⟩ := hp122
            refine op (y (x_move rfl) rfl ?_)
            refine op (e_slice1 rfl Tryz.underlying26 ti_3 rfl rfl (by decide) (by decide) rfl rfl rfl fun b124 => ?_)
            refine op (e_append1 0 rfl st_26 rfl rfl rfl hO122 rfl rfl (by omega) (by omega) (fun _ => rfl) fun A125 cap125 R125 hO125 => ?_)
            have hO125x := (hO125.cast (m' := (l ++ [x]).length) (by simp) fm_app)
            refine ufreeze fun rz125 hz125 hzR125 => ?_
            have hSz125 := hO125x.sl int_len hzR125
            refine said 125 (.slice A125 (l ++ [x]).length cap125) rfl (by simp) ?_
            have le1 := hle112.trans (hle116.trans (hle120.trans (hle122.trans hz125)))
            refine op (e_call rfl fn_26 rfl rfl (SameInts_c (l ++ [x]) _ _ (l ++ [x]) _ _ _ _ (hS120.mono (hle122.trans hz125)) hSz125) fun v126 ro126 L126 hle126 hp126 => ?_)
            obtain ⟨rfl, rfl, rfl⟩ := hp126
            refine said 126 (.bool true) rfl (congrArg Value.bool (by simp)) ?_
            refine op (y (x_assign rfl) rfl ?_)
            refine nil ?_
            refine n_then ?_
            refine seq ?_
            refine region ?_
            refine op (y ((by first | exact x_loadOwn 0 _ ag_46 rfl rfl rfl rfl | exact x_loadOwn 1 _ ag_46 rfl rfl rfl rfl | exact x_loadOwn 2 _ ag_46 rfl rfl rfl rfl | exact x_loadOwn 3 _ ag_46 rfl rfl rfl rfl | exact x_loadOwn 4 _ ag_46 rfl rfl rfl rfl | exact x_loadOwn 5 _ ag_46 rfl rfl rfl rfl | exact x_loadOwn 6 _ ag_46 rfl rfl rfl rfl | exact x_loadOwn 7 _ ag_46 rfl rfl rfl rfl | exact x_loadOwn 8 _ ag_46 rfl rfl rfl rfl | exact x_loadOwn 9 _ ag_46 rfl rfl rfl rfl | exact x_loadOwn 10 _ ag_46 rfl rfl rfl rfl | exact x_loadOwn 11 _ ag_46 rfl rfl rfl rfl)) rfl ?_)
            refine op (e_call rfl fn_27 rfl rfl (PO.frozen int_len (AllI_o ((l ++ [x]) ++ [(IntKind.i64.wrap (x + 1))]) A63 c63 _ _ (hS63W.mono le1) (by simp; omega))) fun v128 ro128 L128 hle128 hp128 => ?_)
            obtain ⟨A128, c128, rfl, hS128, rfl⟩ := hp128
            refine op (y (x_move rfl) rfl ?_)
            refine op (e_call rfl fn_21 rfl rfl (Ints_o l A cap _ _ (hlW.mono (le1.trans hle128)) (by omega)) fun v130 ro130 L130 hle130 hp130 => ?_)
            obtain ⟨A130, c130, R130, rfl, hO130, rfl⟩ := hp130
            refine op (y (x_move rfl) rfl ?_)
            refine op (y (x_move rfl) rfl ?_)
            refine op (y (x_add rfl rfl _ (rfl)) rfl ?_)
            refine op (e_sliceN (zs := [.int .i64 0, .int .i64 0]) rfl Tryz.underlying26 ti_3 tz_3 rfl (by decide) (by decide) (by kernel_rfl) rfl rfl fun b134 => ?_)
            refine op (e_append 1 rfl st_26 rfl rfl rfl hO130 (OwnS.src (e := 3) (cap := 2) (R := [(b134, _)]) (OwnS.lit rfl (by decide)) (fun q hq => List.mem_append_left _ hq)) (by intro u hu; simp at hu; rcases hu with rfl | rfl <;> rfl) (by omega) (by omega) (fun _ => rfl) fun A135 cap135 R135 hO135 => ?_)
            refine drop0 ?_
            have hO135x := (hO135.cast (m' := ((l ++ [x]) ++ [(IntKind.i64.wrap (x + 1))]).length) (by simp) fm_app2)
            refine ufreeze fun rz135 hz135 hzR135 => ?_
            have hSz135 := hO135x.sl int_len hzR135
            refine said 135 (.slice A135 ((l ++ [x]) ++ [(IntKind.i64.wrap (x + 1))]).length cap135) rfl (by simp) ?_
            have le2 := le1.trans (hle128.trans (hle130.trans hz135))
            refine op (e_call rfl fn_26 rfl rfl (SameInts_c ((l ++ [x]) ++ [(IntKind.i64.wrap (x + 1))]) _ _ ((l ++ [x]) ++ [(IntKind.i64.wrap (x + 1))]) _ _ _ _ (hS128.mono (hle130.trans hz135)) hSz135) fun v136 ro136 L136 hle136 hp136 => ?_)
            obtain ⟨rfl, rfl, rfl⟩ := hp136
            refine said 136 (.bool true) rfl (congrArg Value.bool (by simp)) ?_
            refine op (y (x_move rfl) rfl ?_)
            refine opG rfl rfl (y ((by first | exact x_loadOwn 0 _ ag_46 rfl rfl rfl rfl | exact x_loadOwn 1 _ ag_46 rfl rfl rfl rfl | exact x_loadOwn 2 _ ag_46 rfl rfl rfl rfl | exact x_loadOwn 3 _ ag_46 rfl rfl rfl rfl | exact x_loadOwn 4 _ ag_46 rfl rfl rfl rfl | exact x_loadOwn 5 _ ag_46 rfl rfl rfl rfl | exact x_loadOwn 6 _ ag_46 rfl rfl rfl rfl | exact x_loadOwn 7 _ ag_46 rfl rfl rfl rfl | exact x_loadOwn 8 _ ag_46 rfl rfl rfl rfl | exact x_loadOwn 9 _ ag_46 rfl rfl rfl rfl | exact x_loadOwn 10 _ ag_46 rfl rfl rfl rfl | exact x_loadOwn 11 _ ag_46 rfl rfl rfl rfl)) rfl ?_)
            refine opG rfl rfl (e_call rfl fn_27 rfl rfl (PO.frozen int_len (AllI_o ((l ++ [x]) ++ [(IntKind.i64.wrap (x - 1))]) A67 c67 _ _ (hS67W.mono le2) (by simp; omega))) fun v139 ro139 L139 hle139 hp139 => ?_)
            obtain ⟨A139, c139, rfl, hS139, rfl⟩ := hp139
            refine opG rfl rfl (y (x_move rfl) rfl ?_)
            refine opG rfl rfl (e_call rfl fn_21 rfl rfl (Ints_o l A cap _ _ (hlW.mono (le2.trans hle139)) (by omega)) fun v141 ro141 L141 hle141 hp141 => ?_)
            obtain ⟨A141, c141, R141, rfl, hO141, rfl⟩ := hp141
            refine opG rfl rfl (y (x_move rfl) rfl ?_)
            refine opG rfl rfl (y (x_move rfl) rfl ?_)
            refine opG rfl rfl (y (x_sub rfl rfl _ (rfl)) rfl ?_)
            refine opG rfl rfl (e_sliceN (zs := [.int .i64 0, .int .i64 0]) rfl Tryz.underlying26 ti_3 tz_3 rfl (by decide) (by decide) (by kernel_rfl) rfl rfl fun b145 => ?_)
            refine opG rfl rfl (e_append 1 rfl st_26 rfl rfl rfl hO141 (OwnS.src (e := 3) (cap := 2) (R := [(b145, _)]) (OwnS.lit rfl (by decide)) (fun q hq => List.mem_append_left _ hq)) (by intro u hu; simp at hu; rcases hu with rfl | rfl <;> rfl) (by omega) (by omega) (fun _ => rfl) fun A146 cap146 R146 hO146 => ?_)
            refine drop0 ?_
            have hO146x := (hO146.cast (m' := ((l ++ [x]) ++ [(IntKind.i64.wrap (x - 1))]).length) (by simp) fm_app2)
            refine ufreeze fun rz146 hz146 hzR146 => ?_
            have hSz146 := hO146x.sl int_len hzR146
            refine said 146 (.slice A146 ((l ++ [x]) ++ [(IntKind.i64.wrap (x - 1))]).length cap146) rfl (by simp) ?_
            have le3 := le2.trans (hle139.trans (hle141.trans hz146))
            refine opG rfl rfl (e_call rfl fn_26 rfl rfl (SameInts_c ((l ++ [x]) ++ [(IntKind.i64.wrap (x - 1))]) _ _ ((l ++ [x]) ++ [(IntKind.i64.wrap (x - 1))]) _ _ _ _ (hS139.mono (hle141.trans hz146)) hSz146) fun v147 ro147 L147 hle147 hp147 => ?_)
            obtain ⟨rfl, rfl, rfl⟩ := hp147
            refine said 147 (.bool true) rfl (congrArg Value.bool (by simp)) ?_
            refine op (y (x_pickT rfl rfl) rfl ?_)
            refine op (y (x_assign rfl) rfl ?_)
            refine nil ?_
            refine n_then ?_
            refine seq ?_
            refine region ?_
            refine op (e_alloc rfl zc_56 rfl fun b23 => ?_)
            refine nil ?_
            refine n_then ?_
            refine seq ?_
            refine region ?_
            refine op (y (x_move rfl) rfl ?_)
            refine op (y (x_move rfl) rfl ?_)
            refine opG rfl rfl (y (x_move rfl) rfl ?_)
            refine op (y (x_pickT rfl rfl) rfl ?_)
            refine op (y (x_move rfl) rfl ?_)
            refine opG rfl rfl (y (x_move rfl) rfl ?_)
            refine op (y (x_pickT rfl rfl) rfl ?_)
            refine op (y (x_move rfl) rfl ?_)
            refine opG rfl rfl (y (x_move rfl) rfl ?_)
            refine op (y (x_pickT rfl rfl) rfl ?_)
            refine op (y (x_move rfl) rfl ?_)
            refine opG rfl rfl (y ((by first | exact x_loadOwn 0 _ ag_46 rfl rfl rfl rfl | exact x_loadOwn 1 _ ag_46 rfl rfl rfl rfl | exact x_loadOwn 2 _ ag_46 rfl rfl rfl rfl | exact x_loadOwn 3 _ ag_46 rfl rfl rfl rfl | exact x_loadOwn 4 _ ag_46 rfl rfl rfl rfl | exact x_loadOwn 5 _ ag_46 rfl rfl rfl rfl | exact x_loadOwn 6 _ ag_46 rfl rfl rfl rfl | exact x_loadOwn 7 _ ag_46 rfl rfl rfl rfl | exact x_loadOwn 8 _ ag_46 rfl rfl rfl rfl | exact x_loadOwn 9 _ ag_46 rfl rfl rfl rfl | exact x_loadOwn 10 _ ag_46 rfl rfl rfl rfl | exact x_loadOwn 11 _ ag_46 rfl rfl rfl rfl)) rfl ?_)
            refine opG rfl rfl (e_call rfl fn_28 rfl rfl (LenI_c l A43 c43 _ _ (hS43W.mono le3)) fun v161 ro161 L161 hle161 hp161 => ?_)
            obtain ⟨rfl, rfl, rfl⟩ := hp161
            refine opG rfl rfl (y (x_move rfl) rfl ?_)
            refine opG rfl rfl (y (x_lenSl sz_26 rfl) rfl ?_)
            refine opG rfl rfl (y (x_eql rfl rfl) rfl ?_)
            refine said 164 (.bool true) rfl (congrArg Value.bool (by simp)) ?_
            refine op (y (x_pickT rfl rfl) rfl ?_)
            refine op (y (x_move rfl) rfl ?_)
            refine opG rfl rfl (y ((by first | exact x_loadOwn 0 _ ag_46 rfl rfl rfl rfl | exact x_loadOwn 1 _ ag_46 rfl rfl rfl rfl | exact x_loadOwn 2 _ ag_46 rfl rfl rfl rfl | exact x_loadOwn 3 _ ag_46 rfl rfl rfl rfl | exact x_loadOwn 4 _ ag_46 rfl rfl rfl rfl | exact x_loadOwn 5 _ ag_46 rfl rfl rfl rfl | exact x_loadOwn 6 _ ag_46 rfl rfl rfl rfl | exact x_loadOwn 7 _ ag_46 rfl rfl rfl rfl | exact x_loadOwn 8 _ ag_46 rfl rfl rfl rfl | exact x_loadOwn 9 _ ag_46 rfl rfl rfl rfl | exact x_loadOwn 10 _ ag_46 rfl rfl rfl rfl | exact x_loadOwn 11 _ ag_46 rfl rfl rfl rfl)) rfl ?_)
            refine opG rfl rfl (e_call rfl fn_28 rfl rfl (LenI_c (l ++ [x]) A59 c59 _ _ (hS59W.mono le3)) fun v168 ro168 L168 hle168 hp168 => ?_)
            obtain ⟨rfl, rfl, rfl⟩ := hp168
            refine opG rfl rfl (y (x_move rfl) rfl ?_)
            refine opG rfl rfl (y (x_lenSl sz_26 rfl) rfl ?_)
            refine opG rfl rfl (y (x_add rfl rfl _ (wr (by omega) (by omega))) rfl ?_)
            refine opG rfl rfl (y (x_eql rfl rfl) rfl ?_)
            refine said 172 (.bool true) rfl (congrArg Value.bool (by simp)) ?_
            refine op (y (x_pickT rfl rfl) rfl ?_)
            refine op (y (x_move rfl) rfl ?_)
            refine opG rfl rfl (y ((by first | exact x_loadOwn 0 _ ag_56 rfl rfl rfl rfl | exact x_loadOwn 1 _ ag_56 rfl rfl rfl rfl | exact x_loadOwn 2 _ ag_56 rfl rfl rfl rfl | exact x_loadOwn 3 _ ag_56 rfl rfl rfl rfl | exact x_loadOwn 4 _ ag_56 rfl rfl rfl rfl | exact x_loadOwn 5 _ ag_56 rfl rfl rfl rfl | exact x_loadOwn 6 _ ag_56 rfl rfl rfl rfl | exact x_loadOwn 7 _ ag_56 rfl rfl rfl rfl | exact x_loadOwn 8 _ ag_56 rfl rfl rfl rfl | exact x_loadOwn 9 _ ag_56 rfl rfl rfl rfl | exact x_loadOwn 10 _ ag_56 rfl rfl rfl rfl | exact x_loadOwn 11 _ ag_56 rfl rfl rfl rfl)) rfl ?_)
            refine opG rfl rfl (e_call rfl fn_29 rfl rfl (LenW_c [] none 0 _ _ sl_nil) fun v176 ro176 L176 hle176 hp176 => ?_)
            obtain ⟨rfl, rfl, rfl⟩ := hp176
            refine opG rfl rfl (y (x_eql rfl rfl) rfl ?_)
            refine said 177 (.bool true) rfl (congrArg Value.bool (by simp)) ?_
            refine op (y (x_pickT rfl rfl) rfl ?_)
            refine op (y (x_move rfl) rfl ?_)
            refine opG rfl rfl (y ((by first | exact x_loadOwn 0 _ ag_56 rfl rfl rfl rfl | exact x_loadOwn 1 _ ag_56 rfl rfl rfl rfl | exact x_loadOwn 2 _ ag_56 rfl rfl rfl rfl | exact x_loadOwn 3 _ ag_56 rfl rfl rfl rfl | exact x_loadOwn 4 _ ag_56 rfl rfl rfl rfl | exact x_loadOwn 5 _ ag_56 rfl rfl rfl rfl | exact x_loadOwn 6 _ ag_56 rfl rfl rfl rfl | exact x_loadOwn 7 _ ag_56 rfl rfl rfl rfl | exact x_loadOwn 8 _ ag_56 rfl rfl rfl rfl | exact x_loadOwn 9 _ ag_56 rfl rfl rfl rfl | exact x_loadOwn 10 _ ag_56 rfl rfl rfl rfl | exact x_loadOwn 11 _ ag_56 rfl rfl rfl rfl)) rfl ?_)
            refine opG rfl rfl (e_call rfl fn_30 rfl rfl (PLO.frozen enc_w (AndW_o [] none 0 _ _ sl_nil (by simp) ⟨#[120]⟩)) fun v181 ro181 L181 hle181 hp181 => ?_)
            obtain ⟨A181, c181, rfl, hS181, rfl⟩ := hp181
            have hS181 : Sl _ 1 encW A181 c181 [⟨#[120]⟩] := hS181
            refine said 181 (.agg [.slice A181 1 c181].toArray) rfl rfl ?_
            refine opG rfl rfl (e_call rfl fn_31 rfl rfl (PO.frozen enc_w (AllW_o [⟨#[120]⟩] A181 c181 _ _ hS181 (by simp))) fun v182 ro182 L182 hle182 hp182 => ?_)
            obtain ⟨A182, c182, rfl, hS182, rfl⟩ := hp182
            refine opG rfl rfl (y (x_lenSl sz_54 rfl) rfl ?_)
            refine opG rfl rfl (y (x_eql rfl rfl) rfl ?_)
            refine said 184 (.bool true) rfl (congrArg Value.bool (by simp)) ?_
            refine op (y (x_pickT rfl rfl) rfl ?_)
            refine op (y (x_assign rfl) rfl ?_)
            refine nil ?_
            refine n_then ?_
            refine ret ?_
            exact done rfl (.tmp rfl (.nil)) (hle24.trans (hle36.trans (hle43.trans (hle56.trans (hle59.trans (hle63.trans (hle67.trans (hle69.trans (hzW.trans (le3.trans (hle181.trans hle182))))))))))) (L) (subF (by (repeat (first | exact List.Sublist.refl _ | apply List.Sublist.cons_cons | apply List.Sublist.cons)); done)) (⟨rfl, rfl⟩)

end Go.Proofs.YtgkngljojfkkfaaGreatDoor
