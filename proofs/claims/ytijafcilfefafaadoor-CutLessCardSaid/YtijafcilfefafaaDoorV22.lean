/- The walk of CutLess. -/
import Derived.Test.YtijafcilfefafaaDoorV21
namespace Go.Proofs.YtijafcilfefafaaDoor
open Go Go.U
set_option maxRecDepth 20000
set_option linter.unusedSimpArgs false
set_option linter.unusedVariables false

/-- .. where the function that tells what is kept changes nothing -/
theorem Only_p (h : Hi) (A : Option Addr) (cA : Nat) (B : Option Addr) (cB : Nat) (ro : Ro) (L : List (List Blk)) (hh : SH ro A cA B cB h) (hn1 : h.os.length ≤ 100) (hn2 : h.es.length ≤ 600) (fk : FuncId) (caps : List Value) (hfn : Fun Tryd.prog fk) (q : Int → Bool)
    (hq : ∀ (t : Int) (ro' : Ro) (L' : List (List Blk)), ro.le ro' → (∀ x ∈ L.flatten, x ∈ L'.flatten) → CT Tryd.prog fk ([Value.int .i64 t] ++ caps).toArray ro' L' (PQ (.bool (q t)) ro' L')) :
    CT Tryd.prog 17 [.agg [.slice A h.os.length cA, .slice B h.es.length cB].toArray, .func (.func fk) #[] caps.toArray].toArray ro L (PHo (onT h q) L) :=
  PHk.owned (Only_c h A cA B cB ro L hh hn1 hn2 fk caps hfn q (fun _ Lx => Lx = L) (fun i e Lx L0 ro' hro hie hL => by
    subst hL
    refine (hq e.tx ro' (Lx ++ L0) hro (fun x hx => by rw [List.flatten_append]; exact List.mem_append_left _ hx)).mono fun v ro2 L2 _ hp => ?_
    obtain ⟨rfl, rfl, rfl⟩ := hp
    exact ⟨rfl, Lx, rfl, rfl⟩) rfl)
theorem sub_pre (h : Hi) (n : Int) : SubH (pre h n) h := ⟨rfl, List.take_sublist _ _⟩
theorem sub_wo (h : Hi) (a : Int) : SubH (woT h a) h := ⟨rfl, List.filter_sublist⟩
theorem sub_trans {x y z : Hi} (h : SubH x y) (g : SubH y z) : SubH x z := ⟨h.1.trans g.1, h.2.trans g.2⟩
theorem sub_refl (h : Hi) : SubH h h := ⟨rfl, List.Sublist.refl _⟩
theorem sub_anti {x y : Hi} (h : SubH x y) (g : SubH y x) : x = y := hi_iff.2 ⟨h.1, h.2.eq_of_length (Nat.le_antisymm h.2.length_le g.2.length_le)⟩
theorem kp_sub (p : Nat → Ev → Bool) (es : List Ev) : (kp p es).Sublist es := by
  unfold kp
  have h1 : (es.zipIdx.filter (fun x => p x.2 x.1)).Sublist es.zipIdx := List.filter_sublist
  have := h1.map (·.1)
  rwa [List.zipIdx_map_fst] at this
theorem sub_kp {h r : Hi} {p : Nat → Ev → Bool} (e : some (⟨h.os, kp p h.es⟩ : Hi) = some r) : SubH r h := by
  cases e
  exact ⟨rfl, kp_sub p h.es⟩
theorem sub_drop {h r : Hi} {tx k : Int} (hd : dropM h tx k = some r) : SubH r h := by
  unfold dropM at hd
  repeat' split at hd
  all_goals first | (cases hd; done) | exact sub_kp hd
theorem wo_wo (h : Hi) (a b : Int) : woT (woT h a) b = onT h (fun t => decide (t ≠ a ∧ t ≠ b)) := by
  unfold woT onT
  congr 1
  rw [List.filter_filter]
  refine List.filter_congr fun e _ => ?_
  by_cases h1 : e.tx = a <;> by_cases h2 : e.tx = b <;> simp [h1, h2]
theorem on_comm (h : Hi) (a b : Int) : onT h (fun t => decide (t ≠ a ∧ t ≠ b)) = onT h (fun t => decide (t ≠ b ∧ t ≠ a)) := by
  congr 1
  funext t
  rw [decide_eq_decide]
  exact And.comm
theorem pre_on (h : Hi) (n : Int) (q : Int → Bool) {mq : Nat} (hm : mq = ((pre h n).es.filter (fun e => q e.tx)).length) : pre (onT h q) (mq : Int) = onT (pre h n) q := by
  unfold pre onT at *
  simp only at *
  congr 1
  have e1 : h.es = h.es.take (cutN n h.es.length) ++ h.es.drop (cutN n h.es.length) := (List.take_append_drop _ _).symm
  have e2 : h.es.filter (fun e => q e.tx) = (h.es.take (cutN n h.es.length)).filter (fun e => q e.tx) ++ (h.es.drop (cutN n h.es.length)).filter (fun e => q e.tx) := by
    rw [← List.filter_append, ← e1]
  have hc : cutN (mq : Int) (h.es.filter (fun e => q e.tx)).length = mq := by
    have : mq ≤ (h.es.filter (fun e => q e.tx)).length := by rw [hm, e2, List.length_append]; omega
    unfold cutN
    omega
  rw [hc, e2, hm, List.take_left]

theorem Less1_c (t a b : Int) (b7 b8 : Nat) (ro : Ro) (L : List (List Blk)) (h7 : (b7, Obj.cells [Value.int .i64 a].toArray 3 (0, 0)) ∈ L.flatten) (h8 : (b8, Obj.cells [Value.int .i64 b].toArray 3 (0, 0)) ∈ L.flatten) :
    CT Tryd.prog 24 [.int .i64 t, .pointer (some ⟨b7, 0, none⟩), .pointer (some ⟨b8, 0, none⟩)].toArray ro L (PQ (.bool (decide (t ≠ a ∧ t ≠ b))) ro L) := by
  refine enter Tryd.func24 rfl Tryd.ntmps24 rfl ?_
  refine seq ?_
  refine region ?_
  refine op (y (x_assign rfl) rfl ?_)
  refine nil ?_
  refine n_then ?_
  refine seq ?_
  refine region ?_
  refine op (y (x_move rfl) rfl ?_)
  refine op (y (x_load1 ag_3 rfl (Cell.blk h7 rfl)) rfl ?_)
  refine op (y (x_neq rfl rfl) rfl ?_)
  refine op (y (x_move rfl) rfl ?_)
  refine bsplit 8 rfl (fun g8 => ?_) (fun g8 => ?_)
  · try simp only [decide_eq_true_eq, decide_eq_false_iff_not, beq_iff_eq, bne_iff_ne, ne_eq, beq_eq_false_iff_ne, bne_eq_false_iff_eq, Bool.not_eq_true', Bool.not_eq_false', Bool.not_eq_true, Bool.not_eq_false, Decidable.not_not, Int.not_lt, Int.not_le] at g8
    refine opG rfl rfl (y (x_move rfl) rfl ?_)
    refine opG rfl rfl (y (x_load1 ag_3 rfl (Cell.blk h8 rfl)) rfl ?_)
    refine opG rfl rfl (y (x_neq rfl rfl) rfl ?_)
    refine op (y (x_pickT rfl rfl) rfl ?_)
    refine op (y (x_assign rfl) rfl ?_)
    refine nil ?_
    refine n_then ?_
    refine ret ?_
    exact done rfl (.tmp rfl (.nil)) (Ro.le.refl _) (L) (⟨_, .refl _, .refl _⟩) (⟨by simp only [tupled]; congr 1; grind, rfl, rfl⟩)
  · try simp only [decide_eq_true_eq, decide_eq_false_iff_not, beq_iff_eq, bne_iff_ne, ne_eq, beq_eq_false_iff_ne, bne_eq_false_iff_eq, Bool.not_eq_true', Bool.not_eq_false', Bool.not_eq_true, Bool.not_eq_false, Decidable.not_not, Int.not_lt, Int.not_le] at g8
    refine opN rfl rfl rfl rfl ?_
    refine opN rfl rfl rfl rfl ?_
    refine opN rfl rfl rfl rfl ?_
    refine op (y (x_pickF rfl rfl) rfl ?_)
    refine op (y (x_assign rfl) rfl ?_)
    refine nil ?_
    refine n_then ?_
    refine ret ?_
    exact done rfl (.tmp rfl (.nil)) (Ro.le.refl _) (L) (⟨_, .refl _, .refl _⟩) (⟨by simp only [tupled]; congr 1; grind, rfl, rfl⟩)

theorem Less2_c (t a : Int) (b7 : Nat) (ro : Ro) (L : List (List Blk)) (h7 : (b7, Obj.cells [Value.int .i64 a].toArray 3 (0, 0)) ∈ L.flatten) :
    CT Tryd.prog 25 [.int .i64 t, .pointer (some ⟨b7, 0, none⟩)].toArray ro L (PQ (.bool (decide (t = a))) ro L) := by
  refine enter Tryd.func25 rfl Tryd.ntmps25 rfl ?_
  refine seq ?_
  refine region ?_
  refine op (y (x_assign rfl) rfl ?_)
  refine nil ?_
  refine n_then ?_
  refine seq ?_
  refine region ?_
  refine op (y (x_move rfl) rfl ?_)
  refine op (y (x_load1 ag_3 rfl (Cell.blk h7 rfl)) rfl ?_)
  refine op (y (x_eql rfl rfl) rfl ?_)
  refine op (y (x_assign rfl) rfl ?_)
  refine nil ?_
  refine n_then ?_
  refine ret ?_
  exact done rfl (.tmp rfl (.nil)) (Ro.le.refl _) (L) (⟨_, .refl _, .refl _⟩) (⟨by simp [tupled, beq_dec], rfl, rfl⟩)

theorem Less3_c (t a : Int) (b7 : Nat) (ro : Ro) (L : List (List Blk)) (h7 : (b7, Obj.cells [Value.int .i64 a].toArray 3 (0, 0)) ∈ L.flatten) :
    CT Tryd.prog 26 [.int .i64 t, .pointer (some ⟨b7, 0, none⟩)].toArray ro L (PQ (.bool (decide (t = a))) ro L) := by
  refine enter Tryd.func26 rfl Tryd.ntmps26 rfl ?_
  refine seq ?_
  refine region ?_
  refine op (y (x_assign rfl) rfl ?_)
  refine nil ?_
  refine n_then ?_
  refine seq ?_
  refine region ?_
  refine op (y (x_move rfl) rfl ?_)
  refine op (y (x_load1 ag_3 rfl (Cell.blk h7 rfl)) rfl ?_)
  refine op (y (x_eql rfl rfl) rfl ?_)
  refine op (y (x_assign rfl) rfl ?_)
  refine nil ?_
  refine n_then ?_
  refine ret ?_
  exact done rfl (.tmp rfl (.nil)) (Ro.le.refl _) (L) (⟨_, .refl _, .refl _⟩) (⟨by simp [tupled, beq_dec], rfl, rfl⟩)

theorem CutLess_c (h : Hi) (A : Option Addr) (cA : Nat) (B : Option Addr) (cB : Nat) (n a b k : Int) (ro : Ro) (L : List (List Blk)) (hh : SH ro A cA B cB h) (hI : HI h) (er : Nat → Addr) (hG : Glob er ro) :
    CT Tryd.prog 4 [.agg [.slice A h.os.length cA, .slice B h.es.length cB].toArray, .int .i64 n, .int .i64 a, .int .i64 b, .int .i64 k].toArray ro L (PV (.bool true) L) := by
  refine enter Tryd.func4 rfl Tryd.ntmps4 rfl ?_
  refine seq ?_
  refine region ?_
  refine op (e_box rfl rfl rfl fun b5 => ?_)
  refine op (e_box rfl rfl rfl fun b7 => ?_)
  refine op (e_box rfl rfl rfl fun b8 => ?_)
  refine op (y (x_assign rfl) rfl ?_)
  refine nil ?_
  refine n_then ?_
  refine seq ?_
  refine region ?_
  refine op (e_call rfl fn_8 rfl rfl (first_c er _ _ hG) fun v24 ro24 L24 hle24 hp24 => ?_)
  obtain ⟨rfl, rfl⟩ := hp24
  refine op (y (x_assign rfl) rfl ?_)
  refine nil ?_
  refine n_then ?_
  refine seq ?_
  refine seq ?_
  refine region ?_
  refine op (y (x_move rfl) rfl ?_)
  refine op (y (x_not rfl) rfl ?_)
  refine nil ?_
  refine n_then ?_
  refine condF rfl ?_
  refine skip ?_
  refine n_then ?_
  refine seq ?_
  refine seq ?_
  refine region ?_
  refine op (y ((by first | exact x_loadOwn 0 _ ag_25 rfl rfl rfl rfl | exact x_loadOwn 1 _ ag_25 rfl rfl rfl rfl | exact x_loadOwn 2 _ ag_25 rfl rfl rfl rfl | exact x_loadOwn 3 _ ag_25 rfl rfl rfl rfl | exact x_loadOwn 4 _ ag_25 rfl rfl rfl rfl | exact x_loadOwn 5 _ ag_25 rfl rfl rfl rfl | exact x_loadOwn 6 _ ag_25 rfl rfl rfl rfl | exact x_loadOwn 7 _ ag_25 rfl rfl rfl rfl | exact x_loadOwn 8 _ ag_25 rfl rfl rfl rfl | exact x_loadOwn 9 _ ag_25 rfl rfl rfl rfl | exact x_loadOwn 10 _ ag_25 rfl rfl rfl rfl | exact x_loadOwn 11 _ ag_25 rfl rfl rfl rfl)) rfl ?_)
  refine op (e_call rfl fn_9 rfl rfl (small_c h A cA B cB _ _ (hh.mono hle24)) fun v28 ro28 L28 hle28 hp28 => ?_)
  obtain ⟨rfl, rfl, rfl⟩ := hp28
  refine op (y (x_not rfl) rfl ?_)
  refine op (y (x_move rfl) rfl ?_)
  refine bsplit 30 rfl (fun g30 => ?_) (fun g30 => ?_)
  · try simp only [decide_eq_true_eq, decide_eq_false_iff_not, beq_iff_eq, bne_iff_ne, ne_eq, beq_eq_false_iff_ne, bne_eq_false_iff_eq, Bool.not_eq_true', Bool.not_eq_false', Bool.not_eq_true, Bool.not_eq_false, Decidable.not_not, Int.not_lt, Int.not_le] at g30
    refine opN rfl rfl rfl rfl ?_
    refine opN rfl rfl rfl rfl ?_
    refine op (y (x_pickT rfl rfl) rfl ?_)
    refine nil ?_
    refine n_then ?_
    refine condT rfl ?_
    refine seq ?_
    refine region ?_
    refine op (y (x_move rfl) rfl ?_)
    refine op (y (x_assign rfl) rfl ?_)
    refine nil ?_
    refine n_then ?_
    refine ret ?_
    refine r_then ?_
    exact done rfl (.tmp rfl (.nil)) (hle24) (L) (subF (by (repeat (first | exact List.Sublist.refl _ | apply List.Sublist.cons_cons | apply List.Sublist.cons)); done)) (⟨rfl, rfl⟩)
  · try simp only [decide_eq_true_eq, decide_eq_false_iff_not, beq_iff_eq, bne_iff_ne, ne_eq, beq_eq_false_iff_ne, bne_eq_false_iff_eq, Bool.not_eq_true', Bool.not_eq_false', Bool.not_eq_true, Bool.not_eq_false, Decidable.not_not, Int.not_lt, Int.not_le] at g30
    refine opG rfl rfl (y (x_move rfl) rfl ?_)
    refine opG rfl rfl (y (x_not rfl) rfl ?_)
    refine op (y (x_pickF rfl rfl) rfl ?_)
    refine nil ?_
    refine n_then ?_
    refine condF rfl ?_
    refine skip ?_
    refine n_then ?_
    refine seq ?_
    obtain ⟨hn1, hn2⟩ : h.os.length ≤ 100 ∧ h.es.length ≤ 600 := by grind
    have hh1 := hh.mono hle24
    have hp2 : (pre h n).es.length ≤ 600 := Nat.le_trans (List.length_take_le' _ _) hn2
    refine region ?_
    refine op (y ((by first | exact x_loadOwn 0 _ ag_25 rfl rfl rfl rfl | exact x_loadOwn 1 _ ag_25 rfl rfl rfl rfl | exact x_loadOwn 2 _ ag_25 rfl rfl rfl rfl | exact x_loadOwn 3 _ ag_25 rfl rfl rfl rfl | exact x_loadOwn 4 _ ag_25 rfl rfl rfl rfl | exact x_loadOwn 5 _ ag_25 rfl rfl rfl rfl | exact x_loadOwn 6 _ ag_25 rfl rfl rfl rfl | exact x_loadOwn 7 _ ag_25 rfl rfl rfl rfl | exact x_loadOwn 8 _ ag_25 rfl rfl rfl rfl | exact x_loadOwn 9 _ ag_25 rfl rfl rfl rfl | exact x_loadOwn 10 _ ag_25 rfl rfl rfl rfl | exact x_loadOwn 11 _ ag_25 rfl rfl rfl rfl)) rfl ?_)
    refine op (y (x_move rfl) rfl ?_)
    refine op (e_call rfl fn_13 rfl rfl (PHo.frozen (Prefix_o h A cA B cB _ _ hh1 n hn1 hn2)) fun v37 ro37 L37 hle37 hp37 => ?_)
    obtain ⟨pA, pc, pB, pd, rfl, hSp, rfl⟩ := hp37
    refine op (e_alloc rfl zc_25 rfl fun b12 => ?_)
    first | refine op (e_store 0 rfl rfl ts_25 rfl rfl rfl rfl rfl rfl ?_) | refine op (e_store 1 rfl rfl ts_25 rfl rfl rfl rfl rfl rfl ?_) | refine op (e_store 2 rfl rfl ts_25 rfl rfl rfl rfl rfl rfl ?_) | refine op (e_store 3 rfl rfl ts_25 rfl rfl rfl rfl rfl rfl ?_) | refine op (e_store 4 rfl rfl ts_25 rfl rfl rfl rfl rfl rfl ?_) | refine op (e_store 5 rfl rfl ts_25 rfl rfl rfl rfl rfl rfl ?_) | refine op (e_store 6 rfl rfl ts_25 rfl rfl rfl rfl rfl rfl ?_) | refine op (e_store 7 rfl rfl ts_25 rfl rfl rfl rfl rfl rfl ?_) | refine op (e_store 8 rfl rfl ts_25 rfl rfl rfl rfl rfl rfl ?_) | refine op (e_store 9 rfl rfl ts_25 rfl rfl rfl rfl rfl rfl ?_)
    refine nil ?_
    refine n_then ?_
    refine seq ?_
    refine region ?_
    refine op (y ((by first | exact x_loadOwn 0 _ ag_25 rfl rfl rfl rfl | exact x_loadOwn 1 _ ag_25 rfl rfl rfl rfl | exact x_loadOwn 2 _ ag_25 rfl rfl rfl rfl | exact x_loadOwn 3 _ ag_25 rfl rfl rfl rfl | exact x_loadOwn 4 _ ag_25 rfl rfl rfl rfl | exact x_loadOwn 5 _ ag_25 rfl rfl rfl rfl | exact x_loadOwn 6 _ ag_25 rfl rfl rfl rfl | exact x_loadOwn 7 _ ag_25 rfl rfl rfl rfl | exact x_loadOwn 8 _ ag_25 rfl rfl rfl rfl | exact x_loadOwn 9 _ ag_25 rfl rfl rfl rfl | exact x_loadOwn 10 _ ag_25 rfl rfl rfl rfl | exact x_loadOwn 11 _ ag_25 rfl rfl rfl rfl)) rfl ?_)
    refine op (y (x_load1 ag_3 rfl (by first | assumption | exact Cell.own 0 rfl rfl | exact Cell.own 1 rfl rfl | exact Cell.own 2 rfl rfl | exact Cell.own 3 rfl rfl | exact Cell.own 4 rfl rfl | exact Cell.own 5 rfl rfl | exact Cell.own 6 rfl rfl | exact Cell.own 7 rfl rfl | exact Cell.own 8 rfl rfl | exact Cell.own 9 rfl rfl | exact Cell.ofRo (by assumption))) rfl ?_)
    refine op (e_call rfl fn_15 rfl rfl (PHo.frozen (Without_o h A cA B cB _ _ (hh1.mono hle37) a hn1 hn2)) fun v40 ro40 L40 hle40 hp40 => ?_)
    obtain ⟨wA, wc, wB, wd, rfl, hSw, rfl⟩ := hp40
    refine op (e_alloc rfl zc_25 rfl fun b13 => ?_)
    first | refine op (e_store 0 rfl rfl ts_25 rfl rfl rfl rfl rfl rfl ?_) | refine op (e_store 1 rfl rfl ts_25 rfl rfl rfl rfl rfl rfl ?_) | refine op (e_store 2 rfl rfl ts_25 rfl rfl rfl rfl rfl rfl ?_) | refine op (e_store 3 rfl rfl ts_25 rfl rfl rfl rfl rfl rfl ?_) | refine op (e_store 4 rfl rfl ts_25 rfl rfl rfl rfl rfl rfl ?_) | refine op (e_store 5 rfl rfl ts_25 rfl rfl rfl rfl rfl rfl ?_) | refine op (e_store 6 rfl rfl ts_25 rfl rfl rfl rfl rfl rfl ?_) | refine op (e_store 7 rfl rfl ts_25 rfl rfl rfl rfl rfl rfl ?_) | refine op (e_store 8 rfl rfl ts_25 rfl rfl rfl rfl rfl rfl ?_) | refine op (e_store 9 rfl rfl ts_25 rfl rfl rfl rfl rfl rfl ?_)
    refine nil ?_
    refine n_then ?_
    refine seq ?_
    refine region ?_
    refine op (y ((by first | exact x_loadOwn 0 _ ag_25 rfl rfl rfl rfl | exact x_loadOwn 1 _ ag_25 rfl rfl rfl rfl | exact x_loadOwn 2 _ ag_25 rfl rfl rfl rfl | exact x_loadOwn 3 _ ag_25 rfl rfl rfl rfl | exact x_loadOwn 4 _ ag_25 rfl rfl rfl rfl | exact x_loadOwn 5 _ ag_25 rfl rfl rfl rfl | exact x_loadOwn 6 _ ag_25 rfl rfl rfl rfl | exact x_loadOwn 7 _ ag_25 rfl rfl rfl rfl | exact x_loadOwn 8 _ ag_25 rfl rfl rfl rfl | exact x_loadOwn 9 _ ag_25 rfl rfl rfl rfl | exact x_loadOwn 10 _ ag_25 rfl rfl rfl rfl | exact x_loadOwn 11 _ ag_25 rfl rfl rfl rfl)) rfl ?_)
    refine op (y (x_load1 ag_3 rfl (by first | assumption | exact Cell.own 0 rfl rfl | exact Cell.own 1 rfl rfl | exact Cell.own 2 rfl rfl | exact Cell.own 3 rfl rfl | exact Cell.own 4 rfl rfl | exact Cell.own 5 rfl rfl | exact Cell.own 6 rfl rfl | exact Cell.own 7 rfl rfl | exact Cell.own 8 rfl rfl | exact Cell.own 9 rfl rfl | exact Cell.ofRo (by assumption))) rfl ?_)
    refine op (e_call rfl fn_15 rfl rfl (PHo.frozen (Without_o (pre h n) pA pc pB pd _ _ (hSp.mono hle40) a hn1 hp2)) fun v43 ro43 L43 hle43 hp43 => ?_)
    obtain ⟨qA, qc, qB, qd, rfl, hSq, rfl⟩ := hp43
    refine op (e_alloc rfl zc_25 rfl fun b14 => ?_)
    first | refine op (e_store 0 rfl rfl ts_25 rfl rfl rfl rfl rfl rfl ?_) | refine op (e_store 1 rfl rfl ts_25 rfl rfl rfl rfl rfl rfl ?_) | refine op (e_store 2 rfl rfl ts_25 rfl rfl rfl rfl rfl rfl ?_) | refine op (e_store 3 rfl rfl ts_25 rfl rfl rfl rfl rfl rfl ?_) | refine op (e_store 4 rfl rfl ts_25 rfl rfl rfl rfl rfl rfl ?_) | refine op (e_store 5 rfl rfl ts_25 rfl rfl rfl rfl rfl rfl ?_) | refine op (e_store 6 rfl rfl ts_25 rfl rfl rfl rfl rfl rfl ?_) | refine op (e_store 7 rfl rfl ts_25 rfl rfl rfl rfl rfl rfl ?_) | refine op (e_store 8 rfl rfl ts_25 rfl rfl rfl rfl rfl rfl ?_) | refine op (e_store 9 rfl rfl ts_25 rfl rfl rfl rfl rfl rfl ?_)
    refine nil ?_
    refine n_then ?_
    refine seq ?_
    refine region ?_
    refine op (y ((by first | exact x_loadOwn 0 _ ag_25 rfl rfl rfl rfl | exact x_loadOwn 1 _ ag_25 rfl rfl rfl rfl | exact x_loadOwn 2 _ ag_25 rfl rfl rfl rfl | exact x_loadOwn 3 _ ag_25 rfl rfl rfl rfl | exact x_loadOwn 4 _ ag_25 rfl rfl rfl rfl | exact x_loadOwn 5 _ ag_25 rfl rfl rfl rfl | exact x_loadOwn 6 _ ag_25 rfl rfl rfl rfl | exact x_loadOwn 7 _ ag_25 rfl rfl rfl rfl | exact x_loadOwn 8 _ ag_25 rfl rfl rfl rfl | exact x_loadOwn 9 _ ag_25 rfl rfl rfl rfl | exact x_loadOwn 10 _ ag_25 rfl rfl rfl rfl | exact x_loadOwn 11 _ ag_25 rfl rfl rfl rfl)) rfl ?_)
    refine op (y (x_load1 ag_3 rfl (by first | assumption | exact Cell.own 0 rfl rfl | exact Cell.own 1 rfl rfl | exact Cell.own 2 rfl rfl | exact Cell.own 3 rfl rfl | exact Cell.own 4 rfl rfl | exact Cell.own 5 rfl rfl | exact Cell.own 6 rfl rfl | exact Cell.own 7 rfl rfl | exact Cell.own 8 rfl rfl | exact Cell.own 9 rfl rfl | exact Cell.ofRo (by assumption))) rfl ?_)
    refine op (y (x_move rfl) rfl ?_)
    refine op (e_call rfl fn_23 rfl rfl (Drop_c h A cA B cB _ _ (hh1.mono (hle37.trans (hle40.trans hle43))) hn1 hn2 a k hI er (hG.mono (hle24.trans (hle37.trans (hle40.trans hle43))))) fun v48 ro48 L48 hle48 hp48 => ?_)
    obtain ⟨r, dA, dc, dB, dd, ev, rfl, hSr, rfl, hcr⟩ := hp48
    have hle1 := hle24.trans (hle37.trans (hle40.trans (hle43.trans hle48)))
    have hh2 := hh.mono hle1
    have hSp2 := hSp.mono (hle40.trans (hle43.trans hle48))
    have hSw2 := hSw.mono (hle43.trans hle48)
    have hSq2 := hSq.mono hle48
    have hev : IfV ev := by rcases hcr with ⟨rfl, _⟩ | ⟨⟨t, u, rfl⟩, _⟩; exact IfV.nil; exact IfV.mk _ _
    refine op (y (x_move rfl) rfl ?_)
    refine op (y (x_extract rfl rfl) rfl ?_)
    refine op (y (x_extract rfl rfl) rfl ?_)
    refine op (e_alloc rfl zc_25 rfl fun b15 => ?_)
    first | refine op (e_store 0 rfl rfl ts_25 rfl rfl rfl rfl rfl rfl ?_) | refine op (e_store 1 rfl rfl ts_25 rfl rfl rfl rfl rfl rfl ?_) | refine op (e_store 2 rfl rfl ts_25 rfl rfl rfl rfl rfl rfl ?_) | refine op (e_store 3 rfl rfl ts_25 rfl rfl rfl rfl rfl rfl ?_) | refine op (e_store 4 rfl rfl ts_25 rfl rfl rfl rfl rfl rfl ?_) | refine op (e_store 5 rfl rfl ts_25 rfl rfl rfl rfl rfl rfl ?_) | refine op (e_store 6 rfl rfl ts_25 rfl rfl rfl rfl rfl rfl ?_) | refine op (e_store 7 rfl rfl ts_25 rfl rfl rfl rfl rfl rfl ?_) | refine op (e_store 8 rfl rfl ts_25 rfl rfl rfl rfl rfl rfl ?_) | refine op (e_store 9 rfl rfl ts_25 rfl rfl rfl rfl rfl rfl ?_)
    refine op (y (x_assign rfl) rfl ?_)
    refine nil ?_
    refine n_then ?_
    refine seqM (fun F ro' L' => (F = [(5, .pointer (some ⟨b5, 0, none⟩)), (7, .pointer (some ⟨b7, 0, none⟩)), (8, .pointer (some ⟨b8, 0, none⟩)), (12, .pointer (some ⟨b12, 0, none⟩)), (13, .pointer (some ⟨b13, 0, none⟩))]) ∧ (ro48 = ro') ∧ (L' = [(b15, Obj.cells [Value.slice dA r.os.length dc, Value.slice dB r.es.length dd].toArray 25 (0, 0))] :: [(b14, Obj.cells [Value.slice qA (woT (pre h n) a).os.length qc, Value.slice qB (woT (pre h n) a).es.length qd].toArray 25 (0, 0))] :: [(b13, Obj.cells [Value.slice wA (woT h a).os.length wc, Value.slice wB (woT h a).es.length wd].toArray 25 (0, 0))] :: [(b12, Obj.cells [Value.slice pA (pre h n).os.length pc, Value.slice pB (pre h n).es.length pd].toArray 25 (0, 0))] :: [(b8, Obj.cells [Value.int .i64 b].toArray 3 (0, 0))] :: [(b7, Obj.cells [Value.int .i64 a].toArray 3 (0, 0))] :: [(b5, Obj.cells [Value.slice A h.os.length cA, Value.slice B h.es.length cB].toArray 25 (0, 0))] :: L)) ?_ ?_
    · skip
      refine seq ?_
      refine region ?_
      refine op (y ((by first | exact x_loadOwn 0 _ ag_25 rfl rfl rfl rfl | exact x_loadOwn 1 _ ag_25 rfl rfl rfl rfl | exact x_loadOwn 2 _ ag_25 rfl rfl rfl rfl | exact x_loadOwn 3 _ ag_25 rfl rfl rfl rfl | exact x_loadOwn 4 _ ag_25 rfl rfl rfl rfl | exact x_loadOwn 5 _ ag_25 rfl rfl rfl rfl | exact x_loadOwn 6 _ ag_25 rfl rfl rfl rfl | exact x_loadOwn 7 _ ag_25 rfl rfl rfl rfl | exact x_loadOwn 8 _ ag_25 rfl rfl rfl rfl | exact x_loadOwn 9 _ ag_25 rfl rfl rfl rfl | exact x_loadOwn 10 _ ag_25 rfl rfl rfl rfl | exact x_loadOwn 11 _ ag_25 rfl rfl rfl rfl)) rfl ?_)
      refine op (y ((by first | exact x_loadOwn 0 _ ag_25 rfl rfl rfl rfl | exact x_loadOwn 1 _ ag_25 rfl rfl rfl rfl | exact x_loadOwn 2 _ ag_25 rfl rfl rfl rfl | exact x_loadOwn 3 _ ag_25 rfl rfl rfl rfl | exact x_loadOwn 4 _ ag_25 rfl rfl rfl rfl | exact x_loadOwn 5 _ ag_25 rfl rfl rfl rfl | exact x_loadOwn 6 _ ag_25 rfl rfl rfl rfl | exact x_loadOwn 7 _ ag_25 rfl rfl rfl rfl | exact x_loadOwn 8 _ ag_25 rfl rfl rfl rfl | exact x_loadOwn 9 _ ag_25 rfl rfl rfl rfl | exact x_loadOwn 10 _ ag_25 rfl rfl rfl rfl | exact x_loadOwn 11 _ ag_25 rfl rfl rfl rfl)) rfl ?_)
      refine op (e_call rfl fn_21 rfl rfl (Sub_c (pre h n) _ _ _ _ h _ _ _ _ _ _ hSp2 hh2) fun v53 ro53 L53 hle53 hp53 => ?_)
      obtain ⟨rfl, rfl, rfl⟩ := hp53
      refine said 53 (.bool true) rfl (by simp [sub_pre]) ?_
      refine op (y (x_not rfl) rfl ?_)
      refine op (y (x_move rfl) rfl ?_)
      refine opG rfl rfl (y ((by first | exact x_loadOwn 0 _ ag_25 rfl rfl rfl rfl | exact x_loadOwn 1 _ ag_25 rfl rfl rfl rfl | exact x_loadOwn 2 _ ag_25 rfl rfl rfl rfl | exact x_loadOwn 3 _ ag_25 rfl rfl rfl rfl | exact x_loadOwn 4 _ ag_25 rfl rfl rfl rfl | exact x_loadOwn 5 _ ag_25 rfl rfl rfl rfl | exact x_loadOwn 6 _ ag_25 rfl rfl rfl rfl | exact x_loadOwn 7 _ ag_25 rfl rfl rfl rfl | exact x_loadOwn 8 _ ag_25 rfl rfl rfl rfl | exact x_loadOwn 9 _ ag_25 rfl rfl rfl rfl | exact x_loadOwn 10 _ ag_25 rfl rfl rfl rfl | exact x_loadOwn 11 _ ag_25 rfl rfl rfl rfl)) rfl ?_)
      refine opG rfl rfl (y ((by first | exact x_loadOwn 0 _ ag_25 rfl rfl rfl rfl | exact x_loadOwn 1 _ ag_25 rfl rfl rfl rfl | exact x_loadOwn 2 _ ag_25 rfl rfl rfl rfl | exact x_loadOwn 3 _ ag_25 rfl rfl rfl rfl | exact x_loadOwn 4 _ ag_25 rfl rfl rfl rfl | exact x_loadOwn 5 _ ag_25 rfl rfl rfl rfl | exact x_loadOwn 6 _ ag_25 rfl rfl rfl rfl | exact x_loadOwn 7 _ ag_25 rfl rfl rfl rfl | exact x_loadOwn 8 _ ag_25 rfl rfl rfl rfl | exact x_loadOwn 9 _ ag_25 rfl rfl rfl rfl | exact x_loadOwn 10 _ ag_25 rfl rfl rfl rfl | exact x_loadOwn 11 _ ag_25 rfl rfl rfl rfl)) rfl ?_)
      refine opG rfl rfl (e_call rfl fn_21 rfl rfl (Sub_c (woT h a) _ _ _ _ h _ _ _ _ _ _ hSw2 hh2) fun v58 ro58 L58 hle58 hp58 => ?_)
      obtain ⟨rfl, rfl, rfl⟩ := hp58
      refine said 58 (.bool true) rfl (by simp [sub_wo]) ?_
      refine opG rfl rfl (y (x_not rfl) rfl ?_)
      refine op (y (x_pickF rfl rfl) rfl ?_)
      refine op (y (x_move rfl) rfl ?_)
      refine opG rfl rfl (y ((by first | exact x_loadOwn 0 _ ag_25 rfl rfl rfl rfl | exact x_loadOwn 1 _ ag_25 rfl rfl rfl rfl | exact x_loadOwn 2 _ ag_25 rfl rfl rfl rfl | exact x_loadOwn 3 _ ag_25 rfl rfl rfl rfl | exact x_loadOwn 4 _ ag_25 rfl rfl rfl rfl | exact x_loadOwn 5 _ ag_25 rfl rfl rfl rfl | exact x_loadOwn 6 _ ag_25 rfl rfl rfl rfl | exact x_loadOwn 7 _ ag_25 rfl rfl rfl rfl | exact x_loadOwn 8 _ ag_25 rfl rfl rfl rfl | exact x_loadOwn 9 _ ag_25 rfl rfl rfl rfl | exact x_loadOwn 10 _ ag_25 rfl rfl rfl rfl | exact x_loadOwn 11 _ ag_25 rfl rfl rfl rfl)) rfl ?_)
      refine opG rfl rfl (y ((by first | exact x_loadOwn 0 _ ag_25 rfl rfl rfl rfl | exact x_loadOwn 1 _ ag_25 rfl rfl rfl rfl | exact x_loadOwn 2 _ ag_25 rfl rfl rfl rfl | exact x_loadOwn 3 _ ag_25 rfl rfl rfl rfl | exact x_loadOwn 4 _ ag_25 rfl rfl rfl rfl | exact x_loadOwn 5 _ ag_25 rfl rfl rfl rfl | exact x_loadOwn 6 _ ag_25 rfl rfl rfl rfl | exact x_loadOwn 7 _ ag_25 rfl rfl rfl rfl | exact x_loadOwn 8 _ ag_25 rfl rfl rfl rfl | exact x_loadOwn 9 _ ag_25 rfl rfl rfl rfl | exact x_loadOwn 10 _ ag_25 rfl rfl rfl rfl | exact x_loadOwn 11 _ ag_25 rfl rfl rfl rfl)) rfl ?_)
      refine opG rfl rfl (e_call rfl fn_21 rfl rfl (Sub_c (woT (pre h n) a) _ _ _ _ (pre h n) _ _ _ _ _ _ hSq2 hSp2) fun v64 ro64 L64 hle64 hp64 => ?_)
      obtain ⟨rfl, rfl, rfl⟩ := hp64
      refine said 64 (.bool true) rfl (by simp [sub_wo]) ?_
      refine opG rfl rfl (y (x_not rfl) rfl ?_)
      refine op (y (x_pickF rfl rfl) rfl ?_)
      refine op (y (x_move rfl) rfl ?_)
      refine opG rfl rfl (y ((by first | exact x_loadOwn 0 _ ag_25 rfl rfl rfl rfl | exact x_loadOwn 1 _ ag_25 rfl rfl rfl rfl | exact x_loadOwn 2 _ ag_25 rfl rfl rfl rfl | exact x_loadOwn 3 _ ag_25 rfl rfl rfl rfl | exact x_loadOwn 4 _ ag_25 rfl rfl rfl rfl | exact x_loadOwn 5 _ ag_25 rfl rfl rfl rfl | exact x_loadOwn 6 _ ag_25 rfl rfl rfl rfl | exact x_loadOwn 7 _ ag_25 rfl rfl rfl rfl | exact x_loadOwn 8 _ ag_25 rfl rfl rfl rfl | exact x_loadOwn 9 _ ag_25 rfl rfl rfl rfl | exact x_loadOwn 10 _ ag_25 rfl rfl rfl rfl | exact x_loadOwn 11 _ ag_25 rfl rfl rfl rfl)) rfl ?_)
      refine opG rfl rfl (y ((by first | exact x_loadOwn 0 _ ag_25 rfl rfl rfl rfl | exact x_loadOwn 1 _ ag_25 rfl rfl rfl rfl | exact x_loadOwn 2 _ ag_25 rfl rfl rfl rfl | exact x_loadOwn 3 _ ag_25 rfl rfl rfl rfl | exact x_loadOwn 4 _ ag_25 rfl rfl rfl rfl | exact x_loadOwn 5 _ ag_25 rfl rfl rfl rfl | exact x_loadOwn 6 _ ag_25 rfl rfl rfl rfl | exact x_loadOwn 7 _ ag_25 rfl rfl rfl rfl | exact x_loadOwn 8 _ ag_25 rfl rfl rfl rfl | exact x_loadOwn 9 _ ag_25 rfl rfl rfl rfl | exact x_loadOwn 10 _ ag_25 rfl rfl rfl rfl | exact x_loadOwn 11 _ ag_25 rfl rfl rfl rfl)) rfl ?_)
      refine opG rfl rfl (e_call rfl fn_21 rfl rfl (Sub_c (woT (pre h n) a) _ _ _ _ h _ _ _ _ _ _ hSq2 hh2) fun v70 ro70 L70 hle70 hp70 => ?_)
      obtain ⟨rfl, rfl, rfl⟩ := hp70
      refine said 70 (.bool true) rfl (by simp [sub_trans (sub_wo _ _) (sub_pre _ _)]) ?_
      refine opG rfl rfl (y (x_not rfl) rfl ?_)
      refine op (y (x_pickF rfl rfl) rfl ?_)
      refine op (y (x_move rfl) rfl ?_)
      refine opG rfl rfl (y (x_move rfl) rfl ?_)
      refine opG rfl rfl (y (x_ifEqNil Tryd.underlying43 rfl (hev)) rfl ?_)
      refine opG rfl rfl (y (x_move rfl) rfl ?_)
      refine bsplit 76 rfl (fun g76 => ?_) (fun g76 => ?_)
      · try simp only [decide_eq_true_eq, decide_eq_false_iff_not, beq_iff_eq, bne_iff_ne, ne_eq, beq_eq_false_iff_ne, bne_eq_false_iff_eq, Bool.not_eq_true', Bool.not_eq_false', Bool.not_eq_true, Bool.not_eq_false, Decidable.not_not, Int.not_lt, Int.not_le] at g76
        refine opG rfl rfl (y ((by first | exact x_loadOwn 0 _ ag_25 rfl rfl rfl rfl | exact x_loadOwn 1 _ ag_25 rfl rfl rfl rfl | exact x_loadOwn 2 _ ag_25 rfl rfl rfl rfl | exact x_loadOwn 3 _ ag_25 rfl rfl rfl rfl | exact x_loadOwn 4 _ ag_25 rfl rfl rfl rfl | exact x_loadOwn 5 _ ag_25 rfl rfl rfl rfl | exact x_loadOwn 6 _ ag_25 rfl rfl rfl rfl | exact x_loadOwn 7 _ ag_25 rfl rfl rfl rfl | exact x_loadOwn 8 _ ag_25 rfl rfl rfl rfl | exact x_loadOwn 9 _ ag_25 rfl rfl rfl rfl | exact x_loadOwn 10 _ ag_25 rfl rfl rfl rfl | exact x_loadOwn 11 _ ag_25 rfl rfl rfl rfl)) rfl ?_)
        refine opG rfl rfl (y ((by first | exact x_loadOwn 0 _ ag_25 rfl rfl rfl rfl | exact x_loadOwn 1 _ ag_25 rfl rfl rfl rfl | exact x_loadOwn 2 _ ag_25 rfl rfl rfl rfl | exact x_loadOwn 3 _ ag_25 rfl rfl rfl rfl | exact x_loadOwn 4 _ ag_25 rfl rfl rfl rfl | exact x_loadOwn 5 _ ag_25 rfl rfl rfl rfl | exact x_loadOwn 6 _ ag_25 rfl rfl rfl rfl | exact x_loadOwn 7 _ ag_25 rfl rfl rfl rfl | exact x_loadOwn 8 _ ag_25 rfl rfl rfl rfl | exact x_loadOwn 9 _ ag_25 rfl rfl rfl rfl | exact x_loadOwn 10 _ ag_25 rfl rfl rfl rfl | exact x_loadOwn 11 _ ag_25 rfl rfl rfl rfl)) rfl ?_)
        have hsr : SubH r h := by rcases hcr with ⟨rfl, hd⟩ | ⟨⟨t, u, rfl⟩, _⟩; exact sub_drop hd; exact absurd (show isNilI (Value.iface t u) = true from g76) (by simp [isNilI])
        refine opG rfl rfl (e_call rfl fn_21 rfl rfl (Sub_c r _ _ _ _ h _ _ _ _ _ _ hSr hh2) fun v79 ro79 L79 hle79 hp79 => ?_)
        obtain ⟨rfl, rfl, rfl⟩ := hp79
        refine said 79 (.bool true) rfl (by simp [hsr]) ?_
        refine opG rfl rfl (y (x_not rfl) rfl ?_)
        refine opG rfl rfl (y (x_pickT rfl rfl) rfl ?_)
        refine op (y (x_pickF rfl rfl) rfl ?_)
        refine op (y (x_move rfl) rfl ?_)
        refine opG rfl rfl (y ((by first | exact x_loadOwn 0 _ ag_25 rfl rfl rfl rfl | exact x_loadOwn 1 _ ag_25 rfl rfl rfl rfl | exact x_loadOwn 2 _ ag_25 rfl rfl rfl rfl | exact x_loadOwn 3 _ ag_25 rfl rfl rfl rfl | exact x_loadOwn 4 _ ag_25 rfl rfl rfl rfl | exact x_loadOwn 5 _ ag_25 rfl rfl rfl rfl | exact x_loadOwn 6 _ ag_25 rfl rfl rfl rfl | exact x_loadOwn 7 _ ag_25 rfl rfl rfl rfl | exact x_loadOwn 8 _ ag_25 rfl rfl rfl rfl | exact x_loadOwn 9 _ ag_25 rfl rfl rfl rfl | exact x_loadOwn 10 _ ag_25 rfl rfl rfl rfl | exact x_loadOwn 11 _ ag_25 rfl rfl rfl rfl)) rfl ?_)
        refine opG rfl rfl (y ((by first | exact x_loadOwn 0 _ ag_25 rfl rfl rfl rfl | exact x_loadOwn 1 _ ag_25 rfl rfl rfl rfl | exact x_loadOwn 2 _ ag_25 rfl rfl rfl rfl | exact x_loadOwn 3 _ ag_25 rfl rfl rfl rfl | exact x_loadOwn 4 _ ag_25 rfl rfl rfl rfl | exact x_loadOwn 5 _ ag_25 rfl rfl rfl rfl | exact x_loadOwn 6 _ ag_25 rfl rfl rfl rfl | exact x_loadOwn 7 _ ag_25 rfl rfl rfl rfl | exact x_loadOwn 8 _ ag_25 rfl rfl rfl rfl | exact x_loadOwn 9 _ ag_25 rfl rfl rfl rfl | exact x_loadOwn 10 _ ag_25 rfl rfl rfl rfl | exact x_loadOwn 11 _ ag_25 rfl rfl rfl rfl)) rfl ?_)
        refine opG rfl rfl (e_call rfl fn_21 rfl rfl (Sub_c h _ _ _ _ h _ _ _ _ _ _ hh2 hh2) fun v86 ro86 L86 hle86 hp86 => ?_)
        obtain ⟨rfl, rfl, rfl⟩ := hp86
        refine said 86 (.bool true) rfl (by simp [sub_refl]) ?_
        refine opG rfl rfl (y (x_not rfl) rfl ?_)
        refine op (y (x_pickF rfl rfl) rfl ?_)
        refine nil ?_
        refine n_then ?_
        refine condF rfl ?_
        refine skip ?_
        exact mid [(5, .pointer (some ⟨b5, 0, none⟩)), (7, .pointer (some ⟨b7, 0, none⟩)), (8, .pointer (some ⟨b8, 0, none⟩)), (12, .pointer (some ⟨b12, 0, none⟩)), (13, .pointer (some ⟨b13, 0, none⟩))] ⟨rfl, rfl, rfl, rfl, rfl, trivial⟩ ⟨rfl, rfl, rfl⟩
      · try simp only [decide_eq_true_eq, decide_eq_false_iff_not, beq_iff_eq, bne_iff_ne, ne_eq, beq_eq_false_iff_ne, bne_eq_false_iff_eq, Bool.not_eq_true', Bool.not_eq_false', Bool.not_eq_true, Bool.not_eq_false, Decidable.not_not, Int.not_lt, Int.not_le] at g76
        refine opN rfl rfl rfl rfl ?_
        refine opN rfl rfl rfl rfl ?_
        refine opN rfl rfl rfl rfl ?_
        refine opN rfl rfl rfl rfl ?_
        refine opG rfl rfl (y (x_pickF rfl rfl) rfl ?_)
        refine op (y (x_pickF rfl rfl) rfl ?_)
        refine op (y (x_move rfl) rfl ?_)
        refine opG rfl rfl (y ((by first | exact x_loadOwn 0 _ ag_25 rfl rfl rfl rfl | exact x_loadOwn 1 _ ag_25 rfl rfl rfl rfl | exact x_loadOwn 2 _ ag_25 rfl rfl rfl rfl | exact x_loadOwn 3 _ ag_25 rfl rfl rfl rfl | exact x_loadOwn 4 _ ag_25 rfl rfl rfl rfl | exact x_loadOwn 5 _ ag_25 rfl rfl rfl rfl | exact x_loadOwn 6 _ ag_25 rfl rfl rfl rfl | exact x_loadOwn 7 _ ag_25 rfl rfl rfl rfl | exact x_loadOwn 8 _ ag_25 rfl rfl rfl rfl | exact x_loadOwn 9 _ ag_25 rfl rfl rfl rfl | exact x_loadOwn 10 _ ag_25 rfl rfl rfl rfl | exact x_loadOwn 11 _ ag_25 rfl rfl rfl rfl)) rfl ?_)
        refine opG rfl rfl (y ((by first | exact x_loadOwn 0 _ ag_25 rfl rfl rfl rfl | exact x_loadOwn 1 _ ag_25 rfl rfl rfl rfl | exact x_loadOwn 2 _ ag_25 rfl rfl rfl rfl | exact x_loadOwn 3 _ ag_25 rfl rfl rfl rfl | exact x_loadOwn 4 _ ag_25 rfl rfl rfl rfl | exact x_loadOwn 5 _ ag_25 rfl rfl rfl rfl | exact x_loadOwn 6 _ ag_25 rfl rfl rfl rfl | exact x_loadOwn 7 _ ag_25 rfl rfl rfl rfl | exact x_loadOwn 8 _ ag_25 rfl rfl rfl rfl | exact x_loadOwn 9 _ ag_25 rfl rfl rfl rfl | exact x_loadOwn 10 _ ag_25 rfl rfl rfl rfl | exact x_loadOwn 11 _ ag_25 rfl rfl rfl rfl)) rfl ?_)
        refine opG rfl rfl (e_call rfl fn_21 rfl rfl (Sub_c h _ _ _ _ h _ _ _ _ _ _ hh2 hh2) fun v86 ro86 L86 hle86 hp86 => ?_)
        obtain ⟨rfl, rfl, rfl⟩ := hp86
        refine said 86 (.bool true) rfl (by simp [sub_refl]) ?_
        refine opG rfl rfl (y (x_not rfl) rfl ?_)
        refine op (y (x_pickF rfl rfl) rfl ?_)
        refine nil ?_
        refine n_then ?_
        refine condF rfl ?_
        refine skip ?_
        exact mid [(5, .pointer (some ⟨b5, 0, none⟩)), (7, .pointer (some ⟨b7, 0, none⟩)), (8, .pointer (some ⟨b8, 0, none⟩)), (12, .pointer (some ⟨b12, 0, none⟩)), (13, .pointer (some ⟨b13, 0, none⟩))] ⟨rfl, rfl, rfl, rfl, rfl, trivial⟩ ⟨rfl, rfl, rfl⟩
    · rintro F ro' L' ⟨rfl, rfl, rfl⟩
      refine seqM (fun F ro3' L3' => ∃ (b17 : Nat) (uA : Option Addr) (uc : Nat) (uB : Option Addr) (ud : Nat), (F = [(5, .pointer (some ⟨b5, 0, none⟩)), (7, .pointer (some ⟨b7, 0, none⟩)), (8, .pointer (some ⟨b8, 0, none⟩)), (12, .pointer (some ⟨b12, 0, none⟩)), (13, .pointer (some ⟨b13, 0, none⟩)), (17, .pointer (some ⟨b17, 0, none⟩))]) ∧ (L3' = [(b17, Obj.cells [Value.slice uA (woT (woT h a) b).os.length uc, Value.slice uB (woT (woT h a) b).es.length ud].toArray 25 (0, 0))] :: [(b15, Obj.cells [Value.slice dA r.os.length dc, Value.slice dB r.es.length dd].toArray 25 (0, 0))] :: [(b14, Obj.cells [Value.slice qA (woT (pre h n) a).os.length qc, Value.slice qB (woT (pre h n) a).es.length qd].toArray 25 (0, 0))] :: [(b13, Obj.cells [Value.slice wA (woT h a).os.length wc, Value.slice wB (woT h a).es.length wd].toArray 25 (0, 0))] :: [(b12, Obj.cells [Value.slice pA (pre h n).os.length pc, Value.slice pB (pre h n).es.length pd].toArray 25 (0, 0))] :: [(b8, Obj.cells [Value.int .i64 b].toArray 3 (0, 0))] :: [(b7, Obj.cells [Value.int .i64 a].toArray 3 (0, 0))] :: [(b5, Obj.cells [Value.slice A h.os.length cA, Value.slice B h.es.length cB].toArray 25 (0, 0))] :: L) ∧ (ro48.le ro3') ∧ (SH ro3' uA uc uB ud (woT (woT h a) b))) ?_ ?_
      · skip
        refine draw (List.flatten ([(b8, Obj.cells [Value.int .i64 b].toArray 3 (0, 0))] :: [(b7, Obj.cells [Value.int .i64 a].toArray 3 (0, 0))] :: [(b5, Obj.cells [Value.slice A h.os.length cA, Value.slice B h.es.length cB].toArray 25 (0, 0))] :: L)) (by kernel_rfl) ?_
        refine d_take 0 rfl (by kernel_rfl) (by kernel_rfl) (by kernel_rfl) (fun _ _ _ h => h) rfl (.inl rfl) ((by first | exact x_loadOwn 0 _ ag_25 rfl rfl rfl rfl | exact x_loadOwn 1 _ ag_25 rfl rfl rfl rfl | exact x_loadOwn 2 _ ag_25 rfl rfl rfl rfl | exact x_loadOwn 3 _ ag_25 rfl rfl rfl rfl | exact x_loadOwn 4 _ ag_25 rfl rfl rfl rfl | exact x_loadOwn 5 _ ag_25 rfl rfl rfl rfl | exact x_loadOwn 6 _ ag_25 rfl rfl rfl rfl | exact x_loadOwn 7 _ ag_25 rfl rfl rfl rfl | exact x_loadOwn 8 _ ag_25 rfl rfl rfl rfl | exact x_loadOwn 9 _ ag_25 rfl rfl rfl rfl | exact x_loadOwn 10 _ ag_25 rfl rfl rfl rfl | exact x_loadOwn 11 _ ag_25 rfl rfl rfl rfl)) (fun w hi => by first | exact J.of_le (Ro.le.refl _) (fun x hx => by simp at hx ⊢; grind) hi | exact J.of_le hle91 (fun x hx => by simp at hx ⊢; grind) hi | exact J.of_le (hle91.trans hle93) (fun x hx => by simp at hx ⊢; grind) hi) ?_
        refine d_take 1 rfl (by kernel_rfl) (by kernel_rfl) (by kernel_rfl) (fun _ _ _ h => h) rfl (.inl rfl) (x_load1 ag_3 rfl (by first | assumption | exact Cell.own 0 rfl rfl | exact Cell.own 1 rfl rfl | exact Cell.own 2 rfl rfl | exact Cell.own 3 rfl rfl | exact Cell.own 4 rfl rfl | exact Cell.own 5 rfl rfl | exact Cell.own 6 rfl rfl | exact Cell.own 7 rfl rfl | exact Cell.own 8 rfl rfl | exact Cell.own 9 rfl rfl | exact Cell.ofRo (by assumption))) (fun w hi => by first | exact J.of_le (Ro.le.refl _) (fun x hx => by simp at hx ⊢; grind) hi | exact J.of_le hle91 (fun x hx => by simp at hx ⊢; grind) hi | exact J.of_le (hle91.trans hle93) (fun x hx => by simp at hx ⊢; grind) hi) ?_
        refine d_take 3 rfl (by kernel_rfl) (by kernel_rfl) (by kernel_rfl) (fun _ _ _ h => h) rfl (.inl rfl) (x_load1 ag_3 rfl (by first | assumption | exact Cell.own 0 rfl rfl | exact Cell.own 1 rfl rfl | exact Cell.own 2 rfl rfl | exact Cell.own 3 rfl rfl | exact Cell.own 4 rfl rfl | exact Cell.own 5 rfl rfl | exact Cell.own 6 rfl rfl | exact Cell.own 7 rfl rfl | exact Cell.own 8 rfl rfl | exact Cell.own 9 rfl rfl | exact Cell.ofRo (by assumption))) (fun w hi => by first | exact J.of_le (Ro.le.refl _) (fun x hx => by simp at hx ⊢; grind) hi | exact J.of_le hle91 (fun x hx => by simp at hx ⊢; grind) hi | exact J.of_le (hle91.trans hle93) (fun x hx => by simp at hx ⊢; grind) hi) ?_
        refine d_two 2 5 (by kernel_rfl) ?_ ?_
        · skip
          refine d_the rfl (.inl rfl) (e_call rfl fn_15 rfl rfl (PHo.frozen (Without_o h A cA B cB _ _ hh2 a hn1 hn2)) fun v91 ro91 L91 hle91 hp91 => ?_)
          obtain ⟨tA, tc, tB, td, rfl, hSt, rfl⟩ := hp91
          refine d_next (fun w hi => by first | exact J.of_le (Ro.le.refl _) (fun x hx => by simp at hx ⊢; grind) hi | exact J.of_le hle91 (fun x hx => by simp at hx ⊢; grind) hi | exact J.of_le (hle91.trans hle93) (fun x hx => by simp at hx ⊢; grind) hi) ?_
          refine d_two 4 5 (by kernel_rfl) ?_ ?_
          · skip
            refine d_the rfl (.inl rfl) (e_call rfl fn_15 rfl rfl (PHo.frozen (Without_o (woT h a) tA tc tB td _ _ hSt b hn1 (Nat.le_trans (List.length_filter_le _ _) hn2))) fun v93 ro93 L93 hle93 hp93 => ?_)
            obtain ⟨uA, uc, uB, ud, rfl, hSu, rfl⟩ := hp93
            refine d_next (fun w hi => by first | exact J.of_le (Ro.le.refl _) (fun x hx => by simp at hx ⊢; grind) hi | exact J.of_le hle91 (fun x hx => by simp at hx ⊢; grind) hi | exact J.of_le (hle91.trans hle93) (fun x hx => by simp at hx ⊢; grind) hi) ?_
            refine d_one 5 rfl (by kernel_rfl) (.inl rfl) (e_alloc rfl zc_25 rfl fun b17 => ?_)
            refine d_next (fun w hi => by first | exact J.of_le (Ro.le.refl _) (fun x hx => by simp at hx ⊢; grind) hi | exact J.of_le hle91 (fun x hx => by simp at hx ⊢; grind) hi | exact J.of_le (hle91.trans hle93) (fun x hx => by simp at hx ⊢; grind) hi) ?_
            first | refine d_one 6 rfl (by kernel_rfl) (.inl rfl) (e_store 0 rfl rfl ts_25 rfl rfl rfl rfl rfl rfl ?_) | refine d_one 6 rfl (by kernel_rfl) (.inl rfl) (e_store 1 rfl rfl ts_25 rfl rfl rfl rfl rfl rfl ?_) | refine d_one 6 rfl (by kernel_rfl) (.inl rfl) (e_store 2 rfl rfl ts_25 rfl rfl rfl rfl rfl rfl ?_) | refine d_one 6 rfl (by kernel_rfl) (.inl rfl) (e_store 3 rfl rfl ts_25 rfl rfl rfl rfl rfl rfl ?_) | refine d_one 6 rfl (by kernel_rfl) (.inl rfl) (e_store 4 rfl rfl ts_25 rfl rfl rfl rfl rfl rfl ?_) | refine d_one 6 rfl (by kernel_rfl) (.inl rfl) (e_store 5 rfl rfl ts_25 rfl rfl rfl rfl rfl rfl ?_) | refine d_one 6 rfl (by kernel_rfl) (.inl rfl) (e_store 6 rfl rfl ts_25 rfl rfl rfl rfl rfl rfl ?_) | refine d_one 6 rfl (by kernel_rfl) (.inl rfl) (e_store 7 rfl rfl ts_25 rfl rfl rfl rfl rfl rfl ?_) | refine d_one 6 rfl (by kernel_rfl) (.inl rfl) (e_store 8 rfl rfl ts_25 rfl rfl rfl rfl rfl rfl ?_) | refine d_one 6 rfl (by kernel_rfl) (.inl rfl) (e_store 9 rfl rfl ts_25 rfl rfl rfl rfl rfl rfl ?_)
            refine d_next (fun w hi => by first | exact J.of_le (Ro.le.refl _) (fun x hx => by simp at hx ⊢; grind) hi | exact J.of_le hle91 (fun x hx => by simp at hx ⊢; grind) hi | exact J.of_le (hle91.trans hle93) (fun x hx => by simp at hx ⊢; grind) hi) ?_
            refine d_end (by kernel_rfl) ?_
            exact mid [(5, .pointer (some ⟨b5, 0, none⟩)), (7, .pointer (some ⟨b7, 0, none⟩)), (8, .pointer (some ⟨b8, 0, none⟩)), (12, .pointer (some ⟨b12, 0, none⟩)), (13, .pointer (some ⟨b13, 0, none⟩)), (17, .pointer (some ⟨b17, 0, none⟩))] ⟨rfl, rfl, rfl, rfl, rfl, rfl, trivial⟩ ⟨b17, uA, uc, uB, ud, rfl, rfl, hle91.trans hle93, hSu⟩
          · skip
            refine d_the rfl (.inl rfl) (e_alloc rfl zc_25 rfl fun b17 => ?_)
            refine d_next (fun w hi => by first | exact J.of_le (Ro.le.refl _) (fun x hx => by simp at hx ⊢; grind) hi | exact J.of_le hle91 (fun x hx => by simp at hx ⊢; grind) hi | exact J.of_le (hle91.trans hle93) (fun x hx => by simp at hx ⊢; grind) hi) ?_
            refine d_one 4 rfl (by kernel_rfl) (.inl rfl) (e_call rfl fn_15 rfl rfl (PHo.frozen (Without_o (woT h a) tA tc tB td _ _ hSt b hn1 (Nat.le_trans (List.length_filter_le _ _) hn2))) fun v93 ro93 L93 hle93 hp93 => ?_)
            obtain ⟨uA, uc, uB, ud, rfl, hSu, rfl⟩ := hp93
            refine d_next (fun w hi => by first | exact J.of_le (Ro.le.refl _) (fun x hx => by simp at hx ⊢; grind) hi | exact J.of_le hle91 (fun x hx => by simp at hx ⊢; grind) hi | exact J.of_le (hle91.trans hle93) (fun x hx => by simp at hx ⊢; grind) hi) ?_
            first | refine d_one 6 rfl (by kernel_rfl) (.inl rfl) (e_store 0 rfl rfl ts_25 rfl rfl rfl rfl rfl rfl ?_) | refine d_one 6 rfl (by kernel_rfl) (.inl rfl) (e_store 1 rfl rfl ts_25 rfl rfl rfl rfl rfl rfl ?_) | refine d_one 6 rfl (by kernel_rfl) (.inl rfl) (e_store 2 rfl rfl ts_25 rfl rfl rfl rfl rfl rfl ?_) | refine d_one 6 rfl (by kernel_rfl) (.inl rfl) (e_store 3 rfl rfl ts_25 rfl rfl rfl rfl rfl rfl ?_) | refine d_one 6 rfl (by kernel_rfl) (.inl rfl) (e_store 4 rfl rfl ts_25 rfl rfl rfl rfl rfl rfl ?_) | refine d_one 6 rfl (by kernel_rfl) (.inl rfl) (e_store 5 rfl rfl ts_25 rfl rfl rfl rfl rfl rfl ?_) | refine d_one 6 rfl (by kernel_rfl) (.inl rfl) (e_store 6 rfl rfl ts_25 rfl rfl rfl rfl rfl rfl ?_) | refine d_one 6 rfl (by kernel_rfl) (.inl rfl) (e_store 7 rfl rfl ts_25 rfl rfl rfl rfl rfl rfl ?_) | refine d_one 6 rfl (by kernel_rfl) (.inl rfl) (e_store 8 rfl rfl ts_25 rfl rfl rfl rfl rfl rfl ?_) | refine d_one 6 rfl (by kernel_rfl) (.inl rfl) (e_store 9 rfl rfl ts_25 rfl rfl rfl rfl rfl rfl ?_)
            refine d_next (fun w hi => by first | exact J.of_le (Ro.le.refl _) (fun x hx => by simp at hx ⊢; grind) hi | exact J.of_le hle91 (fun x hx => by simp at hx ⊢; grind) hi | exact J.of_le (hle91.trans hle93) (fun x hx => by simp at hx ⊢; grind) hi) ?_
            refine d_end (by kernel_rfl) ?_
            exact mid [(5, .pointer (some ⟨b5, 0, none⟩)), (7, .pointer (some ⟨b7, 0, none⟩)), (8, .pointer (some ⟨b8, 0, none⟩)), (12, .pointer (some ⟨b12, 0, none⟩)), (13, .pointer (some ⟨b13, 0, none⟩)), (17, .pointer (some ⟨b17, 0, none⟩))] ⟨rfl, rfl, rfl, rfl, rfl, rfl, trivial⟩ ⟨b17, uA, uc, uB, ud, rfl, rfl, hle91.trans hle93, hSu⟩
        · skip
          refine d_the rfl (.inl rfl) (e_alloc rfl zc_25 rfl fun b17 => ?_)
          refine d_next (fun w hi => by first | exact J.of_le (Ro.le.refl _) (fun x hx => by simp at hx ⊢; grind) hi | exact J.of_le hle91 (fun x hx => by simp at hx ⊢; grind) hi | exact J.of_le (hle91.trans hle93) (fun x hx => by simp at hx ⊢; grind) hi) ?_
          refine d_one 2 rfl (by kernel_rfl) (.inl rfl) (e_call rfl fn_15 rfl rfl (PHo.frozen (Without_o h A cA B cB _ _ hh2 a hn1 hn2)) fun v91 ro91 L91 hle91 hp91 => ?_)
          obtain ⟨tA, tc, tB, td, rfl, hSt, rfl⟩ := hp91
          refine d_next (fun w hi => by first | exact J.of_le (Ro.le.refl _) (fun x hx => by simp at hx ⊢; grind) hi | exact J.of_le hle91 (fun x hx => by simp at hx ⊢; grind) hi | exact J.of_le (hle91.trans hle93) (fun x hx => by simp at hx ⊢; grind) hi) ?_
          refine d_one 4 rfl (by kernel_rfl) (.inl rfl) (e_call rfl fn_15 rfl rfl (PHo.frozen (Without_o (woT h a) tA tc tB td _ _ hSt b hn1 (Nat.le_trans (List.length_filter_le _ _) hn2))) fun v93 ro93 L93 hle93 hp93 => ?_)
          obtain ⟨uA, uc, uB, ud, rfl, hSu, rfl⟩ := hp93
          refine d_next (fun w hi => by first | exact J.of_le (Ro.le.refl _) (fun x hx => by simp at hx ⊢; grind) hi | exact J.of_le hle91 (fun x hx => by simp at hx ⊢; grind) hi | exact J.of_le (hle91.trans hle93) (fun x hx => by simp at hx ⊢; grind) hi) ?_
          first | refine d_one 6 rfl (by kernel_rfl) (.inl rfl) (e_store 0 rfl rfl ts_25 rfl rfl rfl rfl rfl rfl ?_) | refine d_one 6 rfl (by kernel_rfl) (.inl rfl) (e_store 1 rfl rfl ts_25 rfl rfl rfl rfl rfl rfl ?_) | refine d_one 6 rfl (by kernel_rfl) (.inl rfl) (e_store 2 rfl rfl ts_25 rfl rfl rfl rfl rfl rfl ?_) | refine d_one 6 rfl (by kernel_rfl) (.inl rfl) (e_store 3 rfl rfl ts_25 rfl rfl rfl rfl rfl rfl ?_) | refine d_one 6 rfl (by kernel_rfl) (.inl rfl) (e_store 4 rfl rfl ts_25 rfl rfl rfl rfl rfl rfl ?_) | refine d_one 6 rfl (by kernel_rfl) (.inl rfl) (e_store 5 rfl rfl ts_25 rfl rfl rfl rfl rfl rfl ?_) | refine d_one 6 rfl (by kernel_rfl) (.inl rfl) (e_store 6 rfl rfl ts_25 rfl rfl rfl rfl rfl rfl ?_) | refine d_one 6 rfl (by kernel_rfl) (.inl rfl) (e_store 7 rfl rfl ts_25 rfl rfl rfl rfl rfl rfl ?_) | refine d_one 6 rfl (by kernel_rfl) (.inl rfl) (e_store 8 rfl rfl ts_25 rfl rfl rfl rfl rfl rfl ?_) | refine d_one 6 rfl (by kernel_rfl) (.inl rfl) (e_store 9 rfl rfl ts_25 rfl rfl rfl rfl rfl rfl ?_)
          refine d_next (fun w hi => by first | exact J.of_le (Ro.le.refl _) (fun x hx => by simp at hx ⊢; grind) hi | exact J.of_le hle91 (fun x hx => by simp at hx ⊢; grind) hi | exact J.of_le (hle91.trans hle93) (fun x hx => by simp at hx ⊢; grind) hi) ?_
          refine d_end (by kernel_rfl) ?_
          exact mid [(5, .pointer (some ⟨b5, 0, none⟩)), (7, .pointer (some ⟨b7, 0, none⟩)), (8, .pointer (some ⟨b8, 0, none⟩)), (12, .pointer (some ⟨b12, 0, none⟩)), (13, .pointer (some ⟨b13, 0, none⟩)), (17, .pointer (some ⟨b17, 0, none⟩))] ⟨rfl, rfl, rfl, rfl, rfl, rfl, trivial⟩ ⟨b17, uA, uc, uB, ud, rfl, rfl, hle91.trans hle93, hSu⟩
      · rintro F ro3' L3' ⟨b17, uA, uc, uB, ud, rfl, rfl, hro3, hSu⟩
        refine seqM (fun F ro4' L4' => ∃ (b18 : Nat) (vA : Option Addr) (vc : Nat) (vB : Option Addr) (vd : Nat), (F = [(5, .pointer (some ⟨b5, 0, none⟩)), (7, .pointer (some ⟨b7, 0, none⟩)), (8, .pointer (some ⟨b8, 0, none⟩)), (12, .pointer (some ⟨b12, 0, none⟩)), (13, .pointer (some ⟨b13, 0, none⟩)), (17, .pointer (some ⟨b17, 0, none⟩)), (18, .pointer (some ⟨b18, 0, none⟩))]) ∧ (L4' = [(b18, Obj.cells [Value.slice vA (woT (woT h b) a).os.length vc, Value.slice vB (woT (woT h b) a).es.length vd].toArray 25 (0, 0))] :: [(b17, Obj.cells [Value.slice uA (woT (woT h a) b).os.length uc, Value.slice uB (woT (woT h a) b).es.length ud].toArray 25 (0, 0))] :: [(b15, Obj.cells [Value.slice dA r.os.length dc, Value.slice dB r.es.length dd].toArray 25 (0, 0))] :: [(b14, Obj.cells [Value.slice qA (woT (pre h n) a).os.length qc, Value.slice qB (woT (pre h n) a).es.length qd].toArray 25 (0, 0))] :: [(b13, Obj.cells [Value.slice wA (woT h a).os.length wc, Value.slice wB (woT h a).es.length wd].toArray 25 (0, 0))] :: [(b12, Obj.cells [Value.slice pA (pre h n).os.length pc, Value.slice pB (pre h n).es.length pd].toArray 25 (0, 0))] :: [(b8, Obj.cells [Value.int .i64 b].toArray 3 (0, 0))] :: [(b7, Obj.cells [Value.int .i64 a].toArray 3 (0, 0))] :: [(b5, Obj.cells [Value.slice A h.os.length cA, Value.slice B h.es.length cB].toArray 25 (0, 0))] :: L) ∧ (ro3'.le ro4') ∧ (SH ro4' vA vc vB vd (woT (woT h b) a))) ?_ ?_
        · skip
          refine draw (List.flatten ([(b8, Obj.cells [Value.int .i64 b].toArray 3 (0, 0))] :: [(b7, Obj.cells [Value.int .i64 a].toArray 3 (0, 0))] :: [(b5, Obj.cells [Value.slice A h.os.length cA, Value.slice B h.es.length cB].toArray 25 (0, 0))] :: L)) (by kernel_rfl) ?_
          refine d_take 0 rfl (by kernel_rfl) (by kernel_rfl) (by kernel_rfl) (fun _ _ _ h => h) rfl (.inl rfl) ((by first | exact x_loadOwn 0 _ ag_25 rfl rfl rfl rfl | exact x_loadOwn 1 _ ag_25 rfl rfl rfl rfl | exact x_loadOwn 2 _ ag_25 rfl rfl rfl rfl | exact x_loadOwn 3 _ ag_25 rfl rfl rfl rfl | exact x_loadOwn 4 _ ag_25 rfl rfl rfl rfl | exact x_loadOwn 5 _ ag_25 rfl rfl rfl rfl | exact x_loadOwn 6 _ ag_25 rfl rfl rfl rfl | exact x_loadOwn 7 _ ag_25 rfl rfl rfl rfl | exact x_loadOwn 8 _ ag_25 rfl rfl rfl rfl | exact x_loadOwn 9 _ ag_25 rfl rfl rfl rfl | exact x_loadOwn 10 _ ag_25 rfl rfl rfl rfl | exact x_loadOwn 11 _ ag_25 rfl rfl rfl rfl)) (fun w hi => by first | exact J.of_le (Ro.le.refl _) (fun x hx => by simp at hx ⊢; grind) hi | exact J.of_le hle96 (fun x hx => by simp at hx ⊢; grind) hi | exact J.of_le (hle96.trans hle98) (fun x hx => by simp at hx ⊢; grind) hi) ?_
          refine d_take 1 rfl (by kernel_rfl) (by kernel_rfl) (by kernel_rfl) (fun _ _ _ h => h) rfl (.inl rfl) (x_load1 ag_3 rfl (by first | assumption | exact Cell.own 0 rfl rfl | exact Cell.own 1 rfl rfl | exact Cell.own 2 rfl rfl | exact Cell.own 3 rfl rfl | exact Cell.own 4 rfl rfl | exact Cell.own 5 rfl rfl | exact Cell.own 6 rfl rfl | exact Cell.own 7 rfl rfl | exact Cell.own 8 rfl rfl | exact Cell.own 9 rfl rfl | exact Cell.ofRo (by assumption))) (fun w hi => by first | exact J.of_le (Ro.le.refl _) (fun x hx => by simp at hx ⊢; grind) hi | exact J.of_le hle96 (fun x hx => by simp at hx ⊢; grind) hi | exact J.of_le (hle96.trans hle98) (fun x hx => by simp at hx ⊢; grind) hi) ?_
          refine d_take 3 rfl (by kernel_rfl) (by kernel_rfl) (by kernel_rfl) (fun _ _ _ h => h) rfl (.inl rfl) (x_load1 ag_3 rfl (by first | assumption | exact Cell.own 0 rfl rfl | exact Cell.own 1 rfl rfl | exact Cell.own 2 rfl rfl | exact Cell.own 3 rfl rfl | exact Cell.own 4 rfl rfl | exact Cell.own 5 rfl rfl | exact Cell.own 6 rfl rfl | exact Cell.own 7 rfl rfl | exact Cell.own 8 rfl rfl | exact Cell.own 9 rfl rfl | exact Cell.ofRo (by assumption))) (fun w hi => by first | exact J.of_le (Ro.le.refl _) (fun x hx => by simp at hx ⊢; grind) hi | exact J.of_le hle96 (fun x hx => by simp at hx ⊢; grind) hi | exact J.of_le (hle96.trans hle98) (fun x hx => by simp at hx ⊢; grind) hi) ?_
          refine d_two 2 5 (by kernel_rfl) ?_ ?_
          · skip
            refine d_the rfl (.inl rfl) (e_call rfl fn_15 rfl rfl (PHo.frozen (Without_o h A cA B cB _ _ (hh2.mono hro3) b hn1 hn2)) fun v96 ro96 L96 hle96 hp96 => ?_)
            obtain ⟨tA, tc, tB, td, rfl, hSt, rfl⟩ := hp96
            refine d_next (fun w hi => by first | exact J.of_le (Ro.le.refl _) (fun x hx => by simp at hx ⊢; grind) hi | exact J.of_le hle96 (fun x hx => by simp at hx ⊢; grind) hi | exact J.of_le (hle96.trans hle98) (fun x hx => by simp at hx ⊢; grind) hi) ?_
            refine d_two 4 5 (by kernel_rfl) ?_ ?_
            · skip
              refine d_the rfl (.inl rfl) (e_call rfl fn_15 rfl rfl (PHo.frozen (Without_o (woT h b) tA tc tB td _ _ hSt a hn1 (Nat.le_trans (List.length_filter_le _ _) hn2))) fun v98 ro98 L98 hle98 hp98 => ?_)
              obtain ⟨vA, vc, vB, vd, rfl, hSv, rfl⟩ := hp98
              refine d_next (fun w hi => by first | exact J.of_le (Ro.le.refl _) (fun x hx => by simp at hx ⊢; grind) hi | exact J.of_le hle96 (fun x hx => by simp at hx ⊢; grind) hi | exact J.of_le (hle96.trans hle98) (fun x hx => by simp at hx ⊢; grind) hi) ?_
              refine d_one 5 rfl (by kernel_rfl) (.inl rfl) (e_alloc rfl zc_25 rfl fun b18 => ?_)
              refine d_next (fun w hi => by first | exact J.of_le (Ro.le.refl _) (fun x hx => by simp at hx ⊢; grind) hi | exact J.of_le hle96 (fun x hx => by simp at hx ⊢; grind) hi | exact J.of_le (hle96.trans hle98) (fun x hx => by simp at hx ⊢; grind) hi) ?_
              first | refine d_one 6 rfl (by kernel_rfl) (.inl rfl) (e_store 0 rfl rfl ts_25 rfl rfl rfl rfl rfl rfl ?_) | refine d_one 6 rfl (by kernel_rfl) (.inl rfl) (e_store 1 rfl rfl ts_25 rfl rfl rfl rfl rfl rfl ?_) | refine d_one 6 rfl (by kernel_rfl) (.inl rfl) (e_store 2 rfl rfl ts_25 rfl rfl rfl rfl rfl rfl ?_) | refine d_one 6 rfl (by kernel_rfl) (.inl rfl) (e_store 3 rfl rfl ts_25 rfl rfl rfl rfl rfl rfl ?_) | refine d_one 6 rfl (by kernel_rfl) (.inl rfl) (e_store 4 rfl rfl ts_25 rfl rfl rfl rfl rfl rfl ?_) | refine d_one 6 rfl (by kernel_rfl) (.inl rfl) (e_store 5 rfl rfl ts_25 rfl rfl rfl rfl rfl rfl ?_) | refine d_one 6 rfl (by kernel_rfl) (.inl rfl) (e_store 6 rfl rfl ts_25 rfl rfl rfl rfl rfl rfl ?_) | refine d_one 6 rfl (by kernel_rfl) (.inl rfl) (e_store 7 rfl rfl ts_25 rfl rfl rfl rfl rfl rfl ?_) | refine d_one 6 rfl (by kernel_rfl) (.inl rfl) (e_store 8 rfl rfl ts_25 rfl rfl rfl rfl rfl rfl ?_) | refine d_one 6 rfl (by kernel_rfl) (.inl rfl) (e_store 9 rfl rfl ts_25 rfl rfl rfl rfl rfl rfl ?_)
              refine d_next (fun w hi => by first | exact J.of_le (Ro.le.refl _) (fun x hx => by simp at hx ⊢; grind) hi | exact J.of_le hle96 (fun x hx => by simp at hx ⊢; grind) hi | exact J.of_le (hle96.trans hle98) (fun x hx => by simp at hx ⊢; grind) hi) ?_
              refine d_end (by kernel_rfl) ?_
              exact mid [(5, .pointer (some ⟨b5, 0, none⟩)), (7, .pointer (some ⟨b7, 0, none⟩)), (8, .pointer (some ⟨b8, 0, none⟩)), (12, .pointer (some ⟨b12, 0, none⟩)), (13, .pointer (some ⟨b13, 0, none⟩)), (17, .pointer (some ⟨b17, 0, none⟩)), (18, .pointer (some ⟨b18, 0, none⟩))] ⟨rfl, rfl, rfl, rfl, rfl, rfl, rfl, trivial⟩ ⟨b18, vA, vc, vB, vd, rfl, rfl, hle96.trans hle98, hSv⟩
            · skip
              refine d_the rfl (.inl rfl) (e_alloc rfl zc_25 rfl fun b18 => ?_)
              refine d_next (fun w hi => by first | exact J.of_le (Ro.le.refl _) (fun x hx => by simp at hx ⊢; grind) hi | exact J.of_le hle96 (fun x hx => by simp at hx ⊢; grind) hi | exact J.of_le (hle96.trans hle98) (fun x hx => by simp at hx ⊢; grind) hi) ?_
              refine d_one 4 rfl (by kernel_rfl) (.inl rfl) (e_call rfl fn_15 rfl rfl (PHo.frozen (Without_o (woT h b) tA tc tB td _ _ hSt a hn1 (Nat.le_trans (List.length_filter_le _ _) hn2))) fun v98 ro98 L98 hle98 hp98 => ?_)
              obtain ⟨vA, vc, vB, vd, rfl, hSv, rfl⟩ := hp98
              refine d_next (fun w hi => by first | exact J.of_le (Ro.le.refl _) (fun x hx => by simp at hx ⊢; grind) hi | exact J.of_le hle96 (fun x hx => by simp at hx ⊢; grind) hi | exact J.of_le (hle96.trans hle98) (fun x hx => by simp at hx ⊢; grind) hi) ?_
              first | refine d_one 6 rfl (by kernel_rfl) (.inl rfl) (e_store 0 rfl rfl ts_25 rfl rfl rfl rfl rfl rfl ?_) | refine d_one 6 rfl (by kernel_rfl) (.inl rfl) (e_store 1 rfl rfl ts_25 rfl rfl rfl rfl rfl rfl ?_) | refine d_one 6 rfl (by kernel_rfl) (.inl rfl) (e_store 2 rfl rfl ts_25 rfl rfl rfl rfl rfl rfl ?_) | refine d_one 6 rfl (by kernel_rfl) (.inl rfl) (e_store 3 rfl rfl ts_25 rfl rfl rfl rfl rfl rfl ?_) | refine d_one 6 rfl (by kernel_rfl) (.inl rfl) (e_store 4 rfl rfl ts_25 rfl rfl rfl rfl rfl rfl ?_) | refine d_one 6 rfl (by kernel_rfl) (.inl rfl) (e_store 5 rfl rfl ts_25 rfl rfl rfl rfl rfl rfl ?_) | refine d_one 6 rfl (by kernel_rfl) (.inl rfl) (e_store 6 rfl rfl ts_25 rfl rfl rfl rfl rfl rfl ?_) | refine d_one 6 rfl (by kernel_rfl) (.inl rfl) (e_store 7 rfl rfl ts_25 rfl rfl rfl rfl rfl rfl ?_) | refine d_one 6 rfl (by kernel_rfl) (.inl rfl) (e_store 8 rfl rfl ts_25 rfl rfl rfl rfl rfl rfl ?_) | refine d_one 6 rfl (by kernel_rfl) (.inl rfl) (e_store 9 rfl rfl ts_25 rfl rfl rfl rfl rfl rfl ?_)
              refine d_next (fun w hi => by first | exact J.of_le (Ro.le.refl _) (fun x hx => by simp at hx ⊢; grind) hi | exact J.of_le hle96 (fun x hx => by simp at hx ⊢; grind) hi | exact J.of_le (hle96.trans hle98) (fun x hx => by simp at hx ⊢; grind) hi) ?_
              refine d_end (by kernel_rfl) ?_
              exact mid [(5, .pointer (some ⟨b5, 0, none⟩)), (7, .pointer (some ⟨b7, 0, none⟩)), (8, .pointer (some ⟨b8, 0, none⟩)), (12, .pointer (some ⟨b12, 0, none⟩)), (13, .pointer (some ⟨b13, 0, none⟩)), (17, .pointer (some ⟨b17, 0, none⟩)), (18, .pointer (some ⟨b18, 0, none⟩))] ⟨rfl, rfl, rfl, rfl, rfl, rfl, rfl, trivial⟩ ⟨b18, vA, vc, vB, vd, rfl, rfl, hle96.trans hle98, hSv⟩
          · skip
            refine d_the rfl (.inl rfl) (e_alloc rfl zc_25 rfl fun b18 => ?_)
            refine d_next (fun w hi => by first | exact J.of_le (Ro.le.refl _) (fun x hx => by simp at hx ⊢; grind) hi | exact J.of_le hle96 (fun x hx => by simp at hx ⊢; grind) hi | exact J.of_le (hle96.trans hle98) (fun x hx => by simp at hx ⊢; grind) hi) ?_
            refine d_one 2 rfl (by kernel_rfl) (.inl rfl) (e_call rfl fn_15 rfl rfl (PHo.frozen (Without_o h A cA B cB _ _ (hh2.mono hro3) b hn1 hn2)) fun v96 ro96 L96 hle96 hp96 => ?_)
            obtain ⟨tA, tc, tB, td, rfl, hSt, rfl⟩ := hp96
            refine d_next (fun w hi => by first | exact J.of_le (Ro.le.refl _) (fun x hx => by simp at hx ⊢; grind) hi | exact J.of_le hle96 (fun x hx => by simp at hx ⊢; grind) hi | exact J.of_le (hle96.trans hle98) (fun x hx => by simp at hx ⊢; grind) hi) ?_
            refine d_one 4 rfl (by kernel_rfl) (.inl rfl) (e_call rfl fn_15 rfl rfl (PHo.frozen (Without_o (woT h b) tA tc tB td _ _ hSt a hn1 (Nat.le_trans (List.length_filter_le _ _) hn2))) fun v98 ro98 L98 hle98 hp98 => ?_)
            obtain ⟨vA, vc, vB, vd, rfl, hSv, rfl⟩ := hp98
            refine d_next (fun w hi => by first | exact J.of_le (Ro.le.refl _) (fun x hx => by simp at hx ⊢; grind) hi | exact J.of_le hle96 (fun x hx => by simp at hx ⊢; grind) hi | exact J.of_le (hle96.trans hle98) (fun x hx => by simp at hx ⊢; grind) hi) ?_
            first | refine d_one 6 rfl (by kernel_rfl) (.inl rfl) (e_store 0 rfl rfl ts_25 rfl rfl rfl rfl rfl rfl ?_) | refine d_one 6 rfl (by kernel_rfl) (.inl rfl) (e_store 1 rfl rfl ts_25 rfl rfl rfl rfl rfl rfl ?_) | refine d_one 6 rfl (by kernel_rfl) (.inl rfl) (e_store 2 rfl rfl ts_25 rfl rfl rfl rfl rfl rfl ?_) | refine d_one 6 rfl (by kernel_rfl) (.inl rfl) (e_store 3 rfl rfl ts_25 rfl rfl rfl rfl rfl rfl ?_) | refine d_one 6 rfl (by kernel_rfl) (.inl rfl) (e_store 4 rfl rfl ts_25 rfl rfl rfl rfl rfl rfl ?_) | refine d_one 6 rfl (by kernel_rfl) (.inl rfl) (e_store 5 rfl rfl ts_25 rfl rfl rfl rfl rfl rfl ?_) | refine d_one 6 rfl (by kernel_rfl) (.inl rfl) (e_store 6 rfl rfl ts_25 rfl rfl rfl rfl rfl rfl ?_) | refine d_one 6 rfl (by kernel_rfl) (.inl rfl) (e_store 7 rfl rfl ts_25 rfl rfl rfl rfl rfl rfl ?_) | refine d_one 6 rfl (by kernel_rfl) (.inl rfl) (e_store 8 rfl rfl ts_25 rfl rfl rfl rfl rfl rfl ?_) | refine d_one 6 rfl (by kernel_rfl) (.inl rfl) (e_store 9 rfl rfl ts_25 rfl rfl rfl rfl rfl rfl ?_)
            refine d_next (fun w hi => by first | exact J.of_le (Ro.le.refl _) (fun x hx => by simp at hx ⊢; grind) hi | exact J.of_le hle96 (fun x hx => by simp at hx ⊢; grind) hi | exact J.of_le (hle96.trans hle98) (fun x hx => by simp at hx ⊢; grind) hi) ?_
            refine d_end (by kernel_rfl) ?_
            exact mid [(5, .pointer (some ⟨b5, 0, none⟩)), (7, .pointer (some ⟨b7, 0, none⟩)), (8, .pointer (some ⟨b8, 0, none⟩)), (12, .pointer (some ⟨b12, 0, none⟩)), (13, .pointer (some ⟨b13, 0, none⟩)), (17, .pointer (some ⟨b17, 0, none⟩)), (18, .pointer (some ⟨b18, 0, none⟩))] ⟨rfl, rfl, rfl, rfl, rfl, rfl, rfl, trivial⟩ ⟨b18, vA, vc, vB, vd, rfl, rfl, hle96.trans hle98, hSv⟩
        · rintro F ro4' L4' ⟨b18, vA, vc, vB, vd, rfl, rfl, hro4, hSv⟩
          have hh4 := (hh2.mono hro3).mono hro4
          refine seq ?_
          refine region ?_
          refine op (y ((by first | exact x_loadOwn 0 _ ag_25 rfl rfl rfl rfl | exact x_loadOwn 1 _ ag_25 rfl rfl rfl rfl | exact x_loadOwn 2 _ ag_25 rfl rfl rfl rfl | exact x_loadOwn 3 _ ag_25 rfl rfl rfl rfl | exact x_loadOwn 4 _ ag_25 rfl rfl rfl rfl | exact x_loadOwn 5 _ ag_25 rfl rfl rfl rfl | exact x_loadOwn 6 _ ag_25 rfl rfl rfl rfl | exact x_loadOwn 7 _ ag_25 rfl rfl rfl rfl | exact x_loadOwn 8 _ ag_25 rfl rfl rfl rfl | exact x_loadOwn 9 _ ag_25 rfl rfl rfl rfl | exact x_loadOwn 10 _ ag_25 rfl rfl rfl rfl | exact x_loadOwn 11 _ ag_25 rfl rfl rfl rfl)) rfl ?_)
          refine op (y (x_makeFunc rfl rfl) rfl ?_)
          refine op (e_call rfl fn_17 rfl rfl (PHo.frozen (Only_p h A cA B cB _ _ hh4 hn1 hn2 24 [.pointer (some ⟨b7, 0, none⟩), .pointer (some ⟨b8, 0, none⟩)] fn_24 (fun t => decide (t ≠ a ∧ t ≠ b)) (fun t ro' L' _ hL => Less1_c t a b b7 b8 ro' L' (hL _ (by simp)) (hL _ (by simp))))) fun v101 ro101 L101 hle101 hp101 => ?_)
          obtain ⟨xA, xc, xB, xd, rfl, hSx, rfl⟩ := hp101
          refine op (e_alloc rfl zc_25 rfl fun b19 => ?_)
          first | refine op (e_store 0 rfl rfl ts_25 rfl rfl rfl rfl rfl rfl ?_) | refine op (e_store 1 rfl rfl ts_25 rfl rfl rfl rfl rfl rfl ?_) | refine op (e_store 2 rfl rfl ts_25 rfl rfl rfl rfl rfl rfl ?_) | refine op (e_store 3 rfl rfl ts_25 rfl rfl rfl rfl rfl rfl ?_) | refine op (e_store 4 rfl rfl ts_25 rfl rfl rfl rfl rfl rfl ?_) | refine op (e_store 5 rfl rfl ts_25 rfl rfl rfl rfl rfl rfl ?_) | refine op (e_store 6 rfl rfl ts_25 rfl rfl rfl rfl rfl rfl ?_) | refine op (e_store 7 rfl rfl ts_25 rfl rfl rfl rfl rfl rfl ?_) | refine op (e_store 8 rfl rfl ts_25 rfl rfl rfl rfl rfl rfl ?_) | refine op (e_store 9 rfl rfl ts_25 rfl rfl rfl rfl rfl rfl ?_)
          refine nil ?_
          refine n_then ?_
          refine seq ?_
          have hSu1 := (hSu.mono hro4).mono hle101
          have hSv1 := hSv.mono hle101
          have hSp3 := ((hSp2.mono hro3).mono hro4).mono hle101
          have hSw3 := ((hSw2.mono hro3).mono hro4).mono hle101
          have hle5 := hle1.trans (hro3.trans (hro4.trans hle101))
          have hh5 := hh.mono hle5
          refine region ?_
          refine op (y ((by first | exact x_loadOwn 0 _ ag_25 rfl rfl rfl rfl | exact x_loadOwn 1 _ ag_25 rfl rfl rfl rfl | exact x_loadOwn 2 _ ag_25 rfl rfl rfl rfl | exact x_loadOwn 3 _ ag_25 rfl rfl rfl rfl | exact x_loadOwn 4 _ ag_25 rfl rfl rfl rfl | exact x_loadOwn 5 _ ag_25 rfl rfl rfl rfl | exact x_loadOwn 6 _ ag_25 rfl rfl rfl rfl | exact x_loadOwn 7 _ ag_25 rfl rfl rfl rfl | exact x_loadOwn 8 _ ag_25 rfl rfl rfl rfl | exact x_loadOwn 9 _ ag_25 rfl rfl rfl rfl | exact x_loadOwn 10 _ ag_25 rfl rfl rfl rfl | exact x_loadOwn 11 _ ag_25 rfl rfl rfl rfl)) rfl ?_)
          refine op (y ((by first | exact x_loadOwn 0 _ ag_25 rfl rfl rfl rfl | exact x_loadOwn 1 _ ag_25 rfl rfl rfl rfl | exact x_loadOwn 2 _ ag_25 rfl rfl rfl rfl | exact x_loadOwn 3 _ ag_25 rfl rfl rfl rfl | exact x_loadOwn 4 _ ag_25 rfl rfl rfl rfl | exact x_loadOwn 5 _ ag_25 rfl rfl rfl rfl | exact x_loadOwn 6 _ ag_25 rfl rfl rfl rfl | exact x_loadOwn 7 _ ag_25 rfl rfl rfl rfl | exact x_loadOwn 8 _ ag_25 rfl rfl rfl rfl | exact x_loadOwn 9 _ ag_25 rfl rfl rfl rfl | exact x_loadOwn 10 _ ag_25 rfl rfl rfl rfl | exact x_loadOwn 11 _ ag_25 rfl rfl rfl rfl)) rfl ?_)
          refine op (e_call rfl fn_12 rfl rfl (SameHistory_c (woT (woT h a) b) _ _ _ _ (woT (woT h b) a) _ _ _ _ _ _ hSu1 hSv1) fun v104 ro104 L104 hle104 hp104 => ?_)
          obtain ⟨rfl, rfl, rfl⟩ := hp104
          refine said 104 (.bool true) rfl (by rw [wo_wo, wo_wo, on_comm h a b]; simp) ?_
          refine op (y (x_move rfl) rfl ?_)
          refine opG rfl rfl (y ((by first | exact x_loadOwn 0 _ ag_25 rfl rfl rfl rfl | exact x_loadOwn 1 _ ag_25 rfl rfl rfl rfl | exact x_loadOwn 2 _ ag_25 rfl rfl rfl rfl | exact x_loadOwn 3 _ ag_25 rfl rfl rfl rfl | exact x_loadOwn 4 _ ag_25 rfl rfl rfl rfl | exact x_loadOwn 5 _ ag_25 rfl rfl rfl rfl | exact x_loadOwn 6 _ ag_25 rfl rfl rfl rfl | exact x_loadOwn 7 _ ag_25 rfl rfl rfl rfl | exact x_loadOwn 8 _ ag_25 rfl rfl rfl rfl | exact x_loadOwn 9 _ ag_25 rfl rfl rfl rfl | exact x_loadOwn 10 _ ag_25 rfl rfl rfl rfl | exact x_loadOwn 11 _ ag_25 rfl rfl rfl rfl)) rfl ?_)
          refine opG rfl rfl (y ((by first | exact x_loadOwn 0 _ ag_25 rfl rfl rfl rfl | exact x_loadOwn 1 _ ag_25 rfl rfl rfl rfl | exact x_loadOwn 2 _ ag_25 rfl rfl rfl rfl | exact x_loadOwn 3 _ ag_25 rfl rfl rfl rfl | exact x_loadOwn 4 _ ag_25 rfl rfl rfl rfl | exact x_loadOwn 5 _ ag_25 rfl rfl rfl rfl | exact x_loadOwn 6 _ ag_25 rfl rfl rfl rfl | exact x_loadOwn 7 _ ag_25 rfl rfl rfl rfl | exact x_loadOwn 8 _ ag_25 rfl rfl rfl rfl | exact x_loadOwn 9 _ ag_25 rfl rfl rfl rfl | exact x_loadOwn 10 _ ag_25 rfl rfl rfl rfl | exact x_loadOwn 11 _ ag_25 rfl rfl rfl rfl)) rfl ?_)
          refine opG rfl rfl (e_call rfl fn_12 rfl rfl (SameHistory_c (woT (woT h a) b) _ _ _ _ (onT h (fun t => decide (t ≠ a ∧ t ≠ b))) _ _ _ _ _ _ hSu1 hSx) fun v108 ro108 L108 hle108 hp108 => ?_)
          obtain ⟨rfl, rfl, rfl⟩ := hp108
          refine said 108 (.bool true) rfl (by simp [wo_wo]) ?_
          refine op (y (x_pickT rfl rfl) rfl ?_)
          refine op (y (x_assign rfl) rfl ?_)
          refine nil ?_
          refine n_then ?_
          refine seqM (fun F ro' L' => (F = [(5, .pointer (some ⟨b5, 0, none⟩)), (7, .pointer (some ⟨b7, 0, none⟩)), (8, .pointer (some ⟨b8, 0, none⟩)), (12, .pointer (some ⟨b12, 0, none⟩)), (13, .pointer (some ⟨b13, 0, none⟩)), (20, .bool true)]) ∧ (ro101 = ro') ∧ (L' = [(b19, Obj.cells [Value.slice xA (onT h (fun t => decide (t ≠ a ∧ t ≠ b))).os.length xc, Value.slice xB (onT h (fun t => decide (t ≠ a ∧ t ≠ b))).es.length xd].toArray 25 (0, 0))] :: [(b18, Obj.cells [Value.slice vA (woT (woT h b) a).os.length vc, Value.slice vB (woT (woT h b) a).es.length vd].toArray 25 (0, 0))] :: [(b17, Obj.cells [Value.slice uA (woT (woT h a) b).os.length uc, Value.slice uB (woT (woT h a) b).es.length ud].toArray 25 (0, 0))] :: [(b15, Obj.cells [Value.slice dA r.os.length dc, Value.slice dB r.es.length dd].toArray 25 (0, 0))] :: [(b14, Obj.cells [Value.slice qA (woT (pre h n) a).os.length qc, Value.slice qB (woT (pre h n) a).es.length qd].toArray 25 (0, 0))] :: [(b13, Obj.cells [Value.slice wA (woT h a).os.length wc, Value.slice wB (woT h a).es.length wd].toArray 25 (0, 0))] :: [(b12, Obj.cells [Value.slice pA (pre h n).os.length pc, Value.slice pB (pre h n).es.length pd].toArray 25 (0, 0))] :: [(b8, Obj.cells [Value.int .i64 b].toArray 3 (0, 0))] :: [(b7, Obj.cells [Value.int .i64 a].toArray 3 (0, 0))] :: [(b5, Obj.cells [Value.slice A h.os.length cA, Value.slice B h.es.length cB].toArray 25 (0, 0))] :: L)) ?_ ?_
          · skip
            refine seq ?_
            refine region ?_
            refine op (y ((by first | exact x_loadOwn 0 _ ag_25 rfl rfl rfl rfl | exact x_loadOwn 1 _ ag_25 rfl rfl rfl rfl | exact x_loadOwn 2 _ ag_25 rfl rfl rfl rfl | exact x_loadOwn 3 _ ag_25 rfl rfl rfl rfl | exact x_loadOwn 4 _ ag_25 rfl rfl rfl rfl | exact x_loadOwn 5 _ ag_25 rfl rfl rfl rfl | exact x_loadOwn 6 _ ag_25 rfl rfl rfl rfl | exact x_loadOwn 7 _ ag_25 rfl rfl rfl rfl | exact x_loadOwn 8 _ ag_25 rfl rfl rfl rfl | exact x_loadOwn 9 _ ag_25 rfl rfl rfl rfl | exact x_loadOwn 10 _ ag_25 rfl rfl rfl rfl | exact x_loadOwn 11 _ ag_25 rfl rfl rfl rfl)) rfl ?_)
            refine op (y ((by first | exact x_loadOwn 0 _ ag_25 rfl rfl rfl rfl | exact x_loadOwn 1 _ ag_25 rfl rfl rfl rfl | exact x_loadOwn 2 _ ag_25 rfl rfl rfl rfl | exact x_loadOwn 3 _ ag_25 rfl rfl rfl rfl | exact x_loadOwn 4 _ ag_25 rfl rfl rfl rfl | exact x_loadOwn 5 _ ag_25 rfl rfl rfl rfl | exact x_loadOwn 6 _ ag_25 rfl rfl rfl rfl | exact x_loadOwn 7 _ ag_25 rfl rfl rfl rfl | exact x_loadOwn 8 _ ag_25 rfl rfl rfl rfl | exact x_loadOwn 9 _ ag_25 rfl rfl rfl rfl | exact x_loadOwn 10 _ ag_25 rfl rfl rfl rfl | exact x_loadOwn 11 _ ag_25 rfl rfl rfl rfl)) rfl ?_)
            refine op (e_call rfl fn_21 rfl rfl (Sub_c (woT h a) _ _ _ _ (pre h n) _ _ _ _ _ _ hSw3 hSp3) fun v112 ro112 L112 hle112 hp112 => ?_)
            obtain ⟨rfl, rfl, rfl⟩ := hp112
            refine op (y (x_move rfl) rfl ?_)
            refine bsplit 113 rfl (fun g113 => ?_) (fun g113 => ?_)
            · try simp only [decide_eq_true_eq, decide_eq_false_iff_not, beq_iff_eq, bne_iff_ne, ne_eq, beq_eq_false_iff_ne, bne_eq_false_iff_eq, Bool.not_eq_true', Bool.not_eq_false', Bool.not_eq_true, Bool.not_eq_false, Decidable.not_not, Int.not_lt, Int.not_le] at g113
              refine opG rfl rfl (y ((by first | exact x_loadOwn 0 _ ag_25 rfl rfl rfl rfl | exact x_loadOwn 1 _ ag_25 rfl rfl rfl rfl | exact x_loadOwn 2 _ ag_25 rfl rfl rfl rfl | exact x_loadOwn 3 _ ag_25 rfl rfl rfl rfl | exact x_loadOwn 4 _ ag_25 rfl rfl rfl rfl | exact x_loadOwn 5 _ ag_25 rfl rfl rfl rfl | exact x_loadOwn 6 _ ag_25 rfl rfl rfl rfl | exact x_loadOwn 7 _ ag_25 rfl rfl rfl rfl | exact x_loadOwn 8 _ ag_25 rfl rfl rfl rfl | exact x_loadOwn 9 _ ag_25 rfl rfl rfl rfl | exact x_loadOwn 10 _ ag_25 rfl rfl rfl rfl | exact x_loadOwn 11 _ ag_25 rfl rfl rfl rfl)) rfl ?_)
              refine opG rfl rfl (y ((by first | exact x_loadOwn 0 _ ag_25 rfl rfl rfl rfl | exact x_loadOwn 1 _ ag_25 rfl rfl rfl rfl | exact x_loadOwn 2 _ ag_25 rfl rfl rfl rfl | exact x_loadOwn 3 _ ag_25 rfl rfl rfl rfl | exact x_loadOwn 4 _ ag_25 rfl rfl rfl rfl | exact x_loadOwn 5 _ ag_25 rfl rfl rfl rfl | exact x_loadOwn 6 _ ag_25 rfl rfl rfl rfl | exact x_loadOwn 7 _ ag_25 rfl rfl rfl rfl | exact x_loadOwn 8 _ ag_25 rfl rfl rfl rfl | exact x_loadOwn 9 _ ag_25 rfl rfl rfl rfl | exact x_loadOwn 10 _ ag_25 rfl rfl rfl rfl | exact x_loadOwn 11 _ ag_25 rfl rfl rfl rfl)) rfl ?_)
              refine opG rfl rfl (e_call rfl fn_21 rfl rfl (Sub_c (pre h n) _ _ _ _ (woT h a) _ _ _ _ _ _ hSp3 hSw3) fun v116 ro116 L116 hle116 hp116 => ?_)
              obtain ⟨rfl, rfl, rfl⟩ := hp116
              refine op (y (x_pickT rfl rfl) rfl ?_)
              refine op (y (x_move rfl) rfl ?_)
              refine bsplit 118 rfl (fun g118 => ?_) (fun g118 => ?_)
              · try simp only [decide_eq_true_eq, decide_eq_false_iff_not, beq_iff_eq, bne_iff_ne, ne_eq, beq_eq_false_iff_ne, bne_eq_false_iff_eq, Bool.not_eq_true', Bool.not_eq_false', Bool.not_eq_true, Bool.not_eq_false, Decidable.not_not, Int.not_lt, Int.not_le] at g118
                refine opG rfl rfl (y ((by first | exact x_loadOwn 0 _ ag_25 rfl rfl rfl rfl | exact x_loadOwn 1 _ ag_25 rfl rfl rfl rfl | exact x_loadOwn 2 _ ag_25 rfl rfl rfl rfl | exact x_loadOwn 3 _ ag_25 rfl rfl rfl rfl | exact x_loadOwn 4 _ ag_25 rfl rfl rfl rfl | exact x_loadOwn 5 _ ag_25 rfl rfl rfl rfl | exact x_loadOwn 6 _ ag_25 rfl rfl rfl rfl | exact x_loadOwn 7 _ ag_25 rfl rfl rfl rfl | exact x_loadOwn 8 _ ag_25 rfl rfl rfl rfl | exact x_loadOwn 9 _ ag_25 rfl rfl rfl rfl | exact x_loadOwn 10 _ ag_25 rfl rfl rfl rfl | exact x_loadOwn 11 _ ag_25 rfl rfl rfl rfl)) rfl ?_)
                refine opG rfl rfl (y ((by first | exact x_loadOwn 0 _ ag_25 rfl rfl rfl rfl | exact x_loadOwn 1 _ ag_25 rfl rfl rfl rfl | exact x_loadOwn 2 _ ag_25 rfl rfl rfl rfl | exact x_loadOwn 3 _ ag_25 rfl rfl rfl rfl | exact x_loadOwn 4 _ ag_25 rfl rfl rfl rfl | exact x_loadOwn 5 _ ag_25 rfl rfl rfl rfl | exact x_loadOwn 6 _ ag_25 rfl rfl rfl rfl | exact x_loadOwn 7 _ ag_25 rfl rfl rfl rfl | exact x_loadOwn 8 _ ag_25 rfl rfl rfl rfl | exact x_loadOwn 9 _ ag_25 rfl rfl rfl rfl | exact x_loadOwn 10 _ ag_25 rfl rfl rfl rfl | exact x_loadOwn 11 _ ag_25 rfl rfl rfl rfl)) rfl ?_)
                refine opG rfl rfl (e_call rfl fn_12 rfl rfl (SameHistory_c (woT h a) _ _ _ _ (pre h n) _ _ _ _ _ _ hSw3 hSp3) fun v121 ro121 L121 hle121 hp121 => ?_)
                obtain ⟨rfl, rfl, rfl⟩ := hp121
                refine said 121 (.bool true) rfl (by simp [sub_anti (show SubH (woT h a) (pre h n) by grind) (show SubH (pre h n) (woT h a) by grind)]) ?_
                refine opG rfl rfl (y (x_not rfl) rfl ?_)
                refine op (y (x_pickT rfl rfl) rfl ?_)
                refine nil ?_
                refine n_then ?_
                refine condF rfl ?_
                refine skip ?_
                exact mid [(5, .pointer (some ⟨b5, 0, none⟩)), (7, .pointer (some ⟨b7, 0, none⟩)), (8, .pointer (some ⟨b8, 0, none⟩)), (12, .pointer (some ⟨b12, 0, none⟩)), (13, .pointer (some ⟨b13, 0, none⟩)), (20, .bool true)] ⟨rfl, rfl, rfl, rfl, rfl, rfl, trivial⟩ ⟨rfl, rfl, rfl⟩
              · try simp only [decide_eq_true_eq, decide_eq_false_iff_not, beq_iff_eq, bne_iff_ne, ne_eq, beq_eq_false_iff_ne, bne_eq_false_iff_eq, Bool.not_eq_true', Bool.not_eq_false', Bool.not_eq_true, Bool.not_eq_false, Decidable.not_not, Int.not_lt, Int.not_le] at g118
                refine opN rfl rfl rfl rfl ?_
                refine opN rfl rfl rfl rfl ?_
                refine opN rfl rfl rfl rfl ?_
                refine opN rfl rfl rfl rfl ?_
                refine op (y (x_pickF rfl rfl) rfl ?_)
                refine nil ?_
                refine n_then ?_
                refine condF rfl ?_
                refine skip ?_
                exact mid [(5, .pointer (some ⟨b5, 0, none⟩)), (7, .pointer (some ⟨b7, 0, none⟩)), (8, .pointer (some ⟨b8, 0, none⟩)), (12, .pointer (some ⟨b12, 0, none⟩)), (13, .pointer (some ⟨b13, 0, none⟩)), (20, .bool true)] ⟨rfl, rfl, rfl, rfl, rfl, rfl, trivial⟩ ⟨rfl, rfl, rfl⟩
            · try simp only [decide_eq_true_eq, decide_eq_false_iff_not, beq_iff_eq, bne_iff_ne, ne_eq, beq_eq_false_iff_ne, bne_eq_false_iff_eq, Bool.not_eq_true', Bool.not_eq_false', Bool.not_eq_true, Bool.not_eq_false, Decidable.not_not, Int.not_lt, Int.not_le] at g113
              refine opN rfl rfl rfl rfl ?_
              refine opN rfl rfl rfl rfl ?_
              refine opN rfl rfl rfl rfl ?_
              refine op (y (x_pickF rfl rfl) rfl ?_)
              refine op (y (x_move rfl) rfl ?_)
              refine opN rfl rfl rfl rfl ?_
              refine opN rfl rfl rfl rfl ?_
              refine opN rfl rfl rfl rfl ?_
              refine opN rfl rfl rfl rfl ?_
              refine op (y (x_pickF rfl rfl) rfl ?_)
              refine nil ?_
              refine n_then ?_
              refine condF rfl ?_
              refine skip ?_
              exact mid [(5, .pointer (some ⟨b5, 0, none⟩)), (7, .pointer (some ⟨b7, 0, none⟩)), (8, .pointer (some ⟨b8, 0, none⟩)), (12, .pointer (some ⟨b12, 0, none⟩)), (13, .pointer (some ⟨b13, 0, none⟩)), (20, .bool true)] ⟨rfl, rfl, rfl, rfl, rfl, rfl, trivial⟩ ⟨rfl, rfl, rfl⟩
          · rintro F ro' L' ⟨rfl, rfl, rfl⟩
            refine seq ?_
            refine region ?_
            refine op (y ((by first | exact x_loadOwn 0 _ ag_25 rfl rfl rfl rfl | exact x_loadOwn 1 _ ag_25 rfl rfl rfl rfl | exact x_loadOwn 2 _ ag_25 rfl rfl rfl rfl | exact x_loadOwn 3 _ ag_25 rfl rfl rfl rfl | exact x_loadOwn 4 _ ag_25 rfl rfl rfl rfl | exact x_loadOwn 5 _ ag_25 rfl rfl rfl rfl | exact x_loadOwn 6 _ ag_25 rfl rfl rfl rfl | exact x_loadOwn 7 _ ag_25 rfl rfl rfl rfl | exact x_loadOwn 8 _ ag_25 rfl rfl rfl rfl | exact x_loadOwn 9 _ ag_25 rfl rfl rfl rfl | exact x_loadOwn 10 _ ag_25 rfl rfl rfl rfl | exact x_loadOwn 11 _ ag_25 rfl rfl rfl rfl)) rfl ?_)
            refine op (y (x_makeFunc rfl rfl) rfl ?_)
            refine op (e_call rfl fn_17 rfl rfl (PHo.frozen (Only_p h A cA B cB _ _ hh5 hn1 hn2 25 [.pointer (some ⟨b7, 0, none⟩)] fn_25 (fun t => decide (t = a)) (fun t ro' L' _ hL => Less2_c t a b7 ro' L' (hL _ (by simp))))) fun v126 ro126 L126 hle126 hp126 => ?_)
            obtain ⟨yA, yc, yB, yd, rfl, hSy, rfl⟩ := hp126
            refine op (e_alloc rfl zc_25 rfl fun b21 => ?_)
            first | refine op (e_store 0 rfl rfl ts_25 rfl rfl rfl rfl rfl rfl ?_) | refine op (e_store 1 rfl rfl ts_25 rfl rfl rfl rfl rfl rfl ?_) | refine op (e_store 2 rfl rfl ts_25 rfl rfl rfl rfl rfl rfl ?_) | refine op (e_store 3 rfl rfl ts_25 rfl rfl rfl rfl rfl rfl ?_) | refine op (e_store 4 rfl rfl ts_25 rfl rfl rfl rfl rfl rfl ?_) | refine op (e_store 5 rfl rfl ts_25 rfl rfl rfl rfl rfl rfl ?_) | refine op (e_store 6 rfl rfl ts_25 rfl rfl rfl rfl rfl rfl ?_) | refine op (e_store 7 rfl rfl ts_25 rfl rfl rfl rfl rfl rfl ?_) | refine op (e_store 8 rfl rfl ts_25 rfl rfl rfl rfl rfl rfl ?_) | refine op (e_store 9 rfl rfl ts_25 rfl rfl rfl rfl rfl rfl ?_)
            refine nil ?_
            refine n_then ?_
            refine seq ?_
            refine region ?_
            refine op (y (x_assign rfl) rfl ?_)
            refine nil ?_
            refine n_then ?_
            refine seq ?_
            refine seq ?_
            refine region ?_
            refine op (y (x_assign rfl) rfl ?_)
            refine nil ?_
            refine n_then ?_
            refine block ?_
            refine loop (fun m F ro' L' => ∃ (i : Nat) (mq : Nat), (m = (pre h n).es.length - i) ∧ (F = [(5, .pointer (some ⟨b5, 0, none⟩)), (7, .pointer (some ⟨b7, 0, none⟩)), (12, .pointer (some ⟨b12, 0, none⟩)), (20, .bool true), (21, .pointer (some ⟨b21, 0, none⟩)), (22, .int .i64 (mq : Nat)), (23, .int .i64 (i : Nat))]) ∧ (ro126 = ro') ∧ (L' = [(b21, Obj.cells [Value.slice yA (onT h (fun t => decide (t = a))).os.length yc, Value.slice yB (onT h (fun t => decide (t = a))).es.length yd].toArray 25 (0, 0))] :: [(b19, Obj.cells [Value.slice xA (onT h (fun t => decide (t ≠ a ∧ t ≠ b))).os.length xc, Value.slice xB (onT h (fun t => decide (t ≠ a ∧ t ≠ b))).es.length xd].toArray 25 (0, 0))] :: [(b18, Obj.cells [Value.slice vA (woT (woT h b) a).os.length vc, Value.slice vB (woT (woT h b) a).es.length vd].toArray 25 (0, 0))] :: [(b17, Obj.cells [Value.slice uA (woT (woT h a) b).os.length uc, Value.slice uB (woT (woT h a) b).es.length ud].toArray 25 (0, 0))] :: [(b15, Obj.cells [Value.slice dA r.os.length dc, Value.slice dB r.es.length dd].toArray 25 (0, 0))] :: [(b14, Obj.cells [Value.slice qA (woT (pre h n) a).os.length qc, Value.slice qB (woT (pre h n) a).es.length qd].toArray 25 (0, 0))] :: [(b13, Obj.cells [Value.slice wA (woT h a).os.length wc, Value.slice wB (woT h a).es.length wd].toArray 25 (0, 0))] :: [(b12, Obj.cells [Value.slice pA (pre h n).os.length pc, Value.slice pB (pre h n).es.length pd].toArray 25 (0, 0))] :: [(b8, Obj.cells [Value.int .i64 b].toArray 3 (0, 0))] :: [(b7, Obj.cells [Value.int .i64 a].toArray 3 (0, 0))] :: [(b5, Obj.cells [Value.slice A h.os.length cA, Value.slice B h.es.length cB].toArray 25 (0, 0))] :: L) ∧ (i ≤ (pre h n).es.length) ∧ (mq = (((pre h n).es.take i).filter (fun e => decide (e.tx = a))).length) ∧ (mq ≤ i)) ((pre h n).es.length - 0) [(5, .pointer (some ⟨b5, 0, none⟩)), (7, .pointer (some ⟨b7, 0, none⟩)), (12, .pointer (some ⟨b12, 0, none⟩)), (20, .bool true), (21, .pointer (some ⟨b21, 0, none⟩)), (22, .int .i64 (0 : Nat)), (23, .int .i64 (0 : Nat))] ⟨rfl, rfl, rfl, rfl, rfl, rfl, rfl, trivial⟩ ⟨0, 0, rfl, rfl, rfl, rfl, by omega, rfl, by omega⟩ ?_
            rintro m F ro' L' ⟨i, mq, rfl, rfl, rfl, rfl, hi, hmq, hmi⟩
            refine seq ?_
            refine seq ?_
            refine region ?_
            refine op (y (x_move rfl) rfl ?_)
            refine op (y (x_fieldAddr fo_25_1 rfl) rfl ?_)
            refine op (y (x_load1 ag_23 rfl (by first | assumption | exact Cell.own 0 rfl rfl | exact Cell.own 1 rfl rfl | exact Cell.own 2 rfl rfl | exact Cell.own 3 rfl rfl | exact Cell.own 4 rfl rfl | exact Cell.own 5 rfl rfl | exact Cell.own 6 rfl rfl | exact Cell.own 7 rfl rfl | exact Cell.own 8 rfl rfl | exact Cell.own 9 rfl rfl | exact Cell.ofRo (by assumption))) rfl ?_)
            refine op (y (x_lenSl sz_23 rfl) rfl ?_)
            refine op (y (x_lss rfl rfl) rfl ?_)
            refine nil ?_
            refine n_then ?_
            refine cond rfl (fun h21 => ?_) (fun h21 => ?_)
            · try simp only [decide_eq_true_eq, decide_eq_false_iff_not, beq_iff_eq, bne_iff_ne, ne_eq, beq_eq_false_iff_ne, bne_eq_false_iff_eq, Bool.not_eq_true', Bool.not_eq_false', Bool.not_eq_true, Bool.not_eq_false, Decidable.not_not, Int.not_lt, Int.not_le] at h21
              refine skip ?_
              refine n_then ?_
              refine seq ?_
              refine block ?_
              refine seq ?_
              have hSpe := (hSp3.mono hle126).e
              obtain ⟨bbx, offx, rfl, hcx⟩ := hSpe.at_ (i := i) (by omega)
              have hx := List.getElem?_eq_getElem (show i < (pre h n).es.length from by omega)
              have cx1 := hcx i _ hx 1 _ rfl
              refine drawL (by kernel_rfl) ?_
              refine d_take 0 rfl (by kernel_rfl) (by kernel_rfl) (by kernel_rfl) (fun _ _ _ h => h) rfl (.inl rfl) (x_fieldAddr fo_25_1 rfl) (fun w hi => by first | exact hi.j | exact J.of_le (Ro.le.refl _) (fun x hx => List.mem_append_right _ hx) hi | exact J.of_le (Ro.le.refl _) (fun x hx => List.mem_append_right _ (List.mem_append_right _ hx)) hi | exact J.of_le (Ro.le.refl _) (fun x hx => absurd hx (by simp)) hi | exact J.of_le (by assumption) (fun x hx => absurd hx (by simp)) hi) ?_
              refine d_take 1 rfl (by kernel_rfl) (by kernel_rfl) (by kernel_rfl) (fun _ _ _ h => h) rfl (.inl rfl) (x_load1 ag_23 rfl (by first | assumption | exact Cell.own 0 rfl rfl | exact Cell.own 1 rfl rfl | exact Cell.own 2 rfl rfl | exact Cell.own 3 rfl rfl | exact Cell.own 4 rfl rfl | exact Cell.own 5 rfl rfl | exact Cell.own 6 rfl rfl | exact Cell.own 7 rfl rfl | exact Cell.own 8 rfl rfl | exact Cell.own 9 rfl rfl | exact Cell.ofRo (by assumption))) (fun w hi => by first | exact hi.j | exact J.of_le (Ro.le.refl _) (fun x hx => List.mem_append_right _ hx) hi | exact J.of_le (Ro.le.refl _) (fun x hx => List.mem_append_right _ (List.mem_append_right _ hx)) hi | exact J.of_le (Ro.le.refl _) (fun x hx => absurd hx (by simp)) hi | exact J.of_le (by assumption) (fun x hx => absurd hx (by simp)) hi) ?_
              refine d_take 2 rfl (by kernel_rfl) (by kernel_rfl) (by kernel_rfl) (fun _ _ _ h => h) rfl (.inl rfl) (x_move rfl) (fun w hi => by first | exact hi.j | exact J.of_le (Ro.le.refl _) (fun x hx => List.mem_append_right _ hx) hi | exact J.of_le (Ro.le.refl _) (fun x hx => List.mem_append_right _ (List.mem_append_right _ hx)) hi | exact J.of_le (Ro.le.refl _) (fun x hx => absurd hx (by simp)) hi | exact J.of_le (by assumption) (fun x hx => absurd hx (by simp)) hi) ?_
              refine d_take 3 rfl (by kernel_rfl) (by kernel_rfl) (by kernel_rfl) (fun _ _ _ h => h) rfl (.inl rfl) (x_indexNat sz_23 rfl rfl (by omega)) (fun w hi => by first | exact hi.j | exact J.of_le (Ro.le.refl _) (fun x hx => List.mem_append_right _ hx) hi | exact J.of_le (Ro.le.refl _) (fun x hx => List.mem_append_right _ (List.mem_append_right _ hx)) hi | exact J.of_le (Ro.le.refl _) (fun x hx => absurd hx (by simp)) hi | exact J.of_le (by assumption) (fun x hx => absurd hx (by simp)) hi) ?_
              refine d_take 4 rfl (by kernel_rfl) (by kernel_rfl) (by kernel_rfl) (fun _ _ _ h => h) rfl (.inl rfl) (x_fieldAddr fo_34_1 rfl) (fun w hi => by first | exact hi.j | exact J.of_le (Ro.le.refl _) (fun x hx => List.mem_append_right _ hx) hi | exact J.of_le (Ro.le.refl _) (fun x hx => List.mem_append_right _ (List.mem_append_right _ hx)) hi | exact J.of_le (Ro.le.refl _) (fun x hx => absurd hx (by simp)) hi | exact J.of_le (by assumption) (fun x hx => absurd hx (by simp)) hi) ?_
              refine d_take 5 rfl (by kernel_rfl) (by kernel_rfl) (by kernel_rfl) (fun _ _ _ h => h) rfl (.inl rfl) (x_load1 ag_3 rfl (Cell.ofRo cx1)) (fun w hi => by first | exact hi.j | exact J.of_le (Ro.le.refl _) (fun x hx => List.mem_append_right _ hx) hi | exact J.of_le (Ro.le.refl _) (fun x hx => List.mem_append_right _ (List.mem_append_right _ hx)) hi | exact J.of_le (Ro.le.refl _) (fun x hx => absurd hx (by simp)) hi | exact J.of_le (by assumption) (fun x hx => absurd hx (by simp)) hi) ?_
              refine d_take 6 rfl (by kernel_rfl) (by kernel_rfl) (by kernel_rfl) (fun _ _ _ h => h) rfl (.inl rfl) (x_load1 ag_3 rfl (by first | assumption | exact Cell.own 0 rfl rfl | exact Cell.own 1 rfl rfl | exact Cell.own 2 rfl rfl | exact Cell.own 3 rfl rfl | exact Cell.own 4 rfl rfl | exact Cell.own 5 rfl rfl | exact Cell.own 6 rfl rfl | exact Cell.own 7 rfl rfl | exact Cell.own 8 rfl rfl | exact Cell.own 9 rfl rfl | exact Cell.ofRo (by assumption))) (fun w hi => by first | exact hi.j | exact J.of_le (Ro.le.refl _) (fun x hx => List.mem_append_right _ hx) hi | exact J.of_le (Ro.le.refl _) (fun x hx => List.mem_append_right _ (List.mem_append_right _ hx)) hi | exact J.of_le (Ro.le.refl _) (fun x hx => absurd hx (by simp)) hi | exact J.of_le (by assumption) (fun x hx => absurd hx (by simp)) hi) ?_
              refine d_take 7 rfl (by kernel_rfl) (by kernel_rfl) (by kernel_rfl) (fun _ _ _ h => h) rfl (.inl rfl) (x_eql rfl rfl) (fun w hi => by first | exact hi.j | exact J.of_le (Ro.le.refl _) (fun x hx => List.mem_append_right _ hx) hi | exact J.of_le (Ro.le.refl _) (fun x hx => List.mem_append_right _ (List.mem_append_right _ hx)) hi | exact J.of_le (Ro.le.refl _) (fun x hx => absurd hx (by simp)) hi | exact J.of_le (by assumption) (fun x hx => absurd hx (by simp)) hi) ?_
              refine d_end (by kernel_rfl) ?_
              refine n_then ?_
              refine cond rfl (fun h23 => ?_) (fun h23 => ?_)
              · try simp only [decide_eq_true_eq, decide_eq_false_iff_not, beq_iff_eq, bne_iff_ne, ne_eq, beq_eq_false_iff_ne, bne_eq_false_iff_eq, Bool.not_eq_true', Bool.not_eq_false', Bool.not_eq_true, Bool.not_eq_false, Decidable.not_not, Int.not_lt, Int.not_le] at h23
                refine region ?_
                refine op (y (x_move rfl) rfl ?_)
                refine op (y (x_add rfl rfl _ (wr (by omega) (by omega))) rfl ?_)
                refine said 143 (.int .i64 ((mq + 1 : Nat) : Int)) rfl (by simp) ?_
                refine op (y (x_assign rfl) rfl ?_)
                refine nil ?_
                refine n_in ?_
                refine n_then ?_
                refine region ?_
                refine op (y (x_move rfl) rfl ?_)
                refine op (y (x_add rfl rfl _ (wr (by omega) (by omega))) rfl ?_)
                refine op (y (x_assign rfl) rfl ?_)
                refine nil ?_
                first | exact round ((pre h n).es.length - (i + 1)) [(5, .pointer (some ⟨b5, 0, none⟩)), (7, .pointer (some ⟨b7, 0, none⟩)), (12, .pointer (some ⟨b12, 0, none⟩)), (20, .bool true), (21, .pointer (some ⟨b21, 0, none⟩)), (22, .int .i64 ((mq + 1) : Nat)), (23, .int .i64 ((i + 1) : Nat))] (by omega) ⟨rfl, rfl, rfl, rfl, rfl, rfl, rfl, trivial⟩ ⟨i + 1, mq + 1, rfl, rfl, rfl, rfl, by omega, by rw [filter_snoc hx, if_pos (by simpa using h23), List.length_append, ← hmq]; rfl, by omega⟩ | exact round ((pre h n).es.length - (i + 1)) [(5, .pointer (some ⟨b5, 0, none⟩)), (7, .pointer (some ⟨b7, 0, none⟩)), (12, .pointer (some ⟨b12, 0, none⟩)), (20, .bool true), (21, .pointer (some ⟨b21, 0, none⟩)), (22, .int .i64 (mq : Nat)), (23, .int .i64 ((i + 1) : Nat))] (by omega) ⟨rfl, rfl, rfl, rfl, rfl, rfl, rfl, trivial⟩ ⟨i + 1, mq, rfl, rfl, rfl, rfl, by omega, by rw [filter_snoc hx, if_neg (by simpa using h23), List.append_nil]; exact hmq, by omega⟩
              · try simp only [decide_eq_true_eq, decide_eq_false_iff_not, beq_iff_eq, bne_iff_ne, ne_eq, beq_eq_false_iff_ne, bne_eq_false_iff_eq, Bool.not_eq_true', Bool.not_eq_false', Bool.not_eq_true, Bool.not_eq_false, Decidable.not_not, Int.not_lt, Int.not_le] at h23
                refine skip ?_
                refine n_in ?_
                refine n_then ?_
                refine region ?_
                refine op (y (x_move rfl) rfl ?_)
                refine op (y (x_add rfl rfl _ (wr (by omega) (by omega))) rfl ?_)
                refine op (y (x_assign rfl) rfl ?_)
                refine nil ?_
                first | exact round ((pre h n).es.length - (i + 1)) [(5, .pointer (some ⟨b5, 0, none⟩)), (7, .pointer (some ⟨b7, 0, none⟩)), (12, .pointer (some ⟨b12, 0, none⟩)), (20, .bool true), (21, .pointer (some ⟨b21, 0, none⟩)), (22, .int .i64 ((mq + 1) : Nat)), (23, .int .i64 ((i + 1) : Nat))] (by omega) ⟨rfl, rfl, rfl, rfl, rfl, rfl, rfl, trivial⟩ ⟨i + 1, mq + 1, rfl, rfl, rfl, rfl, by omega, by rw [filter_snoc hx, if_pos (by simpa using h23), List.length_append, ← hmq]; rfl, by omega⟩ | exact round ((pre h n).es.length - (i + 1)) [(5, .pointer (some ⟨b5, 0, none⟩)), (7, .pointer (some ⟨b7, 0, none⟩)), (12, .pointer (some ⟨b12, 0, none⟩)), (20, .bool true), (21, .pointer (some ⟨b21, 0, none⟩)), (22, .int .i64 (mq : Nat)), (23, .int .i64 ((i + 1) : Nat))] (by omega) ⟨rfl, rfl, rfl, rfl, rfl, rfl, rfl, trivial⟩ ⟨i + 1, mq, rfl, rfl, rfl, rfl, by omega, by rw [filter_snoc hx, if_neg (by simpa using h23), List.append_nil]; exact hmq, by omega⟩
            · try simp only [decide_eq_true_eq, decide_eq_false_iff_not, beq_iff_eq, bne_iff_ne, ne_eq, beq_eq_false_iff_ne, bne_eq_false_iff_eq, Bool.not_eq_true', Bool.not_eq_false', Bool.not_eq_true, Bool.not_eq_false, Decidable.not_not, Int.not_lt, Int.not_le] at h21
              refine exit ?_
              refine e_then ?_
              refine e_then ?_
              refine e_in ?_
              refine n_then ?_
              refine seq ?_
              obtain rfl : i = (pre h n).es.length := by omega
              rw [List.take_length] at hmq
              have hpo := pre_on h n (fun t => decide (t = a)) hmq
              refine drawL (by kernel_rfl) ?_
              refine d_take 0 rfl (by kernel_rfl) (by kernel_rfl) (by kernel_rfl) (fun _ _ _ h => h) rfl (.inl rfl) (x_move rfl) (fun w hi => by first | exact hi.j | exact J.of_le (hle148) (fun x hx => hx) hi | exact J.of_le (hle148.trans hle151) (fun x hx => hx) hi) ?_
              refine d_take 1 rfl (by kernel_rfl) (by kernel_rfl) (by kernel_rfl) (fun _ _ _ h => h) rfl (.inl rfl) (x_move rfl) (fun w hi => by first | exact hi.j | exact J.of_le (hle148) (fun x hx => hx) hi | exact J.of_le (hle148.trans hle151) (fun x hx => hx) hi) ?_
              refine d_take 2 rfl (by kernel_rfl) (by kernel_rfl) (by kernel_rfl) (fun _ _ _ h => h) rfl (.inr ⟨_, _, _, rfl, rfl, rfl⟩) ((by first | exact x_loadOwn 0 _ ag_25 rfl rfl rfl rfl | exact x_loadOwn 1 _ ag_25 rfl rfl rfl rfl | exact x_loadOwn 2 _ ag_25 rfl rfl rfl rfl | exact x_loadOwn 3 _ ag_25 rfl rfl rfl rfl | exact x_loadOwn 4 _ ag_25 rfl rfl rfl rfl | exact x_loadOwn 5 _ ag_25 rfl rfl rfl rfl | exact x_loadOwn 6 _ ag_25 rfl rfl rfl rfl | exact x_loadOwn 7 _ ag_25 rfl rfl rfl rfl | exact x_loadOwn 8 _ ag_25 rfl rfl rfl rfl | exact x_loadOwn 9 _ ag_25 rfl rfl rfl rfl | exact x_loadOwn 10 _ ag_25 rfl rfl rfl rfl | exact x_loadOwn 11 _ ag_25 rfl rfl rfl rfl)) (fun w hi => by first | exact hi.j | exact J.of_le (hle148) (fun x hx => hx) hi | exact J.of_le (hle148.trans hle151) (fun x hx => hx) hi) ?_
              refine d_take 3 rfl (by kernel_rfl) (by kernel_rfl) (by kernel_rfl) (fun _ _ _ h => h) rfl (.inr ⟨_, _, _, rfl, rfl, rfl⟩) (x_move rfl) (fun w hi => by first | exact hi.j | exact J.of_le (hle148) (fun x hx => hx) hi | exact J.of_le (hle148.trans hle151) (fun x hx => hx) hi) ?_
              refine d_take 5 rfl (by kernel_rfl) (by kernel_rfl) (by kernel_rfl) (fun _ _ _ h => h) rfl (.inr ⟨_, _, _, rfl, rfl, rfl⟩) ((by first | exact x_loadOwn 0 _ ag_25 rfl rfl rfl rfl | exact x_loadOwn 1 _ ag_25 rfl rfl rfl rfl | exact x_loadOwn 2 _ ag_25 rfl rfl rfl rfl | exact x_loadOwn 3 _ ag_25 rfl rfl rfl rfl | exact x_loadOwn 4 _ ag_25 rfl rfl rfl rfl | exact x_loadOwn 5 _ ag_25 rfl rfl rfl rfl | exact x_loadOwn 6 _ ag_25 rfl rfl rfl rfl | exact x_loadOwn 7 _ ag_25 rfl rfl rfl rfl | exact x_loadOwn 8 _ ag_25 rfl rfl rfl rfl | exact x_loadOwn 9 _ ag_25 rfl rfl rfl rfl | exact x_loadOwn 10 _ ag_25 rfl rfl rfl rfl | exact x_loadOwn 11 _ ag_25 rfl rfl rfl rfl)) (fun w hi => by first | exact hi.j | exact J.of_le (hle148) (fun x hx => hx) hi | exact J.of_le (hle148.trans hle151) (fun x hx => hx) hi) ?_
              refine d_take 6 rfl (by kernel_rfl) (by kernel_rfl) (by kernel_rfl) (fun _ _ _ h => h) rfl (.inr ⟨_, _, _, rfl, rfl, rfl⟩) (x_makeFunc rfl rfl) (fun w hi => by first | exact hi.j | exact J.of_le (hle148) (fun x hx => hx) hi | exact J.of_le (hle148.trans hle151) (fun x hx => hx) hi) ?_
              refine d_one 4 rfl (by kernel_rfl) (.inr ⟨_, _, _, rfl, rfl, rfl⟩) (e_call rfl fn_13 rfl rfl (PHo.frozen (Prefix_o (onT h (fun t => decide (t = a))) yA yc yB yd _ _ hSy (mq : Nat) hn1 (Nat.le_trans (List.length_filter_le _ _) hn2))) fun v148 ro148 L148 hle148 hp148 => ?_)
              obtain ⟨zA, zc, zB, zd, rfl, hSz, rfl⟩ := hp148
              refine d_next (fun w hi => by first | exact hi.j | exact J.of_le (hle148) (fun x hx => hx) hi | exact J.of_le (hle148.trans hle151) (fun x hx => hx) hi) ?_
              refine d_one 7 rfl (by kernel_rfl) (.inr ⟨_, _, _, rfl, rfl, rfl⟩) (e_call rfl fn_17 rfl rfl (PHo.frozen (Only_p (pre h n) pA pc pB pd _ _ ((hSp3.mono hle126).mono hle148) hn1 hp2 26 [.pointer (some ⟨b7, 0, none⟩)] fn_26 (fun t => decide (t = a)) (fun t ro' L' _ hL => Less3_c t a b7 ro' L' (hL _ (by simp))))) fun v151 ro151 L151 hle151 hp151 => ?_)
              obtain ⟨sA, sc, sB, sd, rfl, hSs, rfl⟩ := hp151
              refine d_next (fun w hi => by first | exact hi.j | exact J.of_le (hle148) (fun x hx => hx) hi | exact J.of_le (hle148.trans hle151) (fun x hx => hx) hi) ?_
              refine d_one 8 rfl (by kernel_rfl) (.inr ⟨_, _, _, rfl, rfl, rfl⟩) (e_call rfl fn_12 rfl rfl (SameHistory_c (pre (onT h (fun t => decide (t = a))) (mq : Nat)) _ _ _ _ (onT (pre h n) (fun t => decide (t = a))) _ _ _ _ _ _ (hSz.mono hle151) hSs) fun v152 ro152 L152 hle152 hp152 => ?_)
              obtain ⟨rfl, rfl, rfl⟩ := hp152
              refine said 152 (.bool true) rfl (by simp [hpo]) ?_
              refine d_next (fun w hi => by first | exact hi.j | exact J.of_le (hle148) (fun x hx => hx) hi | exact J.of_le (hle148.trans hle151) (fun x hx => hx) hi) ?_
              refine d_take 9 rfl (by kernel_rfl) (by kernel_rfl) (by kernel_rfl) (fun _ _ _ h => h) rfl (.inl rfl) (x_pickT rfl rfl) (fun w hi => by first | exact hi.j | exact J.of_le (hle148) (fun x hx => hx) hi | exact J.of_le (hle148.trans hle151) (fun x hx => hx) hi) ?_
              refine d_take 10 rfl (by kernel_rfl) (by kernel_rfl) (by kernel_rfl) (fun _ _ _ h => h) rfl (.inl rfl) (x_assign rfl) (fun w hi => by first | exact hi.j | exact J.of_le (hle148) (fun x hx => hx) hi | exact J.of_le (hle148.trans hle151) (fun x hx => hx) hi) ?_
              refine d_end (by kernel_rfl) ?_
              refine n_then ?_
              refine ret ?_
              exact done rfl (.tmp rfl (.nil)) (hle5.trans (hle126.trans (hle148.trans hle151))) (L) (subF (by (repeat (first | exact List.Sublist.refl _ | apply List.Sublist.cons_cons | apply List.Sublist.cons)); done)) (⟨rfl, rfl⟩)

end Go.Proofs.YtijafcilfefafaaDoor
