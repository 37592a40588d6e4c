/- The walks of the words of objects and answers; what package variables hold. -/
import Derived.Test.YtijafcilfefafaaDoorV9
namespace Go.Proofs.YtijafcilfefafaaDoor
open Go Go.U
set_option maxRecDepth 20000
set_option linter.unusedSimpArgs false
set_option linter.unusedVariables false

/-- what the package variables hold -/
structure Glob (er : Nat → Addr) (ro : Ro) : Prop where
  err : ∀ g : Nat, g < 11 → ro.cell g 0 = some (.iface 125 (.pointer (some (er g))))
  obs : ∀ i : Nat, i < 4 → ∃ s : ByteArray, ro.cell 11 i = some (.string s) ∧ s.toList ≠ []
  ans : ∀ i : Nat, i < 3 → ∃ s : ByteArray, ro.cell 14 i = some (.string s) ∧ s.toList ≠ []
theorem Glob.mono {er : Nat → Addr} {ro ro' : Ro} (h : Glob er ro) (hle : ro.le ro') : Glob er ro' :=
  ⟨fun g hg => hle.cell (h.err g hg), fun i hi => by
    obtain ⟨s, h1, h2⟩ := h.obs i hi
    exact ⟨s, hle.cell h1, h2⟩, fun i hi => by
    obtain ⟨s, h1, h2⟩ := h.ans i hi
    exact ⟨s, hle.cell h1, h2⟩⟩
theorem bytes_nil : (⟨#[]⟩ : ByteArray).toList = [] := by decide +kernel

theorem at86_c (j : Nat) (hj : j < 4) (b : Nat) (s : ByteArray) (ro : Ro) (L : List (List Blk)) (hK : (b, Obj.cells [Value.int .i64 (j : Nat)].toArray 3 (0, 0)) ∈ L.flatten) (hs : ro.cell 11 j = some (.string s)) :
    CT Tryd.prog 86 [.pointer (some ⟨b, 0, none⟩)].toArray ro L (PQ (.string s) ro L) := by
  refine enter Tryd.func86 rfl Tryd.ntmps86 rfl ?_
  refine seq ?_
  refine region ?_
  refine op (y (x_assign rfl) rfl ?_)
  refine nil ?_
  refine n_then ?_
  refine seq ?_
  refine region ?_
  refine op (y (x_load1 ag_3 rfl (Cell.blk hK rfl)) rfl ?_)
  refine op (y (x_indexArrNat ar_120 rfl rfl (by omega)) rfl ?_)
  refine op (y (x_load1 ag_9 rfl (Cell.ofRo (by simpa using hs))) rfl ?_)
  refine op (y (x_assign rfl) rfl ?_)
  refine nil ?_
  refine n_then ?_
  refine ret ?_
  exact done rfl (.tmp rfl (.nil)) (Ro.le.refl _) (L) (subF (by (repeat (first | exact List.Sublist.refl _ | apply List.Sublist.cons_cons | apply List.Sublist.cons)); done)) (⟨rfl, rfl, rfl⟩)

theorem at89_c (j : Nat) (hj : j < 3) (b : Nat) (s : ByteArray) (ro : Ro) (L : List (List Blk)) (hK : (b, Obj.cells [Value.int .i64 (j : Nat)].toArray 3 (0, 0)) ∈ L.flatten) (hs : ro.cell 14 j = some (.string s)) :
    CT Tryd.prog 89 [.pointer (some ⟨b, 0, none⟩)].toArray ro L (PQ (.string s) ro L) := by
  refine enter Tryd.func89 rfl Tryd.ntmps89 rfl ?_
  refine seq ?_
  refine region ?_
  refine op (y (x_assign rfl) rfl ?_)
  refine nil ?_
  refine n_then ?_
  refine seq ?_
  refine region ?_
  refine op (y (x_load1 ag_3 rfl (Cell.blk hK rfl)) rfl ?_)
  refine op (y (x_indexArrNat ar_124 rfl rfl (by omega)) rfl ?_)
  refine op (y (x_load1 ag_9 rfl (Cell.ofRo (by simpa using hs))) rfl ?_)
  refine op (y (x_assign rfl) rfl ?_)
  refine nil ?_
  refine n_then ?_
  refine ret ?_
  exact done rfl (.tmp rfl (.nil)) (Ro.le.refl _) (L) (subF (by (repeat (first | exact List.Sublist.refl _ | apply List.Sublist.cons_cons | apply List.Sublist.cons)); done)) (⟨rfl, rfl, rfl⟩)

theorem one_c (i many : Int) (fk : FuncId) (caps : List Value) (hfn : Fun Tryd.prog fk) (s : ByteArray) (ro : Ro) (L : List (List Blk)) (hc : 0 ≤ i → i < many → CT Tryd.prog fk caps.toArray ro L (PQ (.string s) ro L)) :
    CT Tryd.prog 85 [.int .i64 i, .int .i64 many, .func (.func fk) #[] caps.toArray].toArray ro L (PQ (.tuple [.string (if i < 0 ∨ many ≤ i then ⟨#[]⟩ else s), .int .i64 many].toArray) ro L) := by
  refine enter Tryd.func85 rfl Tryd.ntmps85 rfl ?_
  refine seq ?_
  refine region ?_
  refine op (y (x_assign rfl) rfl ?_)
  refine op (y (x_assign rfl) rfl ?_)
  refine nil ?_
  refine n_then ?_
  refine seq ?_
  refine seq ?_
  refine region ?_
  refine op (y (x_move rfl) rfl ?_)
  refine op (y (x_lss rfl rfl) rfl ?_)
  refine op (y (x_move rfl) rfl ?_)
  refine bsplit 10 rfl (fun g10 => ?_) (fun g10 => ?_)
  · try simp only [decide_eq_true_eq, decide_eq_false_iff_not, beq_iff_eq, bne_iff_ne, ne_eq, beq_eq_false_iff_ne, bne_eq_false_iff_eq, Bool.not_eq_true', Bool.not_eq_false', Bool.not_eq_true, Bool.not_eq_false, Decidable.not_not, Int.not_lt, Int.not_le] at g10
    refine opN rfl rfl rfl rfl ?_
    refine opN rfl rfl rfl rfl ?_
    refine opN rfl rfl rfl rfl ?_
    refine op (y (x_pickT rfl rfl) rfl ?_)
    refine nil ?_
    refine n_then ?_
    refine condT rfl ?_
    refine seq ?_
    refine region ?_
    refine op (y (x_move rfl) rfl ?_)
    refine op (y (x_assign rfl) rfl ?_)
    refine op (y (x_assign rfl) rfl ?_)
    refine nil ?_
    refine n_then ?_
    refine ret ?_
    refine r_then ?_
    exact done rfl (.tmp rfl (.tmp rfl (.nil))) (Ro.le.refl _) (L) (subF (by (repeat (first | exact List.Sublist.refl _ | apply List.Sublist.cons_cons | apply List.Sublist.cons)); done)) (⟨by rw [if_pos (by grind)]; rfl, rfl, rfl⟩)
  · try simp only [decide_eq_true_eq, decide_eq_false_iff_not, beq_iff_eq, bne_iff_ne, ne_eq, beq_eq_false_iff_ne, bne_eq_false_iff_eq, Bool.not_eq_true', Bool.not_eq_false', Bool.not_eq_true, Bool.not_eq_false, Decidable.not_not, Int.not_lt, Int.not_le] at g10
    refine opG rfl rfl (y (x_move rfl) rfl ?_)
    refine opG rfl rfl (y (x_move rfl) rfl ?_)
    refine opG rfl rfl (y (x_geq rfl rfl) rfl ?_)
    refine op (y (x_pickF rfl rfl) rfl ?_)
    refine nil ?_
    refine n_then ?_
    refine cond rfl (fun h1 => ?_) (fun h1 => ?_)
    · try simp only [decide_eq_true_eq, decide_eq_false_iff_not, beq_iff_eq, bne_iff_ne, ne_eq, beq_eq_false_iff_ne, bne_eq_false_iff_eq, Bool.not_eq_true', Bool.not_eq_false', Bool.not_eq_true, Bool.not_eq_false, Decidable.not_not, Int.not_lt, Int.not_le] at h1
      refine seq ?_
      refine region ?_
      refine op (y (x_move rfl) rfl ?_)
      refine op (y (x_assign rfl) rfl ?_)
      refine op (y (x_assign rfl) rfl ?_)
      refine nil ?_
      refine n_then ?_
      refine ret ?_
      refine r_then ?_
      exact done rfl (.tmp rfl (.tmp rfl (.nil))) (Ro.le.refl _) (L) (subF (by (repeat (first | exact List.Sublist.refl _ | apply List.Sublist.cons_cons | apply List.Sublist.cons)); done)) (⟨by rw [if_pos (by grind)]; rfl, rfl, rfl⟩)
    · try simp only [decide_eq_true_eq, decide_eq_false_iff_not, beq_iff_eq, bne_iff_ne, ne_eq, beq_eq_false_iff_ne, bne_eq_false_iff_eq, Bool.not_eq_true', Bool.not_eq_false', Bool.not_eq_true, Bool.not_eq_false, Decidable.not_not, Int.not_lt, Int.not_le] at h1
      refine skip ?_
      refine n_then ?_
      refine seq ?_
      refine region ?_
      refine op (y (x_move rfl) rfl ?_)
      refine op (e_call rfl (hfn) rfl rfl (hc (by grind) (by grind)) fun v17 ro17 L17 hle17 hp17 => ?_)
      obtain ⟨rfl, rfl, rfl⟩ := hp17
      refine op (y (x_move rfl) rfl ?_)
      refine op (y (x_assign rfl) rfl ?_)
      refine op (y (x_assign rfl) rfl ?_)
      refine nil ?_
      refine n_then ?_
      refine ret ?_
      exact done rfl (.tmp rfl (.tmp rfl (.nil))) (Ro.le.refl _) (L) (subF (by (repeat (first | exact List.Sublist.refl _ | apply List.Sublist.cons_cons | apply List.Sublist.cons)); done)) (⟨by rw [if_neg (by grind)]; rfl, rfl, rfl⟩)

theorem atT1_c (i : Int) (er : Nat → Addr) (ro : Ro) (L : List (List Blk)) (hG : Glob er ro) :
    CT Tryd.prog 71 [.int .i64 1, .int .i64 i].toArray ro L (fun v ro' L' => ∃ s : ByteArray, v = .tuple [.string s, .int .i64 4].toArray ∧ (s.toList = [] ↔ ¬ (0 ≤ i ∧ i < 4)) ∧ ro = ro' ∧ L = L') := by
  obtain ⟨s, hs⟩ : ∃ s : ByteArray, 0 ≤ i → i < 4 → ro.cell 11 i.toNat = some (.string s) ∧ s.toList ≠ [] := by
    by_cases h : 0 ≤ i ∧ i < 4
    · obtain ⟨s, h1, h2⟩ := hG.obs i.toNat (by omega)
      exact ⟨s, fun _ _ => ⟨h1, h2⟩⟩
    · exact ⟨⟨#[]⟩, fun h1 h2 => absurd ⟨h1, h2⟩ h⟩
  refine enter Tryd.func71 rfl Tryd.ntmps71 rfl ?_
  refine seq ?_
  refine region ?_
  refine op (e_box rfl rfl rfl fun b3 => ?_)
  refine op (y (x_assign rfl) rfl ?_)
  refine op (y (x_assign rfl) rfl ?_)
  refine nil ?_
  refine n_then ?_
  refine seq ?_
  refine seq ?_
  refine region ?_
  refine op (y (x_move rfl) rfl ?_)
  refine nil ?_
  refine n_then ?_
  refine block ?_
  refine seq ?_
  refine region ?_
  refine op (y (x_eql rfl rfl) rfl ?_)
  refine op (y (x_assign rfl) rfl ?_)
  refine nil ?_
  refine n_then ?_
  refine condT rfl ?_
  refine seq ?_
  refine region ?_
  refine op (y (x_load1 ag_3 rfl (by first | assumption | exact Cell.own 0 rfl rfl | exact Cell.own 1 rfl rfl | exact Cell.own 2 rfl rfl | exact Cell.own 3 rfl rfl | exact Cell.own 4 rfl rfl | exact Cell.own 5 rfl rfl | exact Cell.own 6 rfl rfl | exact Cell.own 7 rfl rfl | exact Cell.own 8 rfl rfl | exact Cell.own 9 rfl rfl | exact Cell.ofRo (by assumption))) rfl ?_)
  refine op (y (x_makeFunc rfl rfl) rfl ?_)
  refine op (e_call rfl fn_85 rfl rfl (one_c i 4 86 [.pointer (some ⟨b3, 0, none⟩)] fn_86 s _ _ (fun h1 h2 => by obtain ⟨j, rfl⟩ := Int.eq_ofNat_of_zero_le h1; exact at86_c j (by omega) b3 s _ _ (by simp) (by simpa using (hs h1 h2).1))) fun v11 ro11 L11 hle11 hp11 => ?_)
  obtain ⟨rfl, rfl, rfl⟩ := hp11
  refine op (y (x_extract rfl rfl) rfl ?_)
  refine op (y (x_extract rfl rfl) rfl ?_)
  refine op (y (x_assign rfl) rfl ?_)
  refine op (y (x_assign rfl) rfl ?_)
  refine nil ?_
  refine n_then ?_
  refine ret ?_
  refine r_in ?_
  refine r_then ?_
  refine done rfl (.tmp rfl (.tmp rfl (.nil))) (Ro.le.refl _) (L) (subF (by (repeat (first | exact List.Sublist.refl _ | apply List.Sublist.cons_cons | apply List.Sublist.cons)); done)) (⟨_, rfl, ?_, rfl, rfl⟩)
  split
  · rw [bytes_nil]; simp; omega
  · rename_i hn
    have h3 := (hs (by omega) (by omega)).2
    simp [h3]; omega

theorem Word1_c (c : Int) (hc : I64 c) (er : Nat → Addr) (ro : Ro) (L : List (List Blk)) (hG : Glob er ro) :
    CT Tryd.prog 61 [.int .i64 1, .int .i64 c].toArray ro L (fun v ro' L' => ∃ s : ByteArray, v = .string s ∧ (s.toList = [] ↔ ¬ (1 ≤ c ∧ c ≤ 4)) ∧ ro = ro' ∧ L = L') := by
  have hc1 := hc.1
  have hc2 := hc.2
  refine enter Tryd.func61 rfl Tryd.ntmps61 rfl ?_
  refine seq ?_
  refine region ?_
  refine op (y (x_assign rfl) rfl ?_)
  refine nil ?_
  refine n_then ?_
  refine seq ?_
  refine region ?_
  refine op (y (x_move rfl) rfl ?_)
  refine op (y (x_move rfl) rfl ?_)
  refine op (y (x_max rfl rfl _ rfl) rfl ?_)
  refine said 10 (.int .i64 (max c 0)) rfl (by congr 1; omega) ?_
  refine op (y (x_sub rfl rfl _ (wr (by omega) (by omega))) rfl ?_)
  refine op (e_call rfl fn_71 rfl rfl (atT1_c (max c 0 - 1) er _ _ hG) fun v12 ro12 L12 hle12 hp12 => ?_)
  obtain ⟨s, rfl, hs, rfl, rfl⟩ := hp12
  refine op (y (x_move rfl) rfl ?_)
  refine op (y (x_extract rfl rfl) rfl ?_)
  refine op (y (x_extract rfl rfl) rfl ?_)
  refine op (y (x_assign rfl) rfl ?_)
  refine op (y (x_assign rfl) rfl ?_)
  refine nil ?_
  refine n_then ?_
  refine seq ?_
  refine region ?_
  refine op (y (x_move rfl) rfl ?_)
  refine op (y (x_assign rfl) rfl ?_)
  refine nil ?_
  refine n_then ?_
  refine ret ?_
  exact done rfl (.tmp rfl (.nil)) (Ro.le.refl _) (L) (subF (by (repeat (first | exact List.Sublist.refl _ | apply List.Sublist.cons_cons | apply List.Sublist.cons)); done)) (⟨s, rfl, by rw [hs]; omega, rfl, rfl⟩)

theorem atT4_c (i : Int) (er : Nat → Addr) (ro : Ro) (L : List (List Blk)) (hG : Glob er ro) :
    CT Tryd.prog 71 [.int .i64 4, .int .i64 i].toArray ro L (fun v ro' L' => ∃ s : ByteArray, v = .tuple [.string s, .int .i64 3].toArray ∧ (s.toList = [] ↔ ¬ (0 ≤ i ∧ i < 3)) ∧ ro = ro' ∧ L = L') := by
  obtain ⟨s, hs⟩ : ∃ s : ByteArray, 0 ≤ i → i < 3 → ro.cell 14 i.toNat = some (.string s) ∧ s.toList ≠ [] := by
    by_cases h : 0 ≤ i ∧ i < 3
    · obtain ⟨s, h1, h2⟩ := hG.ans i.toNat (by omega)
      exact ⟨s, fun _ _ => ⟨h1, h2⟩⟩
    · exact ⟨⟨#[]⟩, fun h1 h2 => absurd ⟨h1, h2⟩ h⟩
  refine enter Tryd.func71 rfl Tryd.ntmps71 rfl ?_
  refine seq ?_
  refine region ?_
  refine op (e_box rfl rfl rfl fun b3 => ?_)
  refine op (y (x_assign rfl) rfl ?_)
  refine op (y (x_assign rfl) rfl ?_)
  refine nil ?_
  refine n_then ?_
  refine seq ?_
  refine seq ?_
  refine region ?_
  refine op (y (x_move rfl) rfl ?_)
  refine nil ?_
  refine n_then ?_
  refine block ?_
  refine seq ?_
  refine region ?_
  refine op (y (x_eql rfl rfl) rfl ?_)
  refine op (y (x_assign rfl) rfl ?_)
  refine nil ?_
  refine n_then ?_
  refine condF rfl ?_
  refine seq ?_
  refine region ?_
  refine op (y (x_eql rfl rfl) rfl ?_)
  refine op (y (x_assign rfl) rfl ?_)
  refine nil ?_
  refine n_then ?_
  refine condF rfl ?_
  refine seq ?_
  refine region ?_
  refine op (y (x_eql rfl rfl) rfl ?_)
  refine op (y (x_assign rfl) rfl ?_)
  refine nil ?_
  refine n_then ?_
  refine condF rfl ?_
  refine seq ?_
  refine region ?_
  refine op (y (x_eql rfl rfl) rfl ?_)
  refine op (y (x_assign rfl) rfl ?_)
  refine nil ?_
  refine n_then ?_
  refine condT rfl ?_
  refine seq ?_
  refine region ?_
  refine op (y (x_load1 ag_3 rfl (by first | assumption | exact Cell.own 0 rfl rfl | exact Cell.own 1 rfl rfl | exact Cell.own 2 rfl rfl | exact Cell.own 3 rfl rfl | exact Cell.own 4 rfl rfl | exact Cell.own 5 rfl rfl | exact Cell.own 6 rfl rfl | exact Cell.own 7 rfl rfl | exact Cell.own 8 rfl rfl | exact Cell.own 9 rfl rfl | exact Cell.ofRo (by assumption))) rfl ?_)
  refine op (y (x_makeFunc rfl rfl) rfl ?_)
  refine op (e_call rfl fn_85 rfl rfl (one_c i 3 89 [.pointer (some ⟨b3, 0, none⟩)] fn_89 s _ _ (fun h1 h2 => by obtain ⟨j, rfl⟩ := Int.eq_ofNat_of_zero_le h1; exact at89_c j (by omega) b3 s _ _ (by simp) (by simpa using (hs h1 h2).1))) fun v32 ro32 L32 hle32 hp32 => ?_)
  obtain ⟨rfl, rfl, rfl⟩ := hp32
  refine op (y (x_extract rfl rfl) rfl ?_)
  refine op (y (x_extract rfl rfl) rfl ?_)
  refine op (y (x_assign rfl) rfl ?_)
  refine op (y (x_assign rfl) rfl ?_)
  refine nil ?_
  refine n_then ?_
  refine ret ?_
  refine r_in ?_
  refine r_then ?_
  refine done rfl (.tmp rfl (.tmp rfl (.nil))) (Ro.le.refl _) (L) (subF (by (repeat (first | exact List.Sublist.refl _ | apply List.Sublist.cons_cons | apply List.Sublist.cons)); done)) (⟨_, rfl, ?_, rfl, rfl⟩)
  split
  · rw [bytes_nil]; simp; omega
  · rename_i hn
    have h3 := (hs (by omega) (by omega)).2
    simp [h3]; omega

theorem Word4_c (c : Int) (hc : I64 c) (er : Nat → Addr) (ro : Ro) (L : List (List Blk)) (hG : Glob er ro) :
    CT Tryd.prog 61 [.int .i64 4, .int .i64 c].toArray ro L (fun v ro' L' => ∃ s : ByteArray, v = .string s ∧ (s.toList = [] ↔ ¬ (1 ≤ c ∧ c ≤ 3)) ∧ ro = ro' ∧ L = L') := by
  have hc1 := hc.1
  have hc2 := hc.2
  refine enter Tryd.func61 rfl Tryd.ntmps61 rfl ?_
  refine seq ?_
  refine region ?_
  refine op (y (x_assign rfl) rfl ?_)
  refine nil ?_
  refine n_then ?_
  refine seq ?_
  refine region ?_
  refine op (y (x_move rfl) rfl ?_)
  refine op (y (x_move rfl) rfl ?_)
  refine op (y (x_max rfl rfl _ rfl) rfl ?_)
  refine said 10 (.int .i64 (max c 0)) rfl (by congr 1; omega) ?_
  refine op (y (x_sub rfl rfl _ (wr (by omega) (by omega))) rfl ?_)
  refine op (e_call rfl fn_71 rfl rfl (atT4_c (max c 0 - 1) er _ _ hG) fun v12 ro12 L12 hle12 hp12 => ?_)
  obtain ⟨s, rfl, hs, rfl, rfl⟩ := hp12
  refine op (y (x_move rfl) rfl ?_)
  refine op (y (x_extract rfl rfl) rfl ?_)
  refine op (y (x_extract rfl rfl) rfl ?_)
  refine op (y (x_assign rfl) rfl ?_)
  refine op (y (x_assign rfl) rfl ?_)
  refine nil ?_
  refine n_then ?_
  refine seq ?_
  refine region ?_
  refine op (y (x_move rfl) rfl ?_)
  refine op (y (x_assign rfl) rfl ?_)
  refine nil ?_
  refine n_then ?_
  refine ret ?_
  exact done rfl (.tmp rfl (.nil)) (Ro.le.refl _) (L) (subF (by (repeat (first | exact List.Sublist.refl _ | apply List.Sublist.cons_cons | apply List.Sublist.cons)); done)) (⟨s, rfl, by rw [hs]; omega, rfl, rfl⟩)

end Go.Proofs.YtijafcilfefafaaDoor
