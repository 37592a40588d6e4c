/- The walk of CutEach. -/
import Derived.Test.YtijafcilfefafaaDoorV20
import Derived.Test.YtijafcilfefafaaDoorU30
namespace Go.Proofs.YtijafcilfefafaaDoor
open Go Go.U
set_option maxRecDepth 20000
set_option linter.unusedSimpArgs false
set_option linter.unusedVariables false

def PPref (h : Hi) (L : List (List Blk)) : Value → Ro → List (List Blk) → Prop := fun v ro' L' => ∃ (b : Nat) (A : Option Addr) (cA : Nat) (B : Option Addr) (cB : Nat), v = .func (.func 46) #[] [.pointer (some ⟨b, 0, none⟩)].toArray ∧ ro'.cell b 0 = some (.slice A h.os.length cA) ∧ ro'.cell b 1 = some (.slice B h.es.length cB) ∧ SH ro' A cA B cB h ∧ L = L'
theorem cells2 {ro : Ro} {b : Nat} {u v : Value} (h0 : ro.cell b 0 = some u) (h1 : ro.cell b 1 = some v) : ∀ (j : Nat) (x : Value), [u, v][j]? = some x → ro.cell b (0 + j) = some x := by
  intro j x hx
  match j with
  | 0 => simp at hx; subst hx; exact h0
  | 1 => simp at hx; subst hx; exact h1
  | j + 2 => simp at hx

theorem move4 {a d e g b4 b3 b2 : List Blk} {X : List (List Blk)} : ∃ M, M.Perm (List.flatten (a :: d :: e :: g :: b4 :: b3 :: b2 :: X)) ∧ (List.flatten (a :: b4 :: b3 :: b2 :: d :: X)).Sublist M :=
  ⟨(e ++ g) ++ List.flatten (a :: b4 :: b3 :: b2 :: d :: X), by
    classical
    rw [List.perm_iff_count]
    intro c
    simp only [List.flatten_cons, List.count_append]
    omega, List.sublist_append_right _ _⟩

theorem move5 {a b e g : List Blk} {X L : List (List Blk)} : List.Perm ((a ++ b ++ g) ++ (X ++ (e :: L)).flatten) (List.flatten (a :: e :: b :: g :: (X ++ L))) := by
  classical
  rw [List.perm_iff_count]
  intro c
  simp only [List.flatten_cons, List.flatten_append, List.count_append]
  omega

theorem Prefixes_c (h : Hi) (A : Option Addr) (cA : Nat) (B : Option Addr) (cB : Nat) (ro : Ro) (L : List (List Blk)) (hh : SH ro A cA B cB h) (hn1 : h.os.length ≤ 100) (hn2 : h.es.length ≤ 600) :
    CT Tryd.prog 31 [.agg [.slice A h.os.length cA, .slice B h.es.length cB].toArray].toArray ro L (PPref h L) := by
  refine enter Tryd.func31 rfl Tryd.ntmps31 rfl ?_
  refine seq ?_
  refine region ?_
  refine op (e_box rfl rfl rfl fun b1 => ?_)
  refine op (y (x_assign rfl) rfl ?_)
  refine nil ?_
  refine n_then ?_
  refine seq ?_
  refine region ?_
  refine op (y ((by first | exact x_loadOwn 0 _ ag_25 rfl rfl rfl rfl | exact x_loadOwn 1 _ ag_25 rfl rfl rfl rfl | exact x_loadOwn 2 _ ag_25 rfl rfl rfl rfl | exact x_loadOwn 3 _ ag_25 rfl rfl rfl rfl | exact x_loadOwn 4 _ ag_25 rfl rfl rfl rfl | exact x_loadOwn 5 _ ag_25 rfl rfl rfl rfl | exact x_loadOwn 6 _ ag_25 rfl rfl rfl rfl | exact x_loadOwn 7 _ ag_25 rfl rfl rfl rfl | exact x_loadOwn 8 _ ag_25 rfl rfl rfl rfl | exact x_loadOwn 9 _ ag_25 rfl rfl rfl rfl | exact x_loadOwn 10 _ ag_25 rfl rfl rfl rfl | exact x_loadOwn 11 _ ag_25 rfl rfl rfl rfl)) rfl ?_)
  refine op (e_call rfl fn_37 rfl rfl (Clone_o h A cA B cB _ _ hh hn1 hn2) fun v4 ro4 L4 hle4 hp4 => ?_)
  obtain ⟨A5, c5, B5, c6, R1, R2, rfl, hO1, hO2, rfl⟩ := hp4
  refine ufreeze fun rz1 hz1 hzR1 => ?_
  refine ufreeze fun rz2 hz2 hzR2 => ?_
  have hS1 := (hO1.sl enc_ob hzR1).mono hz2
  have hS2 := hO2.sl enc_ev hzR2
  first | refine op (e_store 0 rfl rfl ts_25 rfl rfl rfl rfl rfl rfl ?_) | refine op (e_store 1 rfl rfl ts_25 rfl rfl rfl rfl rfl rfl ?_) | refine op (e_store 2 rfl rfl ts_25 rfl rfl rfl rfl rfl rfl ?_) | refine op (e_store 3 rfl rfl ts_25 rfl rfl rfl rfl rfl rfl ?_) | refine op (e_store 4 rfl rfl ts_25 rfl rfl rfl rfl rfl rfl ?_) | refine op (e_store 5 rfl rfl ts_25 rfl rfl rfl rfl rfl rfl ?_) | refine op (e_store 6 rfl rfl ts_25 rfl rfl rfl rfl rfl rfl ?_) | refine op (e_store 7 rfl rfl ts_25 rfl rfl rfl rfl rfl rfl ?_) | refine op (e_store 8 rfl rfl ts_25 rfl rfl rfl rfl rfl rfl ?_) | refine op (e_store 9 rfl rfl ts_25 rfl rfl rfl rfl rfl rfl ?_)
  refine nil ?_
  refine n_then ?_
  refine seq ?_
  refine ufreeze fun rz3 hz3 hzR3 => ?_
  have hb0 : rz3.cell b1 0 = some (.slice A5 h.os.length c5) := by have := hzR3 _ (List.mem_singleton.2 rfl); simp only at this; unfold Ro.cell; rw [this]; rfl
  have hb1 : rz3.cell b1 1 = some (.slice B5 h.es.length c6) := by have := hzR3 _ (List.mem_singleton.2 rfl); simp only at this; unfold Ro.cell; rw [this]; rfl
  refine region ?_
  refine op (y (x_makeFunc rfl rfl) rfl ?_)
  refine op (y (x_assign rfl) rfl ?_)
  refine nil ?_
  refine n_then ?_
  refine ret ?_
  exact done rfl (.tmp rfl (.nil)) (hle4.trans (hz1.trans (hz2.trans hz3))) (L) (⟨_, .refl _, .refl _⟩) (⟨b1, A5, c5, B5, c6, rfl, hb0, hb1, ⟨hS1.mono hz3, hS2.mono hz3⟩, rfl⟩)

theorem Prefixes1_c (h : Hi) (A : Option Addr) (cA : Nat) (B : Option Addr) (cB : Nat) (b l : Nat) (St : Nat → List (List Blk) → Prop) (Sx : List (List Blk) → Prop) (ro : Ro) (L : List (List Blk)) (hb0 : ro.cell b 0 = some (.slice A h.os.length cA)) (hb1 : ro.cell b 1 = some (.slice B h.es.length cB)) (hh : SH ro A cA B cB h) (hn1 : h.os.length ≤ 100) (hn2 : h.es.length ≤ 600) (h0 : St 0 L)
    (hy : ∀ (i : Nat) (Lx : List (List Blk)) (ro' : Ro) (A' : Option Addr) (cA' : Nat) (B' : Option Addr) (cB' : Nat), i ≤ h.es.length → ro.le ro' → St i Lx → SH ro' A' cA' B' cB' (pre h i) → YT Tryd.prog l [.int .i64 (i : Nat), .agg [.slice A' (pre h i).os.length cA', .slice B' (pre h i).es.length cB'].toArray] ro' Lx (fun v _ L'' => (v = .bool true ∧ St (i + 1) L'') ∨ (v = .bool false ∧ Sx L''))) :
    CT Tryd.prog 46 ([Value.func (.yield l) #[] #[]] ++ [Value.pointer (some ⟨b, 0, none⟩)]).toArray ro L (fun _ _ L' => St (h.es.length + 1) L' ∨ Sx L') := by
  refine enter Tryd.func46 rfl Tryd.ntmps46 rfl ?_
  refine seq ?_
  refine region ?_
  refine op (y (x_assign rfl) rfl ?_)
  refine nil ?_
  refine n_then ?_
  refine block ?_
  have hcap : h.es.length ≤ 600 := hn2
  refine loop (fun m F ro' L' => ∃ (i : Nat) (Lx : List (List Blk)), (m = h.es.length + 1 - i) ∧ (F = [(0, .func (.yield l) #[] #[]), (1, .pointer (some ⟨b, 0, none⟩)), (3, .int .i64 (i : Nat))]) ∧ (Lx = L') ∧ (i ≤ h.es.length + 1) ∧ (ro.le ro') ∧ (St i Lx)) (h.es.length + 1 - 0) [(0, .func (.yield l) #[] #[]), (1, .pointer (some ⟨b, 0, none⟩)), (3, .int .i64 (0 : Nat))] ⟨rfl, rfl, rfl, trivial⟩ ⟨0, L, rfl, rfl, rfl, by omega, Ro.le.refl _, h0⟩ ?_
  rintro m F ro' L' ⟨i, Lx, rfl, rfl, rfl, hi, hro, hst⟩
  refine seq ?_
  refine seq ?_
  refine region ?_
  refine op (y (x_move rfl) rfl ?_)
  refine op (y (x_fieldAddr fo_25_1 rfl) rfl ?_)
  refine op (y (x_load1 ag_23 rfl (Cell.ofRo (hro.cell hb1))) rfl ?_)
  refine op (y (x_lenSl sz_23 rfl) rfl ?_)
  refine op (y (x_leq rfl rfl) rfl ?_)
  refine nil ?_
  refine n_then ?_
  refine cond rfl (fun h1 => ?_) (fun h1 => ?_)
  · try simp only [decide_eq_true_eq, decide_eq_false_iff_not, beq_iff_eq, bne_iff_ne, ne_eq, beq_eq_false_iff_ne, bne_eq_false_iff_eq, Bool.not_eq_true', Bool.not_eq_false', Bool.not_eq_true, Bool.not_eq_false, Decidable.not_not, Int.not_lt, Int.not_le] at h1
    refine skip ?_
    refine n_then ?_
    refine seq ?_
    refine block ?_
    refine seq ?_
    refine regionY ?_
    refine opY rfl (y (x_move rfl) rfl ?_)
    refine opY rfl (y (x_move rfl) rfl ?_)
    refine opY rfl (y (x_loadN ag_25 rfl rfl (CellsAt.ofRo (cells2 (hro.cell hb0) (hro.cell hb1)))) rfl ?_)
    refine opY rfl (y (x_move rfl) rfl ?_)
    refine opY rfl (e_call rfl fn_13 rfl rfl (PHo.frozen (Prefix_o h A cA B cB _ _ (hh.mono hro) (i : Nat) hn1 hn2)) fun v15 ro15 L15 hle15 hp15 => ?_)
    obtain ⟨pA, pc, pB, pd, rfl, hSp, rfl⟩ := hp15
    refine yieldY rfl rfl rfl (hy i _ _ pA pc pB pd (by omega) (hro.trans hle15) hst hSp) fun v16 ro16 L16 hle16 hp16 => ?_
    obtain ⟨bv, rfl, hcase⟩ : ∃ bv, v16 = .bool bv ∧ ((bv = true ∧ St (i + 1) L16) ∨ (bv = false ∧ Sx L16)) := by rcases hp16 with ⟨rfl, h⟩ | ⟨rfl, h⟩; exact ⟨true, rfl, .inl ⟨rfl, h⟩⟩; exact ⟨false, rfl, .inr ⟨rfl, h⟩⟩
    refine opY rfl (y (x_not rfl) rfl ?_)
    refine nilY ?_
    refine n_then ?_
    refine cond rfl (fun h3 => ?_) (fun h3 => ?_)
    · try simp only [decide_eq_true_eq, decide_eq_false_iff_not, beq_iff_eq, bne_iff_ne, ne_eq, beq_eq_false_iff_ne, bne_eq_false_iff_eq, Bool.not_eq_true', Bool.not_eq_false', Bool.not_eq_true, Bool.not_eq_false, Decidable.not_not, Int.not_lt, Int.not_le] at h3
      refine ret ?_
      refine r_in ?_
      refine r_then ?_
      refine r_then ?_
      refine r_in ?_
      exact done rfl (.nil) (hro.trans (hle15.trans hle16)) (_) (⟨_, .refl _, .refl _⟩) ((by rcases hcase with ⟨h1, _⟩ | ⟨_, h1⟩; rw [h1] at h3; cases h3; exact .inr h1))
    · try simp only [decide_eq_true_eq, decide_eq_false_iff_not, beq_iff_eq, bne_iff_ne, ne_eq, beq_eq_false_iff_ne, bne_eq_false_iff_eq, Bool.not_eq_true', Bool.not_eq_false', Bool.not_eq_true, Bool.not_eq_false, Decidable.not_not, Int.not_lt, Int.not_le] at h3
      refine skip ?_
      refine n_in ?_
      refine n_then ?_
      refine region ?_
      refine op (y (x_move rfl) rfl ?_)
      refine op (y (x_add rfl rfl _ (wr (by omega) (by omega))) rfl ?_)
      refine said 10 (.int .i64 ((i + 1 : Nat) : Int)) rfl (by simp) ?_
      refine op (y (x_assign rfl) rfl ?_)
      refine nil ?_
      have hst2 : St (i + 1) L16 := by rcases hcase with ⟨_, h1⟩ | ⟨h1, _⟩; exact h1; rw [h1] at h3; cases h3
      exact round (h.es.length + 1 - (i + 1)) [(0, .func (.yield l) #[] #[]), (1, .pointer (some ⟨b, 0, none⟩)), (3, .int .i64 ((i + 1) : Nat))] (by omega) ⟨rfl, rfl, rfl, trivial⟩ ⟨i + 1, _, rfl, rfl, rfl, by omega, hro.trans (hle15.trans hle16), hst2⟩
  · try simp only [decide_eq_true_eq, decide_eq_false_iff_not, beq_iff_eq, bne_iff_ne, ne_eq, beq_eq_false_iff_ne, bne_eq_false_iff_eq, Bool.not_eq_true', Bool.not_eq_false', Bool.not_eq_true, Bool.not_eq_false, Decidable.not_not, Int.not_lt, Int.not_le] at h1
    refine exit ?_
    refine e_then ?_
    refine e_then ?_
    refine e_in ?_
    obtain rfl : i = h.es.length + 1 := by omega
    exact done' rfl (.nil) (hro) (_) (⟨_, .refl _, .refl _⟩) (.inl hst)

theorem CutEach_c (h : Hi) (A : Option Addr) (cA : Nat) (B : Option Addr) (cB : Nat) (stop : Int) (ro : Ro) (L : List (List Blk)) (hh : SH ro A cA B cB h) (er : Nat → Addr) (hG : Glob er ro) :
    CT Tryd.prog 6 [.agg [.slice A h.os.length cA, .slice B h.es.length cB].toArray, .int .i64 stop].toArray ro L (PV (.bool true) L) := by
  refine enter Tryd.func6 rfl Tryd.ntmps6 rfl ?_
  refine seq ?_
  refine region ?_
  refine op (e_box rfl rfl rfl fun b2 => ?_)
  refine op (e_box rfl rfl rfl fun b3 => ?_)
  refine op (e_alloc rfl zc_4 rfl fun b4 => ?_)
  refine nil ?_
  refine n_then ?_
  refine seq ?_
  refine region ?_
  refine op (e_call rfl fn_8 rfl rfl (first_c er _ _ hG) fun v11 ro11 L11 hle11 hp11 => ?_)
  obtain ⟨rfl, rfl⟩ := hp11
  refine op (y (x_assign rfl) rfl ?_)
  refine nil ?_
  refine n_then ?_
  refine seq ?_
  refine seq ?_
  refine region ?_
  refine op (y (x_move rfl) rfl ?_)
  refine op (y (x_not rfl) rfl ?_)
  refine nil ?_
  refine n_then ?_
  refine condF rfl ?_
  refine skip ?_
  refine n_then ?_
  refine seq ?_
  refine seq ?_
  refine region ?_
  refine op (y ((by first | exact x_loadOwn 0 _ ag_25 rfl rfl rfl rfl | exact x_loadOwn 1 _ ag_25 rfl rfl rfl rfl | exact x_loadOwn 2 _ ag_25 rfl rfl rfl rfl | exact x_loadOwn 3 _ ag_25 rfl rfl rfl rfl | exact x_loadOwn 4 _ ag_25 rfl rfl rfl rfl | exact x_loadOwn 5 _ ag_25 rfl rfl rfl rfl | exact x_loadOwn 6 _ ag_25 rfl rfl rfl rfl | exact x_loadOwn 7 _ ag_25 rfl rfl rfl rfl | exact x_loadOwn 8 _ ag_25 rfl rfl rfl rfl | exact x_loadOwn 9 _ ag_25 rfl rfl rfl rfl | exact x_loadOwn 10 _ ag_25 rfl rfl rfl rfl | exact x_loadOwn 11 _ ag_25 rfl rfl rfl rfl)) rfl ?_)
  refine op (e_call rfl fn_9 rfl rfl (small_c h A cA B cB _ _ (hh.mono hle11)) fun v15 ro15 L15 hle15 hp15 => ?_)
  obtain ⟨rfl, rfl, rfl⟩ := hp15
  refine op (y (x_not rfl) rfl ?_)
  refine op (y (x_move rfl) rfl ?_)
  refine bsplit 17 rfl (fun g17 => ?_) (fun g17 => ?_)
  · try simp only [decide_eq_true_eq, decide_eq_false_iff_not, beq_iff_eq, bne_iff_ne, ne_eq, beq_eq_false_iff_ne, bne_eq_false_iff_eq, Bool.not_eq_true', Bool.not_eq_false', Bool.not_eq_true, Bool.not_eq_false, Decidable.not_not, Int.not_lt, Int.not_le] at g17
    refine opN rfl rfl rfl rfl ?_
    refine opN rfl rfl rfl rfl ?_
    refine op (y (x_pickT rfl rfl) rfl ?_)
    refine nil ?_
    refine n_then ?_
    refine condT rfl ?_
    refine seq ?_
    refine region ?_
    refine op (y (x_move rfl) rfl ?_)
    first | refine op (e_store 0 rfl rfl ts_4 rfl rfl rfl rfl rfl rfl ?_) | refine op (e_store 1 rfl rfl ts_4 rfl rfl rfl rfl rfl rfl ?_) | refine op (e_store 2 rfl rfl ts_4 rfl rfl rfl rfl rfl rfl ?_) | refine op (e_store 3 rfl rfl ts_4 rfl rfl rfl rfl rfl rfl ?_) | refine op (e_store 4 rfl rfl ts_4 rfl rfl rfl rfl rfl rfl ?_) | refine op (e_store 5 rfl rfl ts_4 rfl rfl rfl rfl rfl rfl ?_) | refine op (e_store 6 rfl rfl ts_4 rfl rfl rfl rfl rfl rfl ?_) | refine op (e_store 7 rfl rfl ts_4 rfl rfl rfl rfl rfl rfl ?_) | refine op (e_store 8 rfl rfl ts_4 rfl rfl rfl rfl rfl rfl ?_) | refine op (e_store 9 rfl rfl ts_4 rfl rfl rfl rfl rfl rfl ?_)
    refine nil ?_
    refine n_then ?_
    refine ret ?_
    refine r_then ?_
    exact done rfl (Res.cell1 ag_4 rfl (Cell.own 0 rfl rfl) (.nil)) (hle11) (L) (subF (by (repeat (first | exact List.Sublist.refl _ | apply List.Sublist.cons_cons | apply List.Sublist.cons)); done)) (⟨rfl, rfl⟩)
  · try simp only [decide_eq_true_eq, decide_eq_false_iff_not, beq_iff_eq, bne_iff_ne, ne_eq, beq_eq_false_iff_ne, bne_eq_false_iff_eq, Bool.not_eq_true', Bool.not_eq_false', Bool.not_eq_true, Bool.not_eq_false, Decidable.not_not, Int.not_lt, Int.not_le] at g17
    refine opG rfl rfl (y (x_move rfl) rfl ?_)
    refine opG rfl rfl (y (x_not rfl) rfl ?_)
    refine op (y (x_pickF rfl rfl) rfl ?_)
    refine nil ?_
    refine n_then ?_
    refine condF rfl ?_
    refine skip ?_
    refine n_then ?_
    refine seq ?_
    obtain ⟨hn1, hn2⟩ : h.os.length ≤ 100 ∧ h.es.length ≤ 600 := by grind
    have hh1 := hh.mono hle11
    refine region ?_
    refine op (y ((by first | exact x_loadOwn 0 _ ag_25 rfl rfl rfl rfl | exact x_loadOwn 1 _ ag_25 rfl rfl rfl rfl | exact x_loadOwn 2 _ ag_25 rfl rfl rfl rfl | exact x_loadOwn 3 _ ag_25 rfl rfl rfl rfl | exact x_loadOwn 4 _ ag_25 rfl rfl rfl rfl | exact x_loadOwn 5 _ ag_25 rfl rfl rfl rfl | exact x_loadOwn 6 _ ag_25 rfl rfl rfl rfl | exact x_loadOwn 7 _ ag_25 rfl rfl rfl rfl | exact x_loadOwn 8 _ ag_25 rfl rfl rfl rfl | exact x_loadOwn 9 _ ag_25 rfl rfl rfl rfl | exact x_loadOwn 10 _ ag_25 rfl rfl rfl rfl | exact x_loadOwn 11 _ ag_25 rfl rfl rfl rfl)) rfl ?_)
    refine op (e_call rfl fn_31 rfl rfl (Prefixes_c h A cA B cB _ _ hh1 hn1 hn2) fun v23 ro23 L23 hle23 hp23 => ?_)
    obtain ⟨b, xA, xc, xB, xd, rfl, hb0, hb1, hS, rfl⟩ := hp23
    refine op (y (x_assign rfl) rfl ?_)
    refine nil ?_
    refine n_then ?_
    refine seq ?_
    refine seq ?_
    refine region ?_
    refine op (y (x_move rfl) rfl ?_)
    refine op (y (x_fnNil Tryd.underlying52 rfl (.inr ⟨_, _, _, rfl⟩)) rfl ?_)
    refine said 25 (.bool false) rfl rfl ?_
    refine nil ?_
    refine n_then ?_
    refine condF rfl ?_
    refine skip ?_
    refine n_then ?_
    refine seq ?_
    refine seq ?_
    refine region ?_
    refine op (e_alloc rfl zc_3 rfl fun b7 => ?_)
    first | refine op (e_store 0 rfl rfl ts_3 rfl rfl rfl rfl rfl rfl ?_) | refine op (e_store 1 rfl rfl ts_3 rfl rfl rfl rfl rfl rfl ?_) | refine op (e_store 2 rfl rfl ts_3 rfl rfl rfl rfl rfl rfl ?_) | refine op (e_store 3 rfl rfl ts_3 rfl rfl rfl rfl rfl rfl ?_) | refine op (e_store 4 rfl rfl ts_3 rfl rfl rfl rfl rfl rfl ?_) | refine op (e_store 5 rfl rfl ts_3 rfl rfl rfl rfl rfl rfl ?_) | refine op (e_store 6 rfl rfl ts_3 rfl rfl rfl rfl rfl rfl ?_) | refine op (e_store 7 rfl rfl ts_3 rfl rfl rfl rfl rfl rfl ?_) | refine op (e_store 8 rfl rfl ts_3 rfl rfl rfl rfl rfl rfl ?_) | refine op (e_store 9 rfl rfl ts_3 rfl rfl rfl rfl rfl rfl ?_)
    refine nil ?_
    refine n_then ?_
    refine block ?_
    obtain ⟨roP, hroP⟩ : ∃ roP, ro23 = roP := ⟨_, rfl⟩
    subst hroP
    have hh2 := hh1.mono hle23
    refine loopN (fun m ds F ro' L' => ∃ (q : Nat) (b7 : Nat) (Dl : List Nat), (m = 2 - q) ∧ (Dl = ds) ∧ (F = [(2, .pointer (some ⟨b2, 0, none⟩)), (3, .pointer (some ⟨b3, 0, none⟩)), (4, .pointer (some ⟨b4, 0, none⟩)), (6, .func (.func 46) #[] [.pointer (some ⟨b, 0, none⟩)].toArray), (7, .pointer (some ⟨b7, 0, none⟩))]) ∧ (L' = [(b7, Obj.cells [Value.int .i64 (q : Nat)].toArray 3 (0, 0))] :: [(b4, Obj.cells [Value.bool false].toArray 4 (0, 0))] :: [(b3, Obj.cells [Value.int .i64 stop].toArray 3 (0, 0))] :: [(b2, Obj.cells [Value.slice A h.os.length cA, Value.slice B h.es.length cB].toArray 25 (0, 0))] :: (dfb (some []) Dl ++ L)) ∧ (q ≤ 2) ∧ (ro23.le ro')) (2 - 0) [(2, .pointer (some ⟨b2, 0, none⟩)), (3, .pointer (some ⟨b3, 0, none⟩)), (4, .pointer (some ⟨b4, 0, none⟩)), (6, .func (.func 46) #[] [.pointer (some ⟨b, 0, none⟩)].toArray), (7, .pointer (some ⟨b7, 0, none⟩))] ⟨rfl, rfl, rfl, rfl, rfl, trivial⟩ ⟨0, b7, [], rfl, rfl, rfl, rfl, by omega, Ro.le.refl _⟩ ?_
    rintro m ds F ro' L' ⟨q, b7, Dl, rfl, rfl, rfl, rfl, hq, hro⟩
    refine seq ?_
    refine seq ?_
    refine region ?_
    refine op (y (x_load1 ag_3 rfl (by first | assumption | exact Cell.own 0 rfl rfl | exact Cell.own 1 rfl rfl | exact Cell.own 2 rfl rfl | exact Cell.own 3 rfl rfl | exact Cell.own 4 rfl rfl | exact Cell.own 5 rfl rfl | exact Cell.own 6 rfl rfl | exact Cell.own 7 rfl rfl | exact Cell.own 8 rfl rfl | exact Cell.own 9 rfl rfl | exact Cell.ofRo (by assumption))) rfl ?_)
    refine op (y (x_lss rfl rfl) rfl ?_)
    refine nil ?_
    refine n_then ?_
    refine cond rfl (fun h10 => ?_) (fun h10 => ?_)
    · try simp only [decide_eq_true_eq, decide_eq_false_iff_not, beq_iff_eq, bne_iff_ne, ne_eq, beq_eq_false_iff_ne, bne_eq_false_iff_eq, Bool.not_eq_true', Bool.not_eq_false', Bool.not_eq_true, Bool.not_eq_false, Decidable.not_not, Int.not_lt, Int.not_le] at h10
      refine skip ?_
      refine n_then ?_
      refine seq ?_
      refine block ?_
      refine seq ?_
      refine region ?_
      refine op (e_alloc rfl zc_3 rfl fun b8 => ?_)
      first | refine op (e_store 0 rfl rfl ts_3 rfl rfl rfl rfl rfl rfl ?_) | refine op (e_store 1 rfl rfl ts_3 rfl rfl rfl rfl rfl rfl ?_) | refine op (e_store 2 rfl rfl ts_3 rfl rfl rfl rfl rfl rfl ?_) | refine op (e_store 3 rfl rfl ts_3 rfl rfl rfl rfl rfl rfl ?_) | refine op (e_store 4 rfl rfl ts_3 rfl rfl rfl rfl rfl rfl ?_) | refine op (e_store 5 rfl rfl ts_3 rfl rfl rfl rfl rfl rfl ?_) | refine op (e_store 6 rfl rfl ts_3 rfl rfl rfl rfl rfl rfl ?_) | refine op (e_store 7 rfl rfl ts_3 rfl rfl rfl rfl rfl rfl ?_) | refine op (e_store 8 rfl rfl ts_3 rfl rfl rfl rfl rfl rfl ?_) | refine op (e_store 9 rfl rfl ts_3 rfl rfl rfl rfl rfl rfl ?_)
      refine nil ?_
      refine n_then ?_
      refine seq ?_
      refine seq ?_
      refine region ?_
      refine op (y (x_move rfl) rfl ?_)
      refine nil ?_
      refine n_then ?_
      refine block ?_
      refine range2 (p1 := 31) (p2 := 32) (caps := [.pointer (some ⟨b, 0, none⟩)]) rfl fn_46 (fun _ L2 => L2 = [(b8, Obj.cells [Value.int .i64 ((h.es.length + 1 : Nat) : Int)].toArray 3 (0, 0))] :: [(b7, Obj.cells [Value.int .i64 (q : Nat)].toArray 3 (0, 0))] :: [(b4, Obj.cells [Value.bool false].toArray 4 (0, 0))] :: [(b3, Obj.cells [Value.int .i64 stop].toArray 3 (0, 0))] :: [(b2, Obj.cells [Value.slice A h.os.length cA, Value.slice B h.es.length cB].toArray 25 (0, 0))] :: (dfb (some []) Dl ++ L)) (fun c _ L2 => c = Code.exit 2 ∧ ∃ i8 : Nat, q = 0 ∧ (i8 : Int) = stop ∧ L2 = [(b8, Obj.cells [Value.int .i64 (i8 : Int)].toArray 3 (0, 0))] :: [(b7, Obj.cells [Value.int .i64 (q : Nat)].toArray 3 (0, 0))] :: [(b4, Obj.cells [Value.bool false].toArray 4 (0, 0))] :: [(b3, Obj.cells [Value.int .i64 stop].toArray 3 (0, 0))] :: [(b2, Obj.cells [Value.slice A h.os.length cA, Value.slice B h.es.length cB].toArray 25 (0, 0))] :: (dfb (some []) Dl ++ L)) (fun fn tm l D rc hrc hfa => ?_) (fun D ro5 L5 hle5 hd5 => ?_) (fun c D ro5 L5 hle5 hs5 => ?_)
      · skip
        refine CT.mono (Prefixes1_c h xA xc xB xd b l (fun i Lx => Lx = [(l, Obj.loop (rc .ready none))] :: [(D, Obj.deferred (some []))] :: [(b8, Obj.cells [Value.int .i64 (i : Nat)].toArray 3 (0, 0))] :: [(b7, Obj.cells [Value.int .i64 (q : Nat)].toArray 3 (0, 0))] :: [(b4, Obj.cells [Value.bool false].toArray 4 (0, 0))] :: [(b3, Obj.cells [Value.int .i64 stop].toArray 3 (0, 0))] :: [(b2, Obj.cells [Value.slice A h.os.length cA, Value.slice B h.es.length cB].toArray 25 (0, 0))] :: (dfb (some []) Dl ++ L)) (fun Lx => ∃ i8 : Nat, q = 0 ∧ (i8 : Int) = stop ∧ Lx = [(l, Obj.loop (rc .done (some (Code.exit 2))))] :: [(D, Obj.deferred (some []))] :: [(b8, Obj.cells [Value.int .i64 (i8 : Int)].toArray 3 (0, 0))] :: [(b7, Obj.cells [Value.int .i64 (q : Nat)].toArray 3 (0, 0))] :: [(b4, Obj.cells [Value.bool false].toArray 4 (0, 0))] :: [(b3, Obj.cells [Value.int .i64 stop].toArray 3 (0, 0))] :: [(b2, Obj.cells [Value.slice A h.os.length cA, Value.slice B h.es.length cB].toArray 25 (0, 0))] :: (dfb (some []) Dl ++ L)) _ _ (hro.cell hb0) (hro.cell hb1) (hS.mono hro) hn1 hn2 rfl (fun i Lx ro5 A' cA' B' cB' hi hle5 hst hSp => ?_)) (fun v ro6 L6 _ hp => by
          rcases hp with hp | ⟨i8, hq0, hs8, hp⟩
          · exact .inl ⟨_, hp, rfl⟩
          · exact .inr ⟨_, _, hp, rfl, i8, hq0, hs8, rfl⟩)
        subst hst
        refine YT.of2 hrc hfa rfl rfl (by simp) ?_
        have hh5 := (hh2.mono hro).mono hle5
        refine seqR ?_
        refine regionR (by kernel_rfl) (fun _ _ h => h) ?_
        refine op (y (x_assign rfl) rfl ?_)
        refine nil ?_
        refine n_then ?_
        refine regionR (by kernel_rfl) (fun _ _ h => h) ?_
        refine op (e_alloc rfl zc_25 rfl fun b10 => ?_)
        first | refine op (e_store 0 rfl rfl ts_25 rfl rfl rfl rfl rfl rfl ?_) | refine op (e_store 1 rfl rfl ts_25 rfl rfl rfl rfl rfl rfl ?_) | refine op (e_store 2 rfl rfl ts_25 rfl rfl rfl rfl rfl rfl ?_) | refine op (e_store 3 rfl rfl ts_25 rfl rfl rfl rfl rfl rfl ?_) | refine op (e_store 4 rfl rfl ts_25 rfl rfl rfl rfl rfl rfl ?_) | refine op (e_store 5 rfl rfl ts_25 rfl rfl rfl rfl rfl rfl ?_) | refine op (e_store 6 rfl rfl ts_25 rfl rfl rfl rfl rfl rfl ?_) | refine op (e_store 7 rfl rfl ts_25 rfl rfl rfl rfl rfl rfl ?_) | refine op (e_store 8 rfl rfl ts_25 rfl rfl rfl rfl rfl rfl ?_) | refine op (e_store 9 rfl rfl ts_25 rfl rfl rfl rfl rfl rfl ?_)
        refine nil ?_
        refine n_then ?_
        refine begin_ hrc 1 rfl rfl ?_
        refine blockR ?_
        refine seqR ?_
        refine seqR ?_
        refine drawLR (by kernel_rfl) (by kernel_rfl) (fun _ _ h => h) ?_
        refine d_take 0 rfl (by kernel_rfl) (by kernel_rfl) (by kernel_rfl) (fun _ _ _ h => h) rfl (.inl rfl) (x_load1 ag_3 rfl (by first | assumption | exact Cell.own 0 rfl rfl | exact Cell.own 1 rfl rfl | exact Cell.own 2 rfl rfl | exact Cell.own 3 rfl rfl | exact Cell.own 4 rfl rfl | exact Cell.own 5 rfl rfl | exact Cell.own 6 rfl rfl | exact Cell.own 7 rfl rfl | exact Cell.own 8 rfl rfl | exact Cell.own 9 rfl rfl | exact Cell.ofRo (by assumption))) (fun w hi => by first | exact hi.j | exact J.of_le (hle47) (fun x hx => hx) hi) ?_
        refine d_take 1 rfl (by kernel_rfl) (by kernel_rfl) (by kernel_rfl) (fun _ _ _ h => h) rfl (.inl rfl) (x_fieldAddr fo_25_1 rfl) (fun w hi => by first | exact hi.j | exact J.of_le (hle47) (fun x hx => hx) hi) ?_
        refine d_take 2 rfl (by kernel_rfl) (by kernel_rfl) (by kernel_rfl) (fun _ _ _ h => h) rfl (.inl rfl) (x_load1 ag_23 rfl (by first | assumption | exact Cell.own 0 rfl rfl | exact Cell.own 1 rfl rfl | exact Cell.own 2 rfl rfl | exact Cell.own 3 rfl rfl | exact Cell.own 4 rfl rfl | exact Cell.own 5 rfl rfl | exact Cell.own 6 rfl rfl | exact Cell.own 7 rfl rfl | exact Cell.own 8 rfl rfl | exact Cell.own 9 rfl rfl | exact Cell.ofRo (by assumption))) (fun w hi => by first | exact hi.j | exact J.of_le (hle47) (fun x hx => hx) hi) ?_
        refine d_take 3 rfl (by kernel_rfl) (by kernel_rfl) (by kernel_rfl) (fun _ _ _ h => h) rfl (.inl rfl) (x_lenSl sz_23 rfl) (fun w hi => by first | exact hi.j | exact J.of_le (hle47) (fun x hx => hx) hi) ?_
        refine d_take 4 rfl (by kernel_rfl) (by kernel_rfl) (by kernel_rfl) (fun _ _ _ h => h) rfl (.inl rfl) (x_gtr rfl rfl) (fun w hi => by first | exact hi.j | exact J.of_le (hle47) (fun x hx => hx) hi) ?_
        refine said 37 (.bool false) rfl (by simp; omega) ?_
        refine d_take 5 rfl (by kernel_rfl) (by kernel_rfl) (by kernel_rfl) (fun _ _ _ h => h) rfl (.inl rfl) (x_move rfl) (fun w hi => by first | exact hi.j | exact J.of_le (hle47) (fun x hx => hx) hi) ?_
        refine d_take 6 rfl (by kernel_rfl) (by kernel_rfl) (by kernel_rfl) (fun _ _ _ h => h) rfl (.inr ⟨_, _, _, rfl, rfl, rfl⟩) (x_move rfl) (fun w hi => by first | exact hi.j | exact J.of_le (hle47) (fun x hx => hx) hi) ?_
        refine d_take 7 rfl (by kernel_rfl) (by kernel_rfl) (by kernel_rfl) (fun _ _ _ h => h) rfl (.inr ⟨_, _, _, rfl, rfl, rfl⟩) (x_load1 ag_3 rfl (by first | assumption | exact Cell.own 0 rfl rfl | exact Cell.own 1 rfl rfl | exact Cell.own 2 rfl rfl | exact Cell.own 3 rfl rfl | exact Cell.own 4 rfl rfl | exact Cell.own 5 rfl rfl | exact Cell.own 6 rfl rfl | exact Cell.own 7 rfl rfl | exact Cell.own 8 rfl rfl | exact Cell.own 9 rfl rfl | exact Cell.ofRo (by assumption))) (fun w hi => by first | exact hi.j | exact J.of_le (hle47) (fun x hx => hx) hi) ?_
        refine d_take 8 rfl (by kernel_rfl) (by kernel_rfl) (by kernel_rfl) (fun _ _ _ h => h) rfl (.inr ⟨_, _, _, rfl, rfl, rfl⟩) (x_neq rfl rfl) (fun w hi => by first | exact hi.j | exact J.of_le (hle47) (fun x hx => hx) hi) ?_
        refine said 41 (.bool false) rfl (by simp) ?_
        refine d_take 9 rfl (by kernel_rfl) (by kernel_rfl) (by kernel_rfl) (fun _ _ _ h => h) rfl (.inl rfl) (x_pickF rfl rfl) (fun w hi => by first | exact hi.j | exact J.of_le (hle47) (fun x hx => hx) hi) ?_
        refine d_take 10 rfl (by kernel_rfl) (by kernel_rfl) (by kernel_rfl) (fun _ _ _ h => h) rfl (.inl rfl) (x_move rfl) (fun w hi => by first | exact hi.j | exact J.of_le (hle47) (fun x hx => hx) hi) ?_
        refine d_take 11 rfl (by kernel_rfl) (by kernel_rfl) (by kernel_rfl) (fun _ _ _ h => h) rfl (.inr ⟨_, _, _, rfl, rfl, rfl⟩) ((by first | exact x_loadOwn 0 _ ag_25 rfl rfl rfl rfl | exact x_loadOwn 1 _ ag_25 rfl rfl rfl rfl | exact x_loadOwn 2 _ ag_25 rfl rfl rfl rfl | exact x_loadOwn 3 _ ag_25 rfl rfl rfl rfl | exact x_loadOwn 4 _ ag_25 rfl rfl rfl rfl | exact x_loadOwn 5 _ ag_25 rfl rfl rfl rfl | exact x_loadOwn 6 _ ag_25 rfl rfl rfl rfl | exact x_loadOwn 7 _ ag_25 rfl rfl rfl rfl | exact x_loadOwn 8 _ ag_25 rfl rfl rfl rfl | exact x_loadOwn 9 _ ag_25 rfl rfl rfl rfl | exact x_loadOwn 10 _ ag_25 rfl rfl rfl rfl | exact x_loadOwn 11 _ ag_25 rfl rfl rfl rfl)) (fun w hi => by first | exact hi.j | exact J.of_le (hle47) (fun x hx => hx) hi) ?_
        refine d_take 12 rfl (by kernel_rfl) (by kernel_rfl) (by kernel_rfl) (fun _ _ _ h => h) rfl (.inr ⟨_, _, _, rfl, rfl, rfl⟩) ((by first | exact x_loadOwn 0 _ ag_25 rfl rfl rfl rfl | exact x_loadOwn 1 _ ag_25 rfl rfl rfl rfl | exact x_loadOwn 2 _ ag_25 rfl rfl rfl rfl | exact x_loadOwn 3 _ ag_25 rfl rfl rfl rfl | exact x_loadOwn 4 _ ag_25 rfl rfl rfl rfl | exact x_loadOwn 5 _ ag_25 rfl rfl rfl rfl | exact x_loadOwn 6 _ ag_25 rfl rfl rfl rfl | exact x_loadOwn 7 _ ag_25 rfl rfl rfl rfl | exact x_loadOwn 8 _ ag_25 rfl rfl rfl rfl | exact x_loadOwn 9 _ ag_25 rfl rfl rfl rfl | exact x_loadOwn 10 _ ag_25 rfl rfl rfl rfl | exact x_loadOwn 11 _ ag_25 rfl rfl rfl rfl)) (fun w hi => by first | exact hi.j | exact J.of_le (hle47) (fun x hx => hx) hi) ?_
        refine d_take 13 rfl (by kernel_rfl) (by kernel_rfl) (by kernel_rfl) (fun _ _ _ h => h) rfl (.inr ⟨_, _, _, rfl, rfl, rfl⟩) (x_move rfl) (fun w hi => by first | exact hi.j | exact J.of_le (hle47) (fun x hx => hx) hi) ?_
        refine d_one 14 rfl (by kernel_rfl) (.inr ⟨_, _, _, rfl, rfl, rfl⟩) (e_call rfl fn_14 rfl rfl (PrefixR_c h A cA B cB _ _ hh5 (i : Nat) hn1 hn2) fun v47 ro47 L47 hle47 hp47 => ?_)
        obtain ⟨qA, qc, qB, qd, rfl, hSq, rfl⟩ := hp47
        refine d_next (fun w hi => by first | exact hi.j | exact J.of_le (hle47) (fun x hx => hx) hi) ?_
        refine d_one 15 rfl (by kernel_rfl) (.inr ⟨_, _, _, rfl, rfl, rfl⟩) (e_call rfl fn_12 rfl rfl (SameHistory_c (pre h i) _ _ _ _ (pre h i) _ _ _ _ _ _ (hSp.mono hle47) hSq) fun v48 ro48 L48 hle48 hp48 => ?_)
        obtain ⟨rfl, rfl, rfl⟩ := hp48
        refine said 48 (.bool true) rfl (by simp) ?_
        refine d_next (fun w hi => by first | exact hi.j | exact J.of_le (hle47) (fun x hx => hx) hi) ?_
        refine d_take 16 rfl (by kernel_rfl) (by kernel_rfl) (by kernel_rfl) (fun _ _ _ h => h) rfl (.inr ⟨_, _, _, rfl, rfl, rfl⟩) (x_not rfl) (fun w hi => by first | exact hi.j | exact J.of_le (hle47) (fun x hx => hx) hi) ?_
        refine d_take 17 rfl (by kernel_rfl) (by kernel_rfl) (by kernel_rfl) (fun _ _ _ h => h) rfl (.inl rfl) (x_pickF rfl rfl) (fun w hi => by first | exact hi.j | exact J.of_le (hle47) (fun x hx => hx) hi) ?_
        refine d_end (by kernel_rfl) ?_
        refine n_then ?_
        refine condFR rfl ?_
        refine skipR ?_
        refine n_then ?_
        refine seqR ?_
        refine regionR (by kernel_rfl) (fun _ _ h => h) ?_
        refine op (y (x_load1 ag_3 rfl (by first | assumption | exact Cell.own 0 rfl rfl | exact Cell.own 1 rfl rfl | exact Cell.own 2 rfl rfl | exact Cell.own 3 rfl rfl | exact Cell.own 4 rfl rfl | exact Cell.own 5 rfl rfl | exact Cell.own 6 rfl rfl | exact Cell.own 7 rfl rfl | exact Cell.own 8 rfl rfl | exact Cell.own 9 rfl rfl | exact Cell.ofRo (by assumption))) rfl ?_)
        refine op (y (x_add rfl rfl _ (wr (by omega) (by omega))) rfl ?_)
        refine said 52 (.int .i64 ((i + 1 : Nat) : Int)) rfl (by simp) ?_
        first | refine op (e_store 0 rfl rfl ts_3 rfl rfl rfl rfl rfl rfl ?_) | refine op (e_store 1 rfl rfl ts_3 rfl rfl rfl rfl rfl rfl ?_) | refine op (e_store 2 rfl rfl ts_3 rfl rfl rfl rfl rfl rfl ?_) | refine op (e_store 3 rfl rfl ts_3 rfl rfl rfl rfl rfl rfl ?_) | refine op (e_store 4 rfl rfl ts_3 rfl rfl rfl rfl rfl rfl ?_) | refine op (e_store 5 rfl rfl ts_3 rfl rfl rfl rfl rfl rfl ?_) | refine op (e_store 6 rfl rfl ts_3 rfl rfl rfl rfl rfl rfl ?_) | refine op (e_store 7 rfl rfl ts_3 rfl rfl rfl rfl rfl rfl ?_) | refine op (e_store 8 rfl rfl ts_3 rfl rfl rfl rfl rfl rfl ?_) | refine op (e_store 9 rfl rfl ts_3 rfl rfl rfl rfl rfl rfl ?_)
        refine nil ?_
        refine n_then ?_
        refine seqR ?_
        refine regionR (by kernel_rfl) (fun _ _ h => h) ?_
        refine op (y (x_load1 ag_3 rfl (by first | assumption | exact Cell.own 0 rfl rfl | exact Cell.own 1 rfl rfl | exact Cell.own 2 rfl rfl | exact Cell.own 3 rfl rfl | exact Cell.own 4 rfl rfl | exact Cell.own 5 rfl rfl | exact Cell.own 6 rfl rfl | exact Cell.own 7 rfl rfl | exact Cell.own 8 rfl rfl | exact Cell.own 9 rfl rfl | exact Cell.ofRo (by assumption))) rfl ?_)
        refine op (y (x_eql rfl rfl) rfl ?_)
        refine op (y (x_move rfl) rfl ?_)
        refine bsplit 55 rfl (fun g55 => ?_) (fun g55 => ?_)
        · try simp only [decide_eq_true_eq, decide_eq_false_iff_not, beq_iff_eq, bne_iff_ne, ne_eq, beq_eq_false_iff_ne, bne_eq_false_iff_eq, Bool.not_eq_true', Bool.not_eq_false', Bool.not_eq_true, Bool.not_eq_false, Decidable.not_not, Int.not_lt, Int.not_le] at g55
          refine opG rfl rfl (y (x_load1 ag_3 rfl (by first | assumption | exact Cell.own 0 rfl rfl | exact Cell.own 1 rfl rfl | exact Cell.own 2 rfl rfl | exact Cell.own 3 rfl rfl | exact Cell.own 4 rfl rfl | exact Cell.own 5 rfl rfl | exact Cell.own 6 rfl rfl | exact Cell.own 7 rfl rfl | exact Cell.own 8 rfl rfl | exact Cell.own 9 rfl rfl | exact Cell.ofRo (by assumption))) rfl ?_)
          refine opG rfl rfl (y (x_load1 ag_3 rfl (by first | assumption | exact Cell.own 0 rfl rfl | exact Cell.own 1 rfl rfl | exact Cell.own 2 rfl rfl | exact Cell.own 3 rfl rfl | exact Cell.own 4 rfl rfl | exact Cell.own 5 rfl rfl | exact Cell.own 6 rfl rfl | exact Cell.own 7 rfl rfl | exact Cell.own 8 rfl rfl | exact Cell.own 9 rfl rfl | exact Cell.ofRo (by assumption))) rfl ?_)
          refine opG rfl rfl (y (x_eql rfl rfl) rfl ?_)
          refine op (y (x_pickT rfl rfl) rfl ?_)
          refine nil ?_
          refine n_then ?_
          refine condR rfl (fun h19 => ?_) (fun h19 => ?_)
          · try simp only [decide_eq_true_eq, decide_eq_false_iff_not, beq_iff_eq, bne_iff_ne, ne_eq, beq_eq_false_iff_ne, bne_eq_false_iff_eq, Bool.not_eq_true', Bool.not_eq_false', Bool.not_eq_true, Bool.not_eq_false, Decidable.not_not, Int.not_lt, Int.not_le] at h19
            refine exitR ?_
            refine e_out rfl ?_
            refine rend_x hrc 1 rfl rfl hle47 (L2 := [(l, Obj.loop (rc .done (some (Code.exit 2))))] :: [(D, Obj.deferred (some []))] :: [(b8, Obj.cells [Value.int .i64 ((i + 1 : Nat) : Int)].toArray 3 (0, 0))] :: [(b7, Obj.cells [Value.int .i64 (q : Nat)].toArray 3 (0, 0))] :: [(b4, Obj.cells [Value.bool false].toArray 4 (0, 0))] :: [(b3, Obj.cells [Value.int .i64 stop].toArray 3 (0, 0))] :: [(b2, Obj.cells [Value.slice A h.os.length cA, Value.slice B h.es.length cB].toArray 25 (0, 0))] :: (dfb (some []) Dl ++ L)) (subF (by (repeat (first | exact List.Sublist.refl _ | apply List.Sublist.cons_cons | apply List.Sublist.cons)); done)) (.inr ⟨rfl, i + 1, by first | omega | grind, by first | omega | grind, rfl⟩)
          · try simp only [decide_eq_true_eq, decide_eq_false_iff_not, beq_iff_eq, bne_iff_ne, ne_eq, beq_eq_false_iff_ne, bne_eq_false_iff_eq, Bool.not_eq_true', Bool.not_eq_false', Bool.not_eq_true, Bool.not_eq_false, Decidable.not_not, Int.not_lt, Int.not_le] at h19
            refine skipR ?_
            refine n_in ?_
            refine rend_n hrc 1 rfl rfl hle47 (L2 := [(l, Obj.loop (rc .ready none))] :: [(D, Obj.deferred (some []))] :: [(b8, Obj.cells [Value.int .i64 ((i + 1 : Nat) : Int)].toArray 3 (0, 0))] :: [(b7, Obj.cells [Value.int .i64 (q : Nat)].toArray 3 (0, 0))] :: [(b4, Obj.cells [Value.bool false].toArray 4 (0, 0))] :: [(b3, Obj.cells [Value.int .i64 stop].toArray 3 (0, 0))] :: [(b2, Obj.cells [Value.slice A h.os.length cA, Value.slice B h.es.length cB].toArray 25 (0, 0))] :: (dfb (some []) Dl ++ L)) (subF (by (repeat (first | exact List.Sublist.refl _ | apply List.Sublist.cons_cons | apply List.Sublist.cons)); done)) (.inl ⟨rfl, rfl⟩)
        · try simp only [decide_eq_true_eq, decide_eq_false_iff_not, beq_iff_eq, bne_iff_ne, ne_eq, beq_eq_false_iff_ne, bne_eq_false_iff_eq, Bool.not_eq_true', Bool.not_eq_false', Bool.not_eq_true, Bool.not_eq_false, Decidable.not_not, Int.not_lt, Int.not_le] at g55
          refine opN rfl rfl rfl rfl ?_
          refine opN rfl rfl rfl rfl ?_
          refine opN rfl rfl rfl rfl ?_
          refine op (y (x_pickF rfl rfl) rfl ?_)
          refine nil ?_
          refine n_then ?_
          refine condFR rfl ?_
          refine skipR ?_
          refine n_in ?_
          refine rend_n hrc 1 rfl rfl hle47 (L2 := [(l, Obj.loop (rc .ready none))] :: [(D, Obj.deferred (some []))] :: [(b8, Obj.cells [Value.int .i64 ((i + 1 : Nat) : Int)].toArray 3 (0, 0))] :: [(b7, Obj.cells [Value.int .i64 (q : Nat)].toArray 3 (0, 0))] :: [(b4, Obj.cells [Value.bool false].toArray 4 (0, 0))] :: [(b3, Obj.cells [Value.int .i64 stop].toArray 3 (0, 0))] :: [(b2, Obj.cells [Value.slice A h.os.length cA, Value.slice B h.es.length cB].toArray 25 (0, 0))] :: (dfb (some []) Dl ++ L)) (subF (by (repeat (first | exact List.Sublist.refl _ | apply List.Sublist.cons_cons | apply List.Sublist.cons)); done)) (.inl ⟨rfl, rfl⟩)
      · skip
        obtain ⟨i8, hfin, rfl⟩ : ∃ i8 : Nat, (i8 = h.es.length + 1 ∨ (q = 0 ∧ (i8 : Int) = stop)) ∧ L5 = [(b8, Obj.cells [Value.int .i64 (i8 : Int)].toArray 3 (0, 0))] :: [(b7, Obj.cells [Value.int .i64 (q : Nat)].toArray 3 (0, 0))] :: [(b4, Obj.cells [Value.bool false].toArray 4 (0, 0))] :: [(b3, Obj.cells [Value.int .i64 stop].toArray 3 (0, 0))] :: [(b2, Obj.cells [Value.slice A h.os.length cA, Value.slice B h.es.length cB].toArray 25 (0, 0))] :: (dfb (some []) Dl ++ L) := ⟨h.es.length + 1, .inl rfl, hd5⟩
        refine n_in ?_
        refine n_then ?_
        refine seq ?_
        refine region ?_
        refine op (y (x_load1 ag_3 rfl (by first | assumption | exact Cell.own 0 rfl rfl | exact Cell.own 1 rfl rfl | exact Cell.own 2 rfl rfl | exact Cell.own 3 rfl rfl | exact Cell.own 4 rfl rfl | exact Cell.own 5 rfl rfl | exact Cell.own 6 rfl rfl | exact Cell.own 7 rfl rfl | exact Cell.own 8 rfl rfl | exact Cell.own 9 rfl rfl | exact Cell.ofRo (by assumption))) rfl ?_)
        refine op (y (x_fieldAddr fo_25_1 rfl) rfl ?_)
        refine op (y (x_load1 ag_23 rfl (by first | assumption | exact Cell.own 0 rfl rfl | exact Cell.own 1 rfl rfl | exact Cell.own 2 rfl rfl | exact Cell.own 3 rfl rfl | exact Cell.own 4 rfl rfl | exact Cell.own 5 rfl rfl | exact Cell.own 6 rfl rfl | exact Cell.own 7 rfl rfl | exact Cell.own 8 rfl rfl | exact Cell.own 9 rfl rfl | exact Cell.ofRo (by assumption))) rfl ?_)
        refine op (y (x_lenSl sz_23 rfl) rfl ?_)
        refine op (y (x_add rfl rfl _ (wr (by omega) (by omega))) rfl ?_)
        refine op (y (x_neq rfl rfl) rfl ?_)
        refine op (y (x_move rfl) rfl ?_)
        refine bsplit 66 rfl (fun g66 => ?_) (fun g66 => ?_)
        · try simp only [decide_eq_true_eq, decide_eq_false_iff_not, beq_iff_eq, bne_iff_ne, ne_eq, beq_eq_false_iff_ne, bne_eq_false_iff_eq, Bool.not_eq_true', Bool.not_eq_false', Bool.not_eq_true, Bool.not_eq_false, Decidable.not_not, Int.not_lt, Int.not_le] at g66
          refine opG rfl rfl (y (x_load1 ag_3 rfl (by first | assumption | exact Cell.own 0 rfl rfl | exact Cell.own 1 rfl rfl | exact Cell.own 2 rfl rfl | exact Cell.own 3 rfl rfl | exact Cell.own 4 rfl rfl | exact Cell.own 5 rfl rfl | exact Cell.own 6 rfl rfl | exact Cell.own 7 rfl rfl | exact Cell.own 8 rfl rfl | exact Cell.own 9 rfl rfl | exact Cell.ofRo (by assumption))) rfl ?_)
          refine opG rfl rfl (y (x_eql rfl rfl) rfl ?_)
          refine opG rfl rfl (y (x_move rfl) rfl ?_)
          refine bsplit 69 rfl (fun g69 => ?_) (fun g69 => ?_)
          · try simp only [decide_eq_true_eq, decide_eq_false_iff_not, beq_iff_eq, bne_iff_ne, ne_eq, beq_eq_false_iff_ne, bne_eq_false_iff_eq, Bool.not_eq_true', Bool.not_eq_false', Bool.not_eq_true, Bool.not_eq_false, Decidable.not_not, Int.not_lt, Int.not_le] at g69
            refine opG rfl rfl (y (x_load1 ag_3 rfl (Cell.own 1 rfl rfl)) rfl ?_)
            refine opG rfl rfl (y (x_load1 ag_3 rfl (by first | assumption | exact Cell.own 0 rfl rfl | exact Cell.own 1 rfl rfl | exact Cell.own 2 rfl rfl | exact Cell.own 3 rfl rfl | exact Cell.own 4 rfl rfl | exact Cell.own 5 rfl rfl | exact Cell.own 6 rfl rfl | exact Cell.own 7 rfl rfl | exact Cell.own 8 rfl rfl | exact Cell.own 9 rfl rfl | exact Cell.ofRo (by assumption))) rfl ?_)
            refine opG rfl rfl (y (x_eql rfl rfl) rfl ?_)
            refine opG rfl rfl (y (x_pickT rfl rfl) rfl ?_)
            refine opG rfl rfl (y (x_not rfl) rfl ?_)
            refine op (y (x_pickT rfl rfl) rfl ?_)
            refine nil ?_
            refine n_then ?_
            refine cond rfl (fun h20 => ?_) (fun h20 => ?_)
            · try simp only [decide_eq_true_eq, decide_eq_false_iff_not, beq_iff_eq, bne_iff_ne, ne_eq, beq_eq_false_iff_ne, bne_eq_false_iff_eq, Bool.not_eq_true', Bool.not_eq_false', Bool.not_eq_true, Bool.not_eq_false, Decidable.not_not, Int.not_lt, Int.not_le] at h20
              refine seq ?_
              refine region ?_
              first | refine op (e_store 0 rfl rfl ts_4 rfl rfl rfl rfl rfl rfl ?_) | refine op (e_store 1 rfl rfl ts_4 rfl rfl rfl rfl rfl rfl ?_) | refine op (e_store 2 rfl rfl ts_4 rfl rfl rfl rfl rfl rfl ?_) | refine op (e_store 3 rfl rfl ts_4 rfl rfl rfl rfl rfl rfl ?_) | refine op (e_store 4 rfl rfl ts_4 rfl rfl rfl rfl rfl rfl ?_) | refine op (e_store 5 rfl rfl ts_4 rfl rfl rfl rfl rfl rfl ?_) | refine op (e_store 6 rfl rfl ts_4 rfl rfl rfl rfl rfl rfl ?_) | refine op (e_store 7 rfl rfl ts_4 rfl rfl rfl rfl rfl rfl ?_) | refine op (e_store 8 rfl rfl ts_4 rfl rfl rfl rfl rfl rfl ?_) | refine op (e_store 9 rfl rfl ts_4 rfl rfl rfl rfl rfl rfl ?_)
              refine nil ?_
              refine n_then ?_
              refine ret ?_
              refine r_in ?_
              refine r_then ?_
              refine r_then ?_
              refine r_in ?_
              refine r_then ?_
              exfalso
              first | omega | grind
            · try simp only [decide_eq_true_eq, decide_eq_false_iff_not, beq_iff_eq, bne_iff_ne, ne_eq, beq_eq_false_iff_ne, bne_eq_false_iff_eq, Bool.not_eq_true', Bool.not_eq_false', Bool.not_eq_true, Bool.not_eq_false, Decidable.not_not, Int.not_lt, Int.not_le] at h20
              refine skip ?_
              refine n_in ?_
              refine n_then ?_
              refine seq ?_
              refine seq ?_
              refine region ?_
              refine op (y (x_load1 ag_3 rfl (by first | assumption | exact Cell.own 0 rfl rfl | exact Cell.own 1 rfl rfl | exact Cell.own 2 rfl rfl | exact Cell.own 3 rfl rfl | exact Cell.own 4 rfl rfl | exact Cell.own 5 rfl rfl | exact Cell.own 6 rfl rfl | exact Cell.own 7 rfl rfl | exact Cell.own 8 rfl rfl | exact Cell.own 9 rfl rfl | exact Cell.ofRo (by assumption))) rfl ?_)
              refine nil ?_
              refine n_then ?_
              refine region ?_
              refine op (e_alloc rfl zc_3 rfl fun b7 => ?_)
              first | refine op (e_store 0 rfl rfl ts_3 rfl rfl rfl rfl rfl rfl ?_) | refine op (e_store 1 rfl rfl ts_3 rfl rfl rfl rfl rfl rfl ?_) | refine op (e_store 2 rfl rfl ts_3 rfl rfl rfl rfl rfl rfl ?_) | refine op (e_store 3 rfl rfl ts_3 rfl rfl rfl rfl rfl rfl ?_) | refine op (e_store 4 rfl rfl ts_3 rfl rfl rfl rfl rfl rfl ?_) | refine op (e_store 5 rfl rfl ts_3 rfl rfl rfl rfl rfl rfl ?_) | refine op (e_store 6 rfl rfl ts_3 rfl rfl rfl rfl rfl rfl ?_) | refine op (e_store 7 rfl rfl ts_3 rfl rfl rfl rfl rfl rfl ?_) | refine op (e_store 8 rfl rfl ts_3 rfl rfl rfl rfl rfl rfl ?_) | refine op (e_store 9 rfl rfl ts_3 rfl rfl rfl rfl rfl rfl ?_)
              refine nil ?_
              refine n_then ?_
              refine region ?_
              refine op (y (x_load1 ag_3 rfl (by first | assumption | exact Cell.own 0 rfl rfl | exact Cell.own 1 rfl rfl | exact Cell.own 2 rfl rfl | exact Cell.own 3 rfl rfl | exact Cell.own 4 rfl rfl | exact Cell.own 5 rfl rfl | exact Cell.own 6 rfl rfl | exact Cell.own 7 rfl rfl | exact Cell.own 8 rfl rfl | exact Cell.own 9 rfl rfl | exact Cell.ofRo (by assumption))) rfl ?_)
              refine op (y (x_add rfl rfl _ (wr (by omega) (by omega))) rfl ?_)
              refine said 29 (.int .i64 ((q + 1 : Nat) : Int)) rfl (by simp) ?_
              first | refine op (e_store 0 rfl rfl ts_3 rfl rfl rfl rfl rfl rfl ?_) | refine op (e_store 1 rfl rfl ts_3 rfl rfl rfl rfl rfl rfl ?_) | refine op (e_store 2 rfl rfl ts_3 rfl rfl rfl rfl rfl rfl ?_) | refine op (e_store 3 rfl rfl ts_3 rfl rfl rfl rfl rfl rfl ?_) | refine op (e_store 4 rfl rfl ts_3 rfl rfl rfl rfl rfl rfl ?_) | refine op (e_store 5 rfl rfl ts_3 rfl rfl rfl rfl rfl rfl ?_) | refine op (e_store 6 rfl rfl ts_3 rfl rfl rfl rfl rfl rfl ?_) | refine op (e_store 7 rfl rfl ts_3 rfl rfl rfl rfl rfl rfl ?_) | refine op (e_store 8 rfl rfl ts_3 rfl rfl rfl rfl rfl rfl ?_) | refine op (e_store 9 rfl rfl ts_3 rfl rfl rfl rfl rfl rfl ?_)
              refine nil ?_
              refine subL _ move4 ?_
              exact roundN (2 - (q + 1)) [(2, .pointer (some ⟨b2, 0, none⟩)), (3, .pointer (some ⟨b3, 0, none⟩)), (4, .pointer (some ⟨b4, 0, none⟩)), (6, .func (.func 46) #[] [.pointer (some ⟨b, 0, none⟩)].toArray), (7, .pointer (some ⟨b7, 0, none⟩))] (by omega) ⟨rfl, rfl, rfl, rfl, rfl, trivial⟩ ⟨q + 1, b7, D :: Dl, rfl, rfl, rfl, rfl, by omega, hro.trans hle5⟩
          · try simp only [decide_eq_true_eq, decide_eq_false_iff_not, beq_iff_eq, bne_iff_ne, ne_eq, beq_eq_false_iff_ne, bne_eq_false_iff_eq, Bool.not_eq_true', Bool.not_eq_false', Bool.not_eq_true, Bool.not_eq_false, Decidable.not_not, Int.not_lt, Int.not_le] at g69
            refine opN rfl rfl rfl rfl ?_
            refine opN rfl rfl rfl rfl ?_
            refine opN rfl rfl rfl rfl ?_
            refine opG rfl rfl (y (x_pickF rfl rfl) rfl ?_)
            refine opG rfl rfl (y (x_not rfl) rfl ?_)
            refine op (y (x_pickT rfl rfl) rfl ?_)
            refine nil ?_
            refine n_then ?_
            refine condT rfl ?_
            refine seq ?_
            refine region ?_
            first | refine op (e_store 0 rfl rfl ts_4 rfl rfl rfl rfl rfl rfl ?_) | refine op (e_store 1 rfl rfl ts_4 rfl rfl rfl rfl rfl rfl ?_) | refine op (e_store 2 rfl rfl ts_4 rfl rfl rfl rfl rfl rfl ?_) | refine op (e_store 3 rfl rfl ts_4 rfl rfl rfl rfl rfl rfl ?_) | refine op (e_store 4 rfl rfl ts_4 rfl rfl rfl rfl rfl rfl ?_) | refine op (e_store 5 rfl rfl ts_4 rfl rfl rfl rfl rfl rfl ?_) | refine op (e_store 6 rfl rfl ts_4 rfl rfl rfl rfl rfl rfl ?_) | refine op (e_store 7 rfl rfl ts_4 rfl rfl rfl rfl rfl rfl ?_) | refine op (e_store 8 rfl rfl ts_4 rfl rfl rfl rfl rfl rfl ?_) | refine op (e_store 9 rfl rfl ts_4 rfl rfl rfl rfl rfl rfl ?_)
            refine nil ?_
            refine n_then ?_
            refine ret ?_
            refine r_in ?_
            refine r_then ?_
            refine r_then ?_
            refine r_in ?_
            refine r_then ?_
            exfalso
            first | omega | grind
        · try simp only [decide_eq_true_eq, decide_eq_false_iff_not, beq_iff_eq, bne_iff_ne, ne_eq, beq_eq_false_iff_ne, bne_eq_false_iff_eq, Bool.not_eq_true', Bool.not_eq_false', Bool.not_eq_true, Bool.not_eq_false, Decidable.not_not, Int.not_lt, Int.not_le] at g66
          refine opN rfl rfl rfl rfl ?_
          refine opN rfl rfl rfl rfl ?_
          refine opN rfl rfl rfl rfl ?_
          refine opU rfl rfl rfl ?_
          refine opU rfl rfl rfl ?_
          refine opU rfl rfl rfl ?_
          refine opN rfl rfl rfl rfl ?_
          refine opN rfl rfl rfl rfl ?_
          refine op (y (x_pickF rfl rfl) rfl ?_)
          refine nil ?_
          refine n_then ?_
          refine condF rfl ?_
          refine skip ?_
          refine n_in ?_
          refine n_then ?_
          refine seq ?_
          refine seq ?_
          refine region ?_
          refine op (y (x_load1 ag_3 rfl (by first | assumption | exact Cell.own 0 rfl rfl | exact Cell.own 1 rfl rfl | exact Cell.own 2 rfl rfl | exact Cell.own 3 rfl rfl | exact Cell.own 4 rfl rfl | exact Cell.own 5 rfl rfl | exact Cell.own 6 rfl rfl | exact Cell.own 7 rfl rfl | exact Cell.own 8 rfl rfl | exact Cell.own 9 rfl rfl | exact Cell.ofRo (by assumption))) rfl ?_)
          refine nil ?_
          refine n_then ?_
          refine region ?_
          refine op (e_alloc rfl zc_3 rfl fun b7 => ?_)
          first | refine op (e_store 0 rfl rfl ts_3 rfl rfl rfl rfl rfl rfl ?_) | refine op (e_store 1 rfl rfl ts_3 rfl rfl rfl rfl rfl rfl ?_) | refine op (e_store 2 rfl rfl ts_3 rfl rfl rfl rfl rfl rfl ?_) | refine op (e_store 3 rfl rfl ts_3 rfl rfl rfl rfl rfl rfl ?_) | refine op (e_store 4 rfl rfl ts_3 rfl rfl rfl rfl rfl rfl ?_) | refine op (e_store 5 rfl rfl ts_3 rfl rfl rfl rfl rfl rfl ?_) | refine op (e_store 6 rfl rfl ts_3 rfl rfl rfl rfl rfl rfl ?_) | refine op (e_store 7 rfl rfl ts_3 rfl rfl rfl rfl rfl rfl ?_) | refine op (e_store 8 rfl rfl ts_3 rfl rfl rfl rfl rfl rfl ?_) | refine op (e_store 9 rfl rfl ts_3 rfl rfl rfl rfl rfl rfl ?_)
          refine nil ?_
          refine n_then ?_
          refine region ?_
          refine op (y (x_load1 ag_3 rfl (by first | assumption | exact Cell.own 0 rfl rfl | exact Cell.own 1 rfl rfl | exact Cell.own 2 rfl rfl | exact Cell.own 3 rfl rfl | exact Cell.own 4 rfl rfl | exact Cell.own 5 rfl rfl | exact Cell.own 6 rfl rfl | exact Cell.own 7 rfl rfl | exact Cell.own 8 rfl rfl | exact Cell.own 9 rfl rfl | exact Cell.ofRo (by assumption))) rfl ?_)
          refine op (y (x_add rfl rfl _ (wr (by omega) (by omega))) rfl ?_)
          refine said 29 (.int .i64 ((q + 1 : Nat) : Int)) rfl (by simp) ?_
          first | refine op (e_store 0 rfl rfl ts_3 rfl rfl rfl rfl rfl rfl ?_) | refine op (e_store 1 rfl rfl ts_3 rfl rfl rfl rfl rfl rfl ?_) | refine op (e_store 2 rfl rfl ts_3 rfl rfl rfl rfl rfl rfl ?_) | refine op (e_store 3 rfl rfl ts_3 rfl rfl rfl rfl rfl rfl ?_) | refine op (e_store 4 rfl rfl ts_3 rfl rfl rfl rfl rfl rfl ?_) | refine op (e_store 5 rfl rfl ts_3 rfl rfl rfl rfl rfl rfl ?_) | refine op (e_store 6 rfl rfl ts_3 rfl rfl rfl rfl rfl rfl ?_) | refine op (e_store 7 rfl rfl ts_3 rfl rfl rfl rfl rfl rfl ?_) | refine op (e_store 8 rfl rfl ts_3 rfl rfl rfl rfl rfl rfl ?_) | refine op (e_store 9 rfl rfl ts_3 rfl rfl rfl rfl rfl rfl ?_)
          refine nil ?_
          refine subL _ move4 ?_
          exact roundN (2 - (q + 1)) [(2, .pointer (some ⟨b2, 0, none⟩)), (3, .pointer (some ⟨b3, 0, none⟩)), (4, .pointer (some ⟨b4, 0, none⟩)), (6, .func (.func 46) #[] [.pointer (some ⟨b, 0, none⟩)].toArray), (7, .pointer (some ⟨b7, 0, none⟩))] (by omega) ⟨rfl, rfl, rfl, rfl, rfl, trivial⟩ ⟨q + 1, b7, D :: Dl, rfl, rfl, rfl, rfl, by omega, hro.trans hle5⟩
      · skip
        obtain ⟨rfl, i8, hq0, hs8, rfl⟩ := hs5
        have hfin : i8 = h.es.length + 1 ∨ (q = 0 ∧ (i8 : Int) = stop) := .inr ⟨hq0, hs8⟩
        refine exit ?_
        refine e_in ?_
        refine n_then ?_
        refine seq ?_
        refine region ?_
        refine op (y (x_load1 ag_3 rfl (by first | assumption | exact Cell.own 0 rfl rfl | exact Cell.own 1 rfl rfl | exact Cell.own 2 rfl rfl | exact Cell.own 3 rfl rfl | exact Cell.own 4 rfl rfl | exact Cell.own 5 rfl rfl | exact Cell.own 6 rfl rfl | exact Cell.own 7 rfl rfl | exact Cell.own 8 rfl rfl | exact Cell.own 9 rfl rfl | exact Cell.ofRo (by assumption))) rfl ?_)
        refine op (y (x_fieldAddr fo_25_1 rfl) rfl ?_)
        refine op (y (x_load1 ag_23 rfl (by first | assumption | exact Cell.own 0 rfl rfl | exact Cell.own 1 rfl rfl | exact Cell.own 2 rfl rfl | exact Cell.own 3 rfl rfl | exact Cell.own 4 rfl rfl | exact Cell.own 5 rfl rfl | exact Cell.own 6 rfl rfl | exact Cell.own 7 rfl rfl | exact Cell.own 8 rfl rfl | exact Cell.own 9 rfl rfl | exact Cell.ofRo (by assumption))) rfl ?_)
        refine op (y (x_lenSl sz_23 rfl) rfl ?_)
        refine op (y (x_add rfl rfl _ (wr (by omega) (by omega))) rfl ?_)
        refine op (y (x_neq rfl rfl) rfl ?_)
        refine op (y (x_move rfl) rfl ?_)
        refine bsplit 66 rfl (fun g66 => ?_) (fun g66 => ?_)
        · try simp only [decide_eq_true_eq, decide_eq_false_iff_not, beq_iff_eq, bne_iff_ne, ne_eq, beq_eq_false_iff_ne, bne_eq_false_iff_eq, Bool.not_eq_true', Bool.not_eq_false', Bool.not_eq_true, Bool.not_eq_false, Decidable.not_not, Int.not_lt, Int.not_le] at g66
          refine opG rfl rfl (y (x_load1 ag_3 rfl (by first | assumption | exact Cell.own 0 rfl rfl | exact Cell.own 1 rfl rfl | exact Cell.own 2 rfl rfl | exact Cell.own 3 rfl rfl | exact Cell.own 4 rfl rfl | exact Cell.own 5 rfl rfl | exact Cell.own 6 rfl rfl | exact Cell.own 7 rfl rfl | exact Cell.own 8 rfl rfl | exact Cell.own 9 rfl rfl | exact Cell.ofRo (by assumption))) rfl ?_)
          refine opG rfl rfl (y (x_eql rfl rfl) rfl ?_)
          refine opG rfl rfl (y (x_move rfl) rfl ?_)
          refine bsplit 69 rfl (fun g69 => ?_) (fun g69 => ?_)
          · try simp only [decide_eq_true_eq, decide_eq_false_iff_not, beq_iff_eq, bne_iff_ne, ne_eq, beq_eq_false_iff_ne, bne_eq_false_iff_eq, Bool.not_eq_true', Bool.not_eq_false', Bool.not_eq_true, Bool.not_eq_false, Decidable.not_not, Int.not_lt, Int.not_le] at g69
            refine opG rfl rfl (y (x_load1 ag_3 rfl (Cell.own 1 rfl rfl)) rfl ?_)
            refine opG rfl rfl (y (x_load1 ag_3 rfl (by first | assumption | exact Cell.own 0 rfl rfl | exact Cell.own 1 rfl rfl | exact Cell.own 2 rfl rfl | exact Cell.own 3 rfl rfl | exact Cell.own 4 rfl rfl | exact Cell.own 5 rfl rfl | exact Cell.own 6 rfl rfl | exact Cell.own 7 rfl rfl | exact Cell.own 8 rfl rfl | exact Cell.own 9 rfl rfl | exact Cell.ofRo (by assumption))) rfl ?_)
            refine opG rfl rfl (y (x_eql rfl rfl) rfl ?_)
            refine opG rfl rfl (y (x_pickT rfl rfl) rfl ?_)
            refine opG rfl rfl (y (x_not rfl) rfl ?_)
            refine op (y (x_pickT rfl rfl) rfl ?_)
            refine nil ?_
            refine n_then ?_
            refine cond rfl (fun h20 => ?_) (fun h20 => ?_)
            · try simp only [decide_eq_true_eq, decide_eq_false_iff_not, beq_iff_eq, bne_iff_ne, ne_eq, beq_eq_false_iff_ne, bne_eq_false_iff_eq, Bool.not_eq_true', Bool.not_eq_false', Bool.not_eq_true, Bool.not_eq_false, Decidable.not_not, Int.not_lt, Int.not_le] at h20
              refine seq ?_
              refine region ?_
              first | refine op (e_store 0 rfl rfl ts_4 rfl rfl rfl rfl rfl rfl ?_) | refine op (e_store 1 rfl rfl ts_4 rfl rfl rfl rfl rfl rfl ?_) | refine op (e_store 2 rfl rfl ts_4 rfl rfl rfl rfl rfl rfl ?_) | refine op (e_store 3 rfl rfl ts_4 rfl rfl rfl rfl rfl rfl ?_) | refine op (e_store 4 rfl rfl ts_4 rfl rfl rfl rfl rfl rfl ?_) | refine op (e_store 5 rfl rfl ts_4 rfl rfl rfl rfl rfl rfl ?_) | refine op (e_store 6 rfl rfl ts_4 rfl rfl rfl rfl rfl rfl ?_) | refine op (e_store 7 rfl rfl ts_4 rfl rfl rfl rfl rfl rfl ?_) | refine op (e_store 8 rfl rfl ts_4 rfl rfl rfl rfl rfl rfl ?_) | refine op (e_store 9 rfl rfl ts_4 rfl rfl rfl rfl rfl rfl ?_)
              refine nil ?_
              refine n_then ?_
              refine ret ?_
              refine r_in ?_
              refine r_then ?_
              refine r_then ?_
              refine r_in ?_
              refine r_then ?_
              exfalso
              first | omega | grind
            · try simp only [decide_eq_true_eq, decide_eq_false_iff_not, beq_iff_eq, bne_iff_ne, ne_eq, beq_eq_false_iff_ne, bne_eq_false_iff_eq, Bool.not_eq_true', Bool.not_eq_false', Bool.not_eq_true, Bool.not_eq_false, Decidable.not_not, Int.not_lt, Int.not_le] at h20
              refine skip ?_
              refine n_in ?_
              refine n_then ?_
              refine seq ?_
              refine seq ?_
              refine region ?_
              refine op (y (x_load1 ag_3 rfl (by first | assumption | exact Cell.own 0 rfl rfl | exact Cell.own 1 rfl rfl | exact Cell.own 2 rfl rfl | exact Cell.own 3 rfl rfl | exact Cell.own 4 rfl rfl | exact Cell.own 5 rfl rfl | exact Cell.own 6 rfl rfl | exact Cell.own 7 rfl rfl | exact Cell.own 8 rfl rfl | exact Cell.own 9 rfl rfl | exact Cell.ofRo (by assumption))) rfl ?_)
              refine nil ?_
              refine n_then ?_
              refine region ?_
              refine op (e_alloc rfl zc_3 rfl fun b7 => ?_)
              first | refine op (e_store 0 rfl rfl ts_3 rfl rfl rfl rfl rfl rfl ?_) | refine op (e_store 1 rfl rfl ts_3 rfl rfl rfl rfl rfl rfl ?_) | refine op (e_store 2 rfl rfl ts_3 rfl rfl rfl rfl rfl rfl ?_) | refine op (e_store 3 rfl rfl ts_3 rfl rfl rfl rfl rfl rfl ?_) | refine op (e_store 4 rfl rfl ts_3 rfl rfl rfl rfl rfl rfl ?_) | refine op (e_store 5 rfl rfl ts_3 rfl rfl rfl rfl rfl rfl ?_) | refine op (e_store 6 rfl rfl ts_3 rfl rfl rfl rfl rfl rfl ?_) | refine op (e_store 7 rfl rfl ts_3 rfl rfl rfl rfl rfl rfl ?_) | refine op (e_store 8 rfl rfl ts_3 rfl rfl rfl rfl rfl rfl ?_) | refine op (e_store 9 rfl rfl ts_3 rfl rfl rfl rfl rfl rfl ?_)
              refine nil ?_
              refine n_then ?_
              refine region ?_
              refine op (y (x_load1 ag_3 rfl (by first | assumption | exact Cell.own 0 rfl rfl | exact Cell.own 1 rfl rfl | exact Cell.own 2 rfl rfl | exact Cell.own 3 rfl rfl | exact Cell.own 4 rfl rfl | exact Cell.own 5 rfl rfl | exact Cell.own 6 rfl rfl | exact Cell.own 7 rfl rfl | exact Cell.own 8 rfl rfl | exact Cell.own 9 rfl rfl | exact Cell.ofRo (by assumption))) rfl ?_)
              refine op (y (x_add rfl rfl _ (wr (by omega) (by omega))) rfl ?_)
              refine said 29 (.int .i64 ((q + 1 : Nat) : Int)) rfl (by simp) ?_
              first | refine op (e_store 0 rfl rfl ts_3 rfl rfl rfl rfl rfl rfl ?_) | refine op (e_store 1 rfl rfl ts_3 rfl rfl rfl rfl rfl rfl ?_) | refine op (e_store 2 rfl rfl ts_3 rfl rfl rfl rfl rfl rfl ?_) | refine op (e_store 3 rfl rfl ts_3 rfl rfl rfl rfl rfl rfl ?_) | refine op (e_store 4 rfl rfl ts_3 rfl rfl rfl rfl rfl rfl ?_) | refine op (e_store 5 rfl rfl ts_3 rfl rfl rfl rfl rfl rfl ?_) | refine op (e_store 6 rfl rfl ts_3 rfl rfl rfl rfl rfl rfl ?_) | refine op (e_store 7 rfl rfl ts_3 rfl rfl rfl rfl rfl rfl ?_) | refine op (e_store 8 rfl rfl ts_3 rfl rfl rfl rfl rfl rfl ?_) | refine op (e_store 9 rfl rfl ts_3 rfl rfl rfl rfl rfl rfl ?_)
              refine nil ?_
              refine subL _ move4 ?_
              exact roundN (2 - (q + 1)) [(2, .pointer (some ⟨b2, 0, none⟩)), (3, .pointer (some ⟨b3, 0, none⟩)), (4, .pointer (some ⟨b4, 0, none⟩)), (6, .func (.func 46) #[] [.pointer (some ⟨b, 0, none⟩)].toArray), (7, .pointer (some ⟨b7, 0, none⟩))] (by omega) ⟨rfl, rfl, rfl, rfl, rfl, trivial⟩ ⟨q + 1, b7, D :: Dl, rfl, rfl, rfl, rfl, by omega, hro.trans hle5⟩
          · try simp only [decide_eq_true_eq, decide_eq_false_iff_not, beq_iff_eq, bne_iff_ne, ne_eq, beq_eq_false_iff_ne, bne_eq_false_iff_eq, Bool.not_eq_true', Bool.not_eq_false', Bool.not_eq_true, Bool.not_eq_false, Decidable.not_not, Int.not_lt, Int.not_le] at g69
            refine opN rfl rfl rfl rfl ?_
            refine opN rfl rfl rfl rfl ?_
            refine opN rfl rfl rfl rfl ?_
            refine opG rfl rfl (y (x_pickF rfl rfl) rfl ?_)
            refine opG rfl rfl (y (x_not rfl) rfl ?_)
            refine op (y (x_pickT rfl rfl) rfl ?_)
            refine nil ?_
            refine n_then ?_
            refine condT rfl ?_
            refine seq ?_
            refine region ?_
            first | refine op (e_store 0 rfl rfl ts_4 rfl rfl rfl rfl rfl rfl ?_) | refine op (e_store 1 rfl rfl ts_4 rfl rfl rfl rfl rfl rfl ?_) | refine op (e_store 2 rfl rfl ts_4 rfl rfl rfl rfl rfl rfl ?_) | refine op (e_store 3 rfl rfl ts_4 rfl rfl rfl rfl rfl rfl ?_) | refine op (e_store 4 rfl rfl ts_4 rfl rfl rfl rfl rfl rfl ?_) | refine op (e_store 5 rfl rfl ts_4 rfl rfl rfl rfl rfl rfl ?_) | refine op (e_store 6 rfl rfl ts_4 rfl rfl rfl rfl rfl rfl ?_) | refine op (e_store 7 rfl rfl ts_4 rfl rfl rfl rfl rfl rfl ?_) | refine op (e_store 8 rfl rfl ts_4 rfl rfl rfl rfl rfl rfl ?_) | refine op (e_store 9 rfl rfl ts_4 rfl rfl rfl rfl rfl rfl ?_)
            refine nil ?_
            refine n_then ?_
            refine ret ?_
            refine r_in ?_
            refine r_then ?_
            refine r_then ?_
            refine r_in ?_
            refine r_then ?_
            exfalso
            first | omega | grind
        · try simp only [decide_eq_true_eq, decide_eq_false_iff_not, beq_iff_eq, bne_iff_ne, ne_eq, beq_eq_false_iff_ne, bne_eq_false_iff_eq, Bool.not_eq_true', Bool.not_eq_false', Bool.not_eq_true, Bool.not_eq_false, Decidable.not_not, Int.not_lt, Int.not_le] at g66
          refine opN rfl rfl rfl rfl ?_
          refine opN rfl rfl rfl rfl ?_
          refine opN rfl rfl rfl rfl ?_
          refine opU rfl rfl rfl ?_
          refine opU rfl rfl rfl ?_
          refine opU rfl rfl rfl ?_
          refine opN rfl rfl rfl rfl ?_
          refine opN rfl rfl rfl rfl ?_
          refine op (y (x_pickF rfl rfl) rfl ?_)
          refine nil ?_
          refine n_then ?_
          refine condF rfl ?_
          refine skip ?_
          refine n_in ?_
          refine n_then ?_
          refine seq ?_
          refine seq ?_
          refine region ?_
          refine op (y (x_load1 ag_3 rfl (by first | assumption | exact Cell.own 0 rfl rfl | exact Cell.own 1 rfl rfl | exact Cell.own 2 rfl rfl | exact Cell.own 3 rfl rfl | exact Cell.own 4 rfl rfl | exact Cell.own 5 rfl rfl | exact Cell.own 6 rfl rfl | exact Cell.own 7 rfl rfl | exact Cell.own 8 rfl rfl | exact Cell.own 9 rfl rfl | exact Cell.ofRo (by assumption))) rfl ?_)
          refine nil ?_
          refine n_then ?_
          refine region ?_
          refine op (e_alloc rfl zc_3 rfl fun b7 => ?_)
          first | refine op (e_store 0 rfl rfl ts_3 rfl rfl rfl rfl rfl rfl ?_) | refine op (e_store 1 rfl rfl ts_3 rfl rfl rfl rfl rfl rfl ?_) | refine op (e_store 2 rfl rfl ts_3 rfl rfl rfl rfl rfl rfl ?_) | refine op (e_store 3 rfl rfl ts_3 rfl rfl rfl rfl rfl rfl ?_) | refine op (e_store 4 rfl rfl ts_3 rfl rfl rfl rfl rfl rfl ?_) | refine op (e_store 5 rfl rfl ts_3 rfl rfl rfl rfl rfl rfl ?_) | refine op (e_store 6 rfl rfl ts_3 rfl rfl rfl rfl rfl rfl ?_) | refine op (e_store 7 rfl rfl ts_3 rfl rfl rfl rfl rfl rfl ?_) | refine op (e_store 8 rfl rfl ts_3 rfl rfl rfl rfl rfl rfl ?_) | refine op (e_store 9 rfl rfl ts_3 rfl rfl rfl rfl rfl rfl ?_)
          refine nil ?_
          refine n_then ?_
          refine region ?_
          refine op (y (x_load1 ag_3 rfl (by first | assumption | exact Cell.own 0 rfl rfl | exact Cell.own 1 rfl rfl | exact Cell.own 2 rfl rfl | exact Cell.own 3 rfl rfl | exact Cell.own 4 rfl rfl | exact Cell.own 5 rfl rfl | exact Cell.own 6 rfl rfl | exact Cell.own 7 rfl rfl | exact Cell.own 8 rfl rfl | exact Cell.own 9 rfl rfl | exact Cell.ofRo (by assumption))) rfl ?_)
          refine op (y (x_add rfl rfl _ (wr (by omega) (by omega))) rfl ?_)
          refine said 29 (.int .i64 ((q + 1 : Nat) : Int)) rfl (by simp) ?_
          first | refine op (e_store 0 rfl rfl ts_3 rfl rfl rfl rfl rfl rfl ?_) | refine op (e_store 1 rfl rfl ts_3 rfl rfl rfl rfl rfl rfl ?_) | refine op (e_store 2 rfl rfl ts_3 rfl rfl rfl rfl rfl rfl ?_) | refine op (e_store 3 rfl rfl ts_3 rfl rfl rfl rfl rfl rfl ?_) | refine op (e_store 4 rfl rfl ts_3 rfl rfl rfl rfl rfl rfl ?_) | refine op (e_store 5 rfl rfl ts_3 rfl rfl rfl rfl rfl rfl ?_) | refine op (e_store 6 rfl rfl ts_3 rfl rfl rfl rfl rfl rfl ?_) | refine op (e_store 7 rfl rfl ts_3 rfl rfl rfl rfl rfl rfl ?_) | refine op (e_store 8 rfl rfl ts_3 rfl rfl rfl rfl rfl rfl ?_) | refine op (e_store 9 rfl rfl ts_3 rfl rfl rfl rfl rfl rfl ?_)
          refine nil ?_
          refine subL _ move4 ?_
          exact roundN (2 - (q + 1)) [(2, .pointer (some ⟨b2, 0, none⟩)), (3, .pointer (some ⟨b3, 0, none⟩)), (4, .pointer (some ⟨b4, 0, none⟩)), (6, .func (.func 46) #[] [.pointer (some ⟨b, 0, none⟩)].toArray), (7, .pointer (some ⟨b7, 0, none⟩))] (by omega) ⟨rfl, rfl, rfl, rfl, rfl, trivial⟩ ⟨q + 1, b7, D :: Dl, rfl, rfl, rfl, rfl, by omega, hro.trans hle5⟩
    · try simp only [decide_eq_true_eq, decide_eq_false_iff_not, beq_iff_eq, bne_iff_ne, ne_eq, beq_eq_false_iff_ne, bne_eq_false_iff_eq, Bool.not_eq_true', Bool.not_eq_false', Bool.not_eq_true, Bool.not_eq_false, Decidable.not_not, Int.not_lt, Int.not_le] at h10
      refine exit ?_
      refine e_then ?_
      refine e_then ?_
      refine e_in ?_
      refine n_then ?_
      refine seq ?_
      obtain rfl : q = 2 := by omega
      refine region ?_
      first | refine op (e_store 0 rfl rfl ts_4 rfl rfl rfl rfl rfl rfl ?_) | refine op (e_store 1 rfl rfl ts_4 rfl rfl rfl rfl rfl rfl ?_) | refine op (e_store 2 rfl rfl ts_4 rfl rfl rfl rfl rfl rfl ?_) | refine op (e_store 3 rfl rfl ts_4 rfl rfl rfl rfl rfl rfl ?_) | refine op (e_store 4 rfl rfl ts_4 rfl rfl rfl rfl rfl rfl ?_) | refine op (e_store 5 rfl rfl ts_4 rfl rfl rfl rfl rfl rfl ?_) | refine op (e_store 6 rfl rfl ts_4 rfl rfl rfl rfl rfl rfl ?_) | refine op (e_store 7 rfl rfl ts_4 rfl rfl rfl rfl rfl rfl ?_) | refine op (e_store 8 rfl rfl ts_4 rfl rfl rfl rfl rfl rfl ?_) | refine op (e_store 9 rfl rfl ts_4 rfl rfl rfl rfl rfl rfl ?_)
      refine nil ?_
      refine n_then ?_
      refine ret ?_
      exact (doneD (L0 := [(b4, Obj.cells [Value.bool true].toArray 4 (0, 0))] :: L) ⟨_, move5, List.sublist_append_right _ _⟩ rfl (Res.cell1 ag_4 rfl (Cell.own 0 rfl rfl) .nil) (hle11.trans (hle23.trans hro)) L (subF (by (repeat (first | exact List.Sublist.refl _ | apply List.Sublist.cons_cons | apply List.Sublist.cons)); done)) ⟨rfl, rfl⟩).1

end Go.Proofs.YtijafcilfefafaaDoor
