/- The walk of the statement on mapped graphs. -/
import Derived.Test.YtlmeblhcipkgmaaG29
namespace Go.Proofs.Ytlmeblhcipkgmaa
open Go Go.U
set_option maxRecDepth 20000
set_option linter.unusedSimpArgs false
set_option linter.unusedVariables false

open Go.RowKit
theorem putI_in {l : List Int} (h : l.Pairwise (· < ·)) {a : Int} (ha : a ∈ l) : ∀ z, z ∈ putI l a ↔ z ∈ l := fun z => by
  rw [mem_putI]; exact ⟨fun h2 => by rcases h2 with rfl | h2 <;> assumption, .inr⟩

theorem GraphMaps_c (l : List Ed) (A : Option Addr) (cap : Nat) (o : List Int) (B : Option Addr) (capo : Nat) (by_ : Int) (ro : Ro) (L : List (List Blk)) (hl : Sl ro 3 encEdge A cap l) (ho : Sl ro 1 encInt B capo o) (h64 : ∀ e ∈ l, I64 e.1 ∧ I64 e.2.1 ∧ I64 e.2.2) (ho64 : ∀ e ∈ o, I64 e) :
    CT Try.prog 13 [.slice A l.length cap, .slice B o.length capo, .int .i64 by_].toArray ro L (PV (.bool true) L) := by
  have hcap : l.length ≤ 9223372036854775807 := by have := hl.1; have := hl.2.1; unfold maxLen at this; omega
  have hcapo : o.length ≤ 9223372036854775807 := by have := ho.1; have := ho.2.1; unfold maxLen at this; omega
  refine enter Try.func13 rfl Try.ntmps13 rfl ?_
  have hkb := kb_lt by_
  refine seq ?_
  refine region ?_
  refine op (e_box rfl rfl rfl fun b5 => ?_)
  refine op (y (x_assign rfl) rfl ?_)
  refine nil ?_
  refine n_then ?_
  refine seq ?_
  refine region ?_
  refine op (e_call rfl fn_44 rfl rfl (GFirst_c _ _) fun v19 ro19 L19 hle19 hp19 => ?_)
  obtain ⟨rfl, rfl⟩ := hp19
  have hl1 := hl.mono hle19
  have ho1 := ho.mono hle19
  refine op (y (x_assign rfl) rfl ?_)
  refine nil ?_
  refine n_then ?_
  refine seq ?_
  refine seq ?_
  refine region ?_
  refine op (y (x_move rfl) rfl ?_)
  refine op (y (x_not rfl) rfl ?_)
  refine nil ?_
  refine n_then ?_
  refine condF rfl ?_
  refine skip ?_
  refine n_then ?_
  refine seq ?_
  refine seq ?_
  refine region ?_
  refine op (y (x_move rfl) rfl ?_)
  refine op (y (x_lenSl sz_59 rfl) rfl ?_)
  refine op (y (x_gtr rfl rfl) rfl ?_)
  refine op (y (x_move rfl) rfl ?_)
  refine bsplit 25 rfl (fun g25 => ?_) (fun g25 => ?_)
  · try simp only [decide_eq_true_eq, decide_eq_false_iff_not, beq_iff_eq, bne_iff_ne, ne_eq, beq_eq_false_iff_ne, bne_eq_false_iff_eq, Bool.not_eq_true', Bool.not_eq_false', Bool.not_eq_true, Bool.not_eq_false, Decidable.not_not, Int.not_lt, Int.not_le] at g25
    refine opN rfl rfl rfl rfl ?_
    refine opN rfl rfl rfl rfl ?_
    refine opN rfl rfl rfl rfl ?_
    refine op (y (x_pickT rfl rfl) rfl ?_)
    refine op (y (x_move rfl) rfl ?_)
    refine opN rfl rfl rfl rfl ?_
    refine opN rfl rfl rfl rfl ?_
    refine op (y (x_pickT rfl rfl) rfl ?_)
    refine nil ?_
    refine n_then ?_
    refine condT rfl ?_
    refine seq ?_
    refine region ?_
    refine op (y (x_move rfl) rfl ?_)
    refine op (y (x_assign rfl) rfl ?_)
    refine nil ?_
    refine n_then ?_
    refine ret ?_
    refine r_then ?_
    refine drop0 ?_
    exact done rfl (.tmp rfl (.nil)) (hle19) (L) (⟨_, .refl _, .refl _⟩) (⟨rfl, rfl⟩)
  · try simp only [decide_eq_true_eq, decide_eq_false_iff_not, beq_iff_eq, bne_iff_ne, ne_eq, beq_eq_false_iff_ne, bne_eq_false_iff_eq, Bool.not_eq_true', Bool.not_eq_false', Bool.not_eq_true, Bool.not_eq_false, Decidable.not_not, Int.not_lt, Int.not_le] at g25
    refine opG rfl rfl (y (x_move rfl) rfl ?_)
    refine opG rfl rfl (y (x_lenSl sz_23 rfl) rfl ?_)
    refine opG rfl rfl (y (x_gtr rfl rfl) rfl ?_)
    refine op (y (x_pickF rfl rfl) rfl ?_)
    refine op (y (x_move rfl) rfl ?_)
    refine bsplit 30 rfl (fun g30 => ?_) (fun g30 => ?_)
    · try simp only [decide_eq_true_eq, decide_eq_false_iff_not, beq_iff_eq, bne_iff_ne, ne_eq, beq_eq_false_iff_ne, bne_eq_false_iff_eq, Bool.not_eq_true', Bool.not_eq_false', Bool.not_eq_true, Bool.not_eq_false, Decidable.not_not, Int.not_lt, Int.not_le] at g30
      refine opN rfl rfl rfl rfl ?_
      refine opN rfl rfl rfl rfl ?_
      refine op (y (x_pickT rfl rfl) rfl ?_)
      refine nil ?_
      refine n_then ?_
      refine condT rfl ?_
      refine seq ?_
      refine region ?_
      refine op (y (x_move rfl) rfl ?_)
      refine op (y (x_assign rfl) rfl ?_)
      refine nil ?_
      refine n_then ?_
      refine ret ?_
      refine r_then ?_
      refine drop0 ?_
      exact done rfl (.tmp rfl (.nil)) (hle19) (L) (⟨_, .refl _, .refl _⟩) (⟨rfl, rfl⟩)
    · try simp only [decide_eq_true_eq, decide_eq_false_iff_not, beq_iff_eq, bne_iff_ne, ne_eq, beq_eq_false_iff_ne, bne_eq_false_iff_eq, Bool.not_eq_true', Bool.not_eq_false', Bool.not_eq_true, Bool.not_eq_false, Decidable.not_not, Int.not_lt, Int.not_le] at g30
      refine opG rfl rfl (y (x_move rfl) rfl ?_)
      refine opG rfl rfl (y (x_not rfl) rfl ?_)
      refine op (y (x_pickF rfl rfl) rfl ?_)
      refine nil ?_
      refine n_then ?_
      refine condF rfl ?_
      refine skip ?_
      refine n_then ?_
      refine seq ?_
      refine region ?_
      refine op (y (x_move rfl) rfl ?_)
      refine op (y (x_move rfl) rfl ?_)
      refine op (e_call rfl fn_45 rfl rfl (GMade_c l _ _ o _ _ _ _ hl1 ho1 (by omega) (by omega) h64 ho64) fun v38 ro38 L38 hle38 hp38 => ?_)
      obtain ⟨x, R, A2, cap2, B2, cap3, rfl, hR, hA2, hB2, hLL⟩ := hp38
      subst hLL
      obtain ⟨hs1, hs2, hs3⟩ := mkE_spec l l.length (Nat.le_refl _)
      rw [List.take_length] at hs1 hs2 hs3
      obtain ⟨hq1, hq2, hq3⟩ := mkN_spec l o o.length (Nat.le_refl _)
      rw [List.take_length] at hq1 hq2 hq3
      have hNO : ∀ u w, w ∈ Ob (mkE l) u → u ∈ mkN l o := fun u w h => by
        obtain ⟨c, hc⟩ := mem_Ob.1 h
        exact (hq3 u).2 (.inr ⟨_, (hs3 _).1 hc, .inl rfl⟩)
      have hNO2 : ∀ u w, w ∈ Ob (mkE l) u → w ∈ mkN l o := fun u w h => by
        obtain ⟨c, hc⟩ := mem_Ob.1 h
        exact (hq3 w).2 (.inr ⟨_, (hs3 _).1 hc, .inr rfl⟩)
      have hl2 := hl1.mono hle38
      have ho2 := ho1.mono hle38
      generalize mkN l o = N at *
      generalize mkE l = E at *
      have hNn := nodup_lt hq1
      have hE2 : ∀ e ∈ E, e.2.1 ∈ N := fun e he => hNO2 e.1 e.2.1 (mem_Ob.2 ⟨e.2.2, he⟩)
      have h64N : ∀ u ∈ N, I64 u := fun u hu => RelG.i64N hR hu
      refine op (y (x_move rfl) rfl ?_)
      refine op (y (x_extract rfl rfl) rfl ?_)
      refine op (y (x_extract rfl rfl) rfl ?_)
      refine op (e_alloc rfl zc_63 rfl fun b9 => ?_)
      refine op (y (x_assign rfl) rfl ?_)
      first | refine op (e_store 0 rfl rfl ts_63 rfl rfl rfl rfl rfl rfl ?_) | refine op (e_store 1 rfl rfl ts_63 rfl rfl rfl rfl rfl rfl ?_) | refine op (e_store 2 rfl rfl ts_63 rfl rfl rfl rfl rfl rfl ?_) | refine op (e_store 3 rfl rfl ts_63 rfl rfl rfl rfl rfl rfl ?_) | refine op (e_store 4 rfl rfl ts_63 rfl rfl rfl rfl rfl rfl ?_) | refine op (e_store 5 rfl rfl ts_63 rfl rfl rfl rfl rfl rfl ?_)
      refine nil ?_
      refine n_then ?_
      refine seq ?_
      refine seq ?_
      refine region ?_
      refine op (y (x_move rfl) rfl ?_)
      refine op (y (x_ptrEqNil Try.underlying60 rfl rfl) rfl ?_)
      refine nil ?_
      refine n_then ?_
      refine condF rfl ?_
      refine skip ?_
      refine n_then ?_
      refine seq ?_
      refine region ?_
      refine op (y (x_load1 ag_3 rfl (Cell.own 2 rfl rfl)) rfl ?_)
      refine op (y (x_and rfl rfl ((kb by_ : Nat) : Int) (kb_wrap by_)) rfl ?_)
      refine op (y (x_add rfl rfl _ (wr (by omega) (by omega))) rfl ?_)
      first | refine op (e_store 0 rfl rfl ts_3 rfl rfl rfl rfl rfl rfl ?_) | refine op (e_store 1 rfl rfl ts_3 rfl rfl rfl rfl rfl rfl ?_) | refine op (e_store 2 rfl rfl ts_3 rfl rfl rfl rfl rfl rfl ?_) | refine op (e_store 3 rfl rfl ts_3 rfl rfl rfl rfl rfl rfl ?_) | refine op (e_store 4 rfl rfl ts_3 rfl rfl rfl rfl rfl rfl ?_) | refine op (e_store 5 rfl rfl ts_3 rfl rfl rfl rfl rfl rfl ?_)
      refine nil ?_
      refine n_then ?_
      refine seq ?_
      have hd1 : 1 ≤ ((kb by_ : Nat) : Int) + 1 := by omega
      generalize ((kb by_ : Nat) : Int) + 1 = d at *
      refine region ?_
      refine op (e_alloc rfl zc_23 rfl fun b10 => ?_)
      refine nil ?_
      refine n_then ?_
      refine seq ?_
      refine region ?_
      refine op (y (x_move rfl) rfl ?_)
      refine op (y (x_makeFunc rfl rfl) rfl ?_)
      refine subL (((b10, .cells [.slice none 0 0].toArray 23 (0, 0)) :: (b5, .cells [.int .i64 d].toArray 3 (0, 0)) :: []) :: [(b9, .cells [.slice A2 N.length cap2, .slice B2 E.length cap3].toArray 63 (0, 0))] :: R :: L) ⟨_, by
        simp only [List.flatten_cons, List.cons_append, List.nil_append]
        exact ((List.perm_middle (a := (b5, Obj.cells [.int .i64 d].toArray 3 (0, 0))) (l₁ := (b9, Obj.cells [.slice A2 N.length cap2, .slice B2 E.length cap3].toArray 63 (0, 0)) :: R) (l₂ := L.flatten)).symm.cons _), .refl _⟩ ?_
      refine op (e_call rfl fn_70 rfl rfl (GrMap_c x N E R _ _ hR (by simp) hq1 (by omega) (by omega) hE2 71 fn_71 [.pointer (some ⟨b10, 0, none⟩), .pointer (some ⟨b5, 0, none⟩)] (fun a => a.tdiv d) (QD b10 b5 d) _ ⟨none, 0, [], OwnS.none_ 3 1, rfl⟩ (Div_cb hd1 h64N) (fun u hu => tdiv_i64 (h64N u hu) hd1)) fun v48 ro48 L48 hle48 hp48 => ?_)
      obtain ⟨x2, R2, RS2, rfl, hm2, ⟨A10, cap10, Ra, hO10, rfl⟩, hLL48⟩ := hp48
      subst hLL48
      refine subL (Ra :: [(b10, .cells [.slice A10 N.length cap10].toArray 23 (0, 0))] :: [(b5, .cells [.int .i64 d].toArray 3 (0, 0))] :: R2 :: [(b9, .cells [.slice A2 N.length cap2, .slice B2 E.length cap3].toArray 63 (0, 0))] :: R :: L) ⟨_, by
        simp only [List.flatten_cons, List.cons_append, List.nil_append]
        exact (List.perm_append_comm_assoc Ra [_, _] _).trans (((List.perm_append_comm_assoc Ra R2 _).append_left [_, _]).trans (List.perm_append_comm_assoc [_, _] R2 _)), .refl _⟩ ?_
      refine ufreeze fun ro48x hle48x hR48 => ?_
      have hAs0 := OwnS.sl hO10 (fun _ _ => rfl) hR48
      have hA3 := (hA2.mono hle48).mono hle48x
      have hB3 := (hB2.mono hle48).mono hle48x
      refine op (y (x_assign rfl) rfl ?_)
      refine nil ?_
      refine n_then ?_
      refine seq ?_
      refine region ?_
      refine op (e_alloc rfl zc_63 rfl fun b12 => ?_)
      refine nil ?_
      refine n_then ?_
      refine seq ?_
      refine seq ?_
      refine region ?_
      refine op (y (x_assign rfl) rfl ?_)
      refine nil ?_
      refine n_then ?_
      refine block ?_
      refine loop (fun m F ro' L' => ∃ (i : Nat) (WN : List Int) (A12 : Option Addr) (cap12 : Nat) (B12 : Option Addr) (cap13 : Nat), (m = N.length - i) ∧ (F = [(5, .pointer (some ⟨b5, 0, none⟩)), (8, .pointer (some ⟨x, 0, none⟩)), (9, .pointer (some ⟨b9, 0, none⟩)), (10, .pointer (some ⟨b10, 0, none⟩)), (11, .pointer (some ⟨x2, 0, none⟩)), (12, .pointer (some ⟨b12, 0, none⟩)), (13, .int .i64 (i : Nat))]) ∧ (L' = [(b12, .cells [.slice A12 WN.length cap12, .slice B12 0 cap13].toArray 63 (0, 0))] :: [(b10, .cells [.slice A10 N.length cap10].toArray 23 (0, 0))] :: [(b5, .cells [.int .i64 d].toArray 3 (0, 0))] :: R2 :: [(b9, .cells [.slice A2 N.length cap2, .slice B2 E.length cap3].toArray 63 (0, 0))] :: R :: L) ∧ (i ≤ N.length) ∧ (ro48x.le ro') ∧ (Sl ro' 1 encInt A2 cap2 N) ∧ (Sl ro' 3 encEdge B2 cap3 E) ∧ (Sl ro' 1 encInt A10 cap10 N) ∧ (Sl ro' 1 encInt A12 cap12 WN) ∧ (Sl ro' 3 encEdge B12 cap13 []) ∧ (WN.Pairwise (· < ·)) ∧ (∀ z, z ∈ WN ↔ ∃ a ∈ N.take i, z = a.tdiv d)) (N.length - 0) [(5, .pointer (some ⟨b5, 0, none⟩)), (8, .pointer (some ⟨x, 0, none⟩)), (9, .pointer (some ⟨b9, 0, none⟩)), (10, .pointer (some ⟨b10, 0, none⟩)), (11, .pointer (some ⟨x2, 0, none⟩)), (12, .pointer (some ⟨b12, 0, none⟩)), (13, .int .i64 (0 : Nat))] ⟨rfl, rfl, rfl, rfl, rfl, rfl, rfl, trivial⟩ ⟨0, ([] : List Int), none, 0, none, 0, rfl, rfl, rfl, by omega, Ro.le.refl _, hA3, hB3, hAs0, ⟨by simp, by simp [maxLen], by simp, fun h => absurd rfl h⟩, ⟨by simp, by simp [maxLen], by simp, fun h => absurd rfl h⟩, by simp, by simp⟩ ?_
      rintro m F ro' L' ⟨i, WN, A12, cap12, B12, cap13, rfl, rfl, rfl, hi, hle, hA, hB, hAs, hW, hWB, hws, hwm⟩
      refine seq ?_
      refine seq ?_
      refine region ?_
      refine op (y (x_move rfl) rfl ?_)
      refine op (y (x_fieldAddr fo_63_0 rfl) rfl ?_)
      refine op (y (x_load1 ag_23 rfl (by first | assumption | exact Cell.own 0 rfl rfl | exact Cell.own 1 rfl rfl | exact Cell.own 2 rfl rfl | exact Cell.own 3 rfl rfl | exact Cell.own 4 rfl rfl | exact Cell.own 5 rfl rfl | exact Cell.ofRo (by assumption))) rfl ?_)
      refine op (y (x_lenSl sz_23 rfl) rfl ?_)
      refine op (y (x_lss rfl rfl) rfl ?_)
      refine nil ?_
      refine n_then ?_
      refine cond rfl (fun h14 => ?_) (fun h14 => ?_)
      · try simp only [decide_eq_true_eq, decide_eq_false_iff_not, beq_iff_eq, bne_iff_ne, ne_eq, beq_eq_false_iff_ne, bne_eq_false_iff_eq, Bool.not_eq_true', Bool.not_eq_false', Bool.not_eq_true, Bool.not_eq_false, Decidable.not_not, Int.not_lt, Int.not_le] at h14
        refine skip ?_
        refine n_then ?_
        refine seq ?_
        refine block ?_
        have hil : i < N.length := by omega
        obtain ⟨bbx, offx, rfl, hcx⟩ := hA.at_ (i := i) (by omega)
        have hx := List.getElem?_eq_getElem (show i < N.length from by omega)
        have cx0 := hcx i _ hx 0 _ rfl
        have hx64 := h64N _ (List.getElem_mem hil)
        have hwl : WN.length ≤ N.length := by
          have := nodup_le (nodup_lt hws) (m := N.map (fun a => a.tdiv d)) (fun z hz => by
            obtain ⟨a, h1, h2⟩ := (hwm z).1 hz
            exact List.mem_map.2 ⟨a, List.mem_of_mem_take h1, h2.symm⟩)
          simpa using this
        refine draw ([(b9, .cells [.slice (some ⟨bbx, offx, none⟩) N.length cap2, .slice B2 E.length cap3].toArray 63 (0, 0)), (b5, .cells [.int .i64 d].toArray 3 (0, 0))]) (by kernel_rfl) ?_
        refine d_take 1 rfl (by kernel_rfl) (by kernel_rfl) (by kernel_rfl) (fun _ _ _ h => h) rfl (.inl rfl) (x_fieldAddr fo_63_0 rfl) (fun w hi => J.of_le (by first | exact Ro.le.refl _ | assumption) (by simp) hi) ?_
        refine d_take 2 rfl (by kernel_rfl) (by kernel_rfl) (by kernel_rfl) (fun _ _ _ h => h) rfl (.inl rfl) (x_load1 ag_23 rfl (Cell.blk (List.mem_cons_self) rfl)) (fun w hi => J.of_le (by first | exact Ro.le.refl _ | assumption) (by simp) hi) ?_
        refine d_take 3 rfl (by kernel_rfl) (by kernel_rfl) (by kernel_rfl) (fun _ _ _ h => h) rfl (.inl rfl) (x_move rfl) (fun w hi => J.of_le (by first | exact Ro.le.refl _ | assumption) (by simp) hi) ?_
        refine d_take 4 rfl (by kernel_rfl) (by kernel_rfl) (by kernel_rfl) (fun _ _ _ h => h) rfl (.inl rfl) (x_indexNat sz_23 rfl rfl (by omega)) (fun w hi => J.of_le (by first | exact Ro.le.refl _ | assumption) (by simp) hi) ?_
        refine d_take 5 rfl (by kernel_rfl) (by kernel_rfl) (by kernel_rfl) (fun _ _ _ h => h) rfl (.inl rfl) (x_load1 ag_3 rfl (by first | assumption | exact Cell.own 0 rfl rfl | exact Cell.own 1 rfl rfl | exact Cell.own 2 rfl rfl | exact Cell.own 3 rfl rfl | exact Cell.own 4 rfl rfl | exact Cell.own 5 rfl rfl | exact Cell.ofRo (by assumption))) (fun w hi => J.of_le (by first | exact Ro.le.refl _ | assumption) (by simp) hi) ?_
        refine d_take 6 rfl (by kernel_rfl) (by kernel_rfl) (by kernel_rfl) (fun _ _ _ h => h) rfl (.inl rfl) (x_load1 ag_3 rfl (Cell.blk (List.mem_cons_of_mem _ List.mem_cons_self) rfl)) (fun w hi => J.of_le (by first | exact Ro.le.refl _ | assumption) (by simp) hi) ?_
        refine d_take 7 rfl (by kernel_rfl) (by kernel_rfl) (by kernel_rfl) (fun _ _ _ h => h) rfl (.inl rfl) (x_quo rfl rfl (by omega) (N[i].tdiv d) (wr (tdiv_i64 hx64 hd1).1 (tdiv_i64 hx64 hd1).2)) (fun w hi => J.of_le (by first | exact Ro.le.refl _ | assumption) (by simp) hi) ?_
        refine d_one 0 rfl (by kernel_rfl) (.inl rfl) (y (x_loadOwn 0 [.slice A12 WN.length cap12, .slice B12 0 cap13] ag_63 rfl rfl rfl rfl) rfl ?_)
        refine d_next (fun w hi => J.of_le (by first | exact Ro.le.refl _ | assumption) (by simp) hi) ?_
        refine d_one 8 rfl (by kernel_rfl) (.inl rfl) (e_call rfl fn_62 rfl rfl (GNode_c WN [] A12 cap12 B12 cap13 _ _ hW hWB (N[i].tdiv d) (by omega)) fun v64 ro64 L64 hle64 hp64 => ?_)
        obtain ⟨A4, cap4, B4, cap5, rfl, hA4, hB4, hLL64⟩ := hp64
        subst hLL64
        refine d_next (fun w hi => J.of_le (by first | exact Ro.le.refl _ | assumption) (by simp) hi) ?_
        first | refine d_one 9 rfl (by kernel_rfl) (.inl rfl) (e_store 0 rfl rfl ts_63 rfl rfl rfl rfl rfl rfl ?_) | refine d_one 9 rfl (by kernel_rfl) (.inl rfl) (e_store 1 rfl rfl ts_63 rfl rfl rfl rfl rfl rfl ?_) | refine d_one 9 rfl (by kernel_rfl) (.inl rfl) (e_store 2 rfl rfl ts_63 rfl rfl rfl rfl rfl rfl ?_) | refine d_one 9 rfl (by kernel_rfl) (.inl rfl) (e_store 3 rfl rfl ts_63 rfl rfl rfl rfl rfl rfl ?_) | refine d_one 9 rfl (by kernel_rfl) (.inl rfl) (e_store 4 rfl rfl ts_63 rfl rfl rfl rfl rfl rfl ?_) | refine d_one 9 rfl (by kernel_rfl) (.inl rfl) (e_store 5 rfl rfl ts_63 rfl rfl rfl rfl rfl rfl ?_)
        refine d_next (fun w hi => J.of_le (by first | exact Ro.le.refl _ | assumption) (by simp) hi) ?_
        refine d_end (by kernel_rfl) ?_
        refine n_in ?_
        refine n_then ?_
        refine region ?_
        refine op (y (x_move rfl) rfl ?_)
        refine op (y (x_add rfl rfl _ (wr (by omega) (by omega))) rfl ?_)
        refine op (y (x_assign rfl) rfl ?_)
        refine nil ?_
        exact round (N.length - (i + 1)) [(5, .pointer (some ⟨b5, 0, none⟩)), (8, .pointer (some ⟨x, 0, none⟩)), (9, .pointer (some ⟨b9, 0, none⟩)), (10, .pointer (some ⟨b10, 0, none⟩)), (11, .pointer (some ⟨x2, 0, none⟩)), (12, .pointer (some ⟨b12, 0, none⟩)), (13, .int .i64 ((i + 1) : Nat))] (by omega) ⟨rfl, rfl, rfl, rfl, rfl, rfl, rfl, trivial⟩ ⟨i + 1, _, _, _, _, _, rfl, rfl, rfl, by omega, hle.trans hle64, hA.mono hle64, hB.mono hle64, hAs.mono hle64, hA4, hB4, putI_sorted hws, fun z => by
            rw [mem_putI, hwm, take_snoc' hx]
            constructor
            · rintro (rfl | ⟨a, h1, h2⟩)
              · exact ⟨_, List.mem_append_right _ (List.mem_singleton.2 rfl), rfl⟩
              · exact ⟨a, List.mem_append_left _ h1, h2⟩
            · rintro ⟨a, h1, h2⟩
              rcases List.mem_append.1 h1 with h1 | h1
              · exact .inr ⟨a, h1, h2⟩
              · rw [List.mem_singleton.1 h1] at h2; exact .inl h2⟩
      · try simp only [decide_eq_true_eq, decide_eq_false_iff_not, beq_iff_eq, bne_iff_ne, ne_eq, beq_eq_false_iff_ne, bne_eq_false_iff_eq, Bool.not_eq_true', Bool.not_eq_false', Bool.not_eq_true, Bool.not_eq_false, Decidable.not_not, Int.not_lt, Int.not_le] at h14
        refine exit ?_
        refine e_then ?_
        refine e_then ?_
        refine e_in ?_
        refine n_then ?_
        refine seq ?_
        refine seq ?_
        refine region ?_
        refine op (y (x_assign rfl) rfl ?_)
        refine nil ?_
        refine n_then ?_
        refine block ?_
        obtain rfl : i = N.length := by omega
        rw [List.take_length] at hwm
        refine loop (fun m F ro' L' => ∃ (i : Nat) (WN : List Int) (WE : List Ed) (A12 : Option Addr) (cap12 : Nat) (B12 : Option Addr) (cap13 : Nat), (m = E.length - i) ∧ (F = [(5, .pointer (some ⟨b5, 0, none⟩)), (8, .pointer (some ⟨x, 0, none⟩)), (9, .pointer (some ⟨b9, 0, none⟩)), (10, .pointer (some ⟨b10, 0, none⟩)), (11, .pointer (some ⟨x2, 0, none⟩)), (12, .pointer (some ⟨b12, 0, none⟩)), (14, .int .i64 (i : Nat))]) ∧ (L' = [(b12, .cells [.slice A12 WN.length cap12, .slice B12 WE.length cap13].toArray 63 (0, 0))] :: [(b10, .cells [.slice A10 N.length cap10].toArray 23 (0, 0))] :: [(b5, .cells [.int .i64 d].toArray 3 (0, 0))] :: R2 :: [(b9, .cells [.slice A2 N.length cap2, .slice B2 E.length cap3].toArray 63 (0, 0))] :: R :: L) ∧ (i ≤ E.length) ∧ (ro48x.le ro') ∧ (Sl ro' 1 encInt A2 cap2 N) ∧ (Sl ro' 3 encEdge B2 cap3 E) ∧ (Sl ro' 1 encInt A10 cap10 N) ∧ (Sl ro' 1 encInt A12 cap12 WN) ∧ (Sl ro' 3 encEdge B12 cap13 WE) ∧ (WN.Pairwise (· < ·)) ∧ (∀ z, z ∈ WN ↔ ∃ a ∈ N, z = a.tdiv d) ∧ (SE WE) ∧ (∀ z, z ∈ WE ↔ ∃ e ∈ E.take i, z = (e.1.tdiv d, e.2.1.tdiv d, e.2.2))) (E.length - 0) [(5, .pointer (some ⟨b5, 0, none⟩)), (8, .pointer (some ⟨x, 0, none⟩)), (9, .pointer (some ⟨b9, 0, none⟩)), (10, .pointer (some ⟨b10, 0, none⟩)), (11, .pointer (some ⟨x2, 0, none⟩)), (12, .pointer (some ⟨b12, 0, none⟩)), (14, .int .i64 (0 : Nat))] ⟨rfl, rfl, rfl, rfl, rfl, rfl, rfl, trivial⟩ ⟨0, WN, ([] : List Ed), _, _, _, _, rfl, rfl, rfl, by omega, hle, hA, hB, hAs, hW, hWB, hws, hwm, by simp [SE], by simp⟩ ?_
        rintro m F ro' L' ⟨i, WN, WE, A12, cap12, B12, cap13, rfl, rfl, rfl, hi, hle, hA, hB, hAs, hW, hWB, hws, hwm, hes, hem⟩
        refine seq ?_
        refine seq ?_
        refine region ?_
        refine op (y (x_move rfl) rfl ?_)
        refine op (y (x_fieldAddr fo_63_1 rfl) rfl ?_)
        refine op (y (x_load1 ag_61 rfl (by first | assumption | exact Cell.own 0 rfl rfl | exact Cell.own 1 rfl rfl | exact Cell.own 2 rfl rfl | exact Cell.own 3 rfl rfl | exact Cell.own 4 rfl rfl | exact Cell.own 5 rfl rfl | exact Cell.ofRo (by assumption))) rfl ?_)
        refine op (y (x_lenSl sz_61 rfl) rfl ?_)
        refine op (y (x_lss rfl rfl) rfl ?_)
        refine nil ?_
        refine n_then ?_
        refine cond rfl (fun h18 => ?_) (fun h18 => ?_)
        · try simp only [decide_eq_true_eq, decide_eq_false_iff_not, beq_iff_eq, bne_iff_ne, ne_eq, beq_eq_false_iff_ne, bne_eq_false_iff_eq, Bool.not_eq_true', Bool.not_eq_false', Bool.not_eq_true, Bool.not_eq_false, Decidable.not_not, Int.not_lt, Int.not_le] at h18
          refine skip ?_
          refine n_then ?_
          refine seq ?_
          refine block ?_
          have hil : i < E.length := by omega
          obtain ⟨bbx, offx, rfl, hcx⟩ := hB.at_ (i := i) (by omega)
          have hx := List.getElem?_eq_getElem (show i < E.length from by omega)
          have cx0 := hcx i _ hx 0 _ rfl
          have cx1 := hcx i _ hx 1 _ rfl
          have cx2 := hcx i _ hx 2 _ rfl
          have hme : E[i] ∈ E := List.getElem_mem hil
          have hm1 := hR.fstE hme
          have hm2' := hE2 _ hme
          have hx1 := h64N _ hm1
          have hx2 := h64N _ hm2'
          have hwl : WN.length ≤ N.length := by
            have := nodup_le (nodup_lt hws) (m := N.map (fun a => a.tdiv d)) (fun z hz => by
              obtain ⟨a, h1, h2⟩ := (hwm z).1 hz
              exact List.mem_map.2 ⟨a, h1, h2.symm⟩)
            simpa using this
          have hel : WE.length ≤ E.length := by
            have := nodup_le hes.nodup (m := E.map (fun e => (e.1.tdiv d, e.2.1.tdiv d, e.2.2))) (fun z hz => by
              obtain ⟨e, h1, h2⟩ := (hem z).1 hz
              exact List.mem_map.2 ⟨e, List.mem_of_mem_take h1, h2.symm⟩)
            simpa using this
          have hp1 := putI_in hws ((hwm _).2 ⟨_, hm1, rfl⟩)
          have hp2 := putI_in (putI_sorted (n := E[i].1.tdiv d) hws) ((hp1 _).2 ((hwm _).2 ⟨_, hm2', rfl⟩))
          refine draw ([(b9, .cells [.slice A2 N.length cap2, .slice (some ⟨bbx, offx, none⟩) E.length cap3].toArray 63 (0, 0)), (b5, .cells [.int .i64 d].toArray 3 (0, 0))]) (by kernel_rfl) ?_
          refine d_take 1 rfl (by kernel_rfl) (by kernel_rfl) (by kernel_rfl) (fun _ _ _ h => h) rfl (.inl rfl) (x_fieldAddr fo_63_1 rfl) (fun w hi => J.of_le (by first | exact Ro.le.refl _ | assumption) (by simp) hi) ?_
          refine d_take 2 rfl (by kernel_rfl) (by kernel_rfl) (by kernel_rfl) (fun _ _ _ h => h) rfl (.inl rfl) (x_load1 ag_61 rfl (Cell.blk (List.mem_cons_self) rfl)) (fun w hi => J.of_le (by first | exact Ro.le.refl _ | assumption) (by simp) hi) ?_
          refine d_take 3 rfl (by kernel_rfl) (by kernel_rfl) (by kernel_rfl) (fun _ _ _ h => h) rfl (.inl rfl) (x_move rfl) (fun w hi => J.of_le (by first | exact Ro.le.refl _ | assumption) (by simp) hi) ?_
          refine d_take 4 rfl (by kernel_rfl) (by kernel_rfl) (by kernel_rfl) (fun _ _ _ h => h) rfl (.inl rfl) (x_indexNat sz_61 rfl rfl (by omega)) (fun w hi => J.of_le (by first | exact Ro.le.refl _ | assumption) (by simp) hi) ?_
          refine d_take 5 rfl (by kernel_rfl) (by kernel_rfl) (by kernel_rfl) (fun _ _ _ h => h) rfl (.inl rfl) (x_fieldAddr fo_87_0 rfl) (fun w hi => J.of_le (by first | exact Ro.le.refl _ | assumption) (by simp) hi) ?_
          refine d_take 6 rfl (by kernel_rfl) (by kernel_rfl) (by kernel_rfl) (fun _ _ _ h => h) rfl (.inl rfl) (x_load1 ag_3 rfl (by first | assumption | exact Cell.own 0 rfl rfl | exact Cell.own 1 rfl rfl | exact Cell.own 2 rfl rfl | exact Cell.own 3 rfl rfl | exact Cell.own 4 rfl rfl | exact Cell.own 5 rfl rfl | exact Cell.ofRo (by assumption))) (fun w hi => J.of_le (by first | exact Ro.le.refl _ | assumption) (by simp) hi) ?_
          refine d_take 7 rfl (by kernel_rfl) (by kernel_rfl) (by kernel_rfl) (fun _ _ _ h => h) rfl (.inl rfl) (x_load1 ag_3 rfl (Cell.blk (List.mem_cons_of_mem _ List.mem_cons_self) rfl)) (fun w hi => J.of_le (by first | exact Ro.le.refl _ | assumption) (by simp) hi) ?_
          refine d_take 8 rfl (by kernel_rfl) (by kernel_rfl) (by kernel_rfl) (fun _ _ _ h => h) rfl (.inl rfl) (x_quo rfl rfl (by omega) (E[i].1.tdiv d) (wr (tdiv_i64 hx1 hd1).1 (tdiv_i64 hx1 hd1).2)) (fun w hi => J.of_le (by first | exact Ro.le.refl _ | assumption) (by simp) hi) ?_
          refine d_take 9 rfl (by kernel_rfl) (by kernel_rfl) (by kernel_rfl) (fun _ _ _ h => h) rfl (.inl rfl) (x_fieldAddr fo_63_1 rfl) (fun w hi => J.of_le (by first | exact Ro.le.refl _ | assumption) (by simp) hi) ?_
          refine d_take 10 rfl (by kernel_rfl) (by kernel_rfl) (by kernel_rfl) (fun _ _ _ h => h) rfl (.inl rfl) (x_load1 ag_61 rfl (Cell.blk (List.mem_cons_self) rfl)) (fun w hi => J.of_le (by first | exact Ro.le.refl _ | assumption) (by simp) hi) ?_
          refine d_take 11 rfl (by kernel_rfl) (by kernel_rfl) (by kernel_rfl) (fun _ _ _ h => h) rfl (.inl rfl) (x_move rfl) (fun w hi => J.of_le (by first | exact Ro.le.refl _ | assumption) (by simp) hi) ?_
          refine d_take 12 rfl (by kernel_rfl) (by kernel_rfl) (by kernel_rfl) (fun _ _ _ h => h) rfl (.inl rfl) (x_indexNat sz_61 rfl rfl (by omega)) (fun w hi => J.of_le (by first | exact Ro.le.refl _ | assumption) (by simp) hi) ?_
          refine d_take 13 rfl (by kernel_rfl) (by kernel_rfl) (by kernel_rfl) (fun _ _ _ h => h) rfl (.inl rfl) (x_fieldAddr fo_87_1 rfl) (fun w hi => J.of_le (by first | exact Ro.le.refl _ | assumption) (by simp) hi) ?_
          refine d_take 14 rfl (by kernel_rfl) (by kernel_rfl) (by kernel_rfl) (fun _ _ _ h => h) rfl (.inl rfl) (x_load1 ag_3 rfl (by first | assumption | exact Cell.own 0 rfl rfl | exact Cell.own 1 rfl rfl | exact Cell.own 2 rfl rfl | exact Cell.own 3 rfl rfl | exact Cell.own 4 rfl rfl | exact Cell.own 5 rfl rfl | exact Cell.ofRo (by assumption))) (fun w hi => J.of_le (by first | exact Ro.le.refl _ | assumption) (by simp) hi) ?_
          refine d_take 15 rfl (by kernel_rfl) (by kernel_rfl) (by kernel_rfl) (fun _ _ _ h => h) rfl (.inl rfl) (x_load1 ag_3 rfl (Cell.blk (List.mem_cons_of_mem _ List.mem_cons_self) rfl)) (fun w hi => J.of_le (by first | exact Ro.le.refl _ | assumption) (by simp) hi) ?_
          refine d_take 16 rfl (by kernel_rfl) (by kernel_rfl) (by kernel_rfl) (fun _ _ _ h => h) rfl (.inl rfl) (x_quo rfl rfl (by omega) (E[i].2.1.tdiv d) (wr (tdiv_i64 hx2 hd1).1 (tdiv_i64 hx2 hd1).2)) (fun w hi => J.of_le (by first | exact Ro.le.refl _ | assumption) (by simp) hi) ?_
          refine d_take 17 rfl (by kernel_rfl) (by kernel_rfl) (by kernel_rfl) (fun _ _ _ h => h) rfl (.inl rfl) (x_fieldAddr fo_63_1 rfl) (fun w hi => J.of_le (by first | exact Ro.le.refl _ | assumption) (by simp) hi) ?_
          refine d_take 18 rfl (by kernel_rfl) (by kernel_rfl) (by kernel_rfl) (fun _ _ _ h => h) rfl (.inl rfl) (x_load1 ag_61 rfl (Cell.blk (List.mem_cons_self) rfl)) (fun w hi => J.of_le (by first | exact Ro.le.refl _ | assumption) (by simp) hi) ?_
          refine d_take 19 rfl (by kernel_rfl) (by kernel_rfl) (by kernel_rfl) (fun _ _ _ h => h) rfl (.inl rfl) (x_move rfl) (fun w hi => J.of_le (by first | exact Ro.le.refl _ | assumption) (by simp) hi) ?_
          refine d_take 20 rfl (by kernel_rfl) (by kernel_rfl) (by kernel_rfl) (fun _ _ _ h => h) rfl (.inl rfl) (x_indexNat sz_61 rfl rfl (by omega)) (fun w hi => J.of_le (by first | exact Ro.le.refl _ | assumption) (by simp) hi) ?_
          refine d_take 21 rfl (by kernel_rfl) (by kernel_rfl) (by kernel_rfl) (fun _ _ _ h => h) rfl (.inl rfl) (x_fieldAddr fo_87_2 rfl) (fun w hi => J.of_le (by first | exact Ro.le.refl _ | assumption) (by simp) hi) ?_
          refine d_take 22 rfl (by kernel_rfl) (by kernel_rfl) (by kernel_rfl) (fun _ _ _ h => h) rfl (.inl rfl) (x_load1 ag_3 rfl (by first | assumption | exact Cell.own 0 rfl rfl | exact Cell.own 1 rfl rfl | exact Cell.own 2 rfl rfl | exact Cell.own 3 rfl rfl | exact Cell.own 4 rfl rfl | exact Cell.own 5 rfl rfl | exact Cell.ofRo (by assumption))) (fun w hi => J.of_le (by first | exact Ro.le.refl _ | assumption) (by simp) hi) ?_
          refine d_one 0 rfl (by kernel_rfl) (.inl rfl) (y (x_loadOwn 0 [.slice A12 WN.length cap12, .slice B12 WE.length cap13] ag_63 rfl rfl rfl rfl) rfl ?_)
          refine d_next (fun w hi => J.of_le (by first | exact Ro.le.refl _ | assumption) (by simp) hi) ?_
          refine d_one 23 rfl (by kernel_rfl) (.inl rfl) (e_call rfl fn_59 rfl rfl (GEdge_c WN WE A12 cap12 B12 cap13 _ _ hW hWB (E[i].1.tdiv d) (E[i].2.1.tdiv d) E[i].2.2 (by omega) (by omega)) fun v95 ro95 L95 hle95 hp95 => ?_)
          obtain ⟨A4, cap4, B4, cap5, rfl, hA4, hB4, hLL95⟩ := hp95
          subst hLL95
          refine d_next (fun w hi => J.of_le (by first | exact Ro.le.refl _ | assumption) (by simp) hi) ?_
          first | refine d_one 24 rfl (by kernel_rfl) (.inl rfl) (e_store 0 rfl rfl ts_63 rfl rfl rfl rfl rfl rfl ?_) | refine d_one 24 rfl (by kernel_rfl) (.inl rfl) (e_store 1 rfl rfl ts_63 rfl rfl rfl rfl rfl rfl ?_) | refine d_one 24 rfl (by kernel_rfl) (.inl rfl) (e_store 2 rfl rfl ts_63 rfl rfl rfl rfl rfl rfl ?_) | refine d_one 24 rfl (by kernel_rfl) (.inl rfl) (e_store 3 rfl rfl ts_63 rfl rfl rfl rfl rfl rfl ?_) | refine d_one 24 rfl (by kernel_rfl) (.inl rfl) (e_store 4 rfl rfl ts_63 rfl rfl rfl rfl rfl rfl ?_) | refine d_one 24 rfl (by kernel_rfl) (.inl rfl) (e_store 5 rfl rfl ts_63 rfl rfl rfl rfl rfl rfl ?_)
          refine d_next (fun w hi => J.of_le (by first | exact Ro.le.refl _ | assumption) (by simp) hi) ?_
          refine d_end (by kernel_rfl) ?_
          refine n_in ?_
          refine n_then ?_
          refine region ?_
          refine op (y (x_move rfl) rfl ?_)
          refine op (y (x_add rfl rfl _ (wr (by omega) (by omega))) rfl ?_)
          refine op (y (x_assign rfl) rfl ?_)
          refine nil ?_
          exact round (E.length - (i + 1)) [(5, .pointer (some ⟨b5, 0, none⟩)), (8, .pointer (some ⟨x, 0, none⟩)), (9, .pointer (some ⟨b9, 0, none⟩)), (10, .pointer (some ⟨b10, 0, none⟩)), (11, .pointer (some ⟨x2, 0, none⟩)), (12, .pointer (some ⟨b12, 0, none⟩)), (14, .int .i64 ((i + 1) : Nat))] (by omega) ⟨rfl, rfl, rfl, rfl, rfl, rfl, rfl, trivial⟩ ⟨i + 1, _, _, _, _, _, _, rfl, rfl, rfl, by omega, hle.trans hle95, hA.mono hle95, hB.mono hle95, hAs.mono hle95, hA4, hB4, putI_sorted (putI_sorted hws), fun z => by rw [hp2, hp1, hwm], SE_putE hes, fun z => by
              rw [mem_putE, hem, take_snoc' hx]
              constructor
              · rintro (rfl | ⟨e, h1, h2⟩)
                · exact ⟨_, List.mem_append_right _ (List.mem_singleton.2 rfl), rfl⟩
                · exact ⟨e, List.mem_append_left _ h1, h2⟩
              · rintro ⟨e, h1, h2⟩
                rcases List.mem_append.1 h1 with h1 | h1
                · exact .inr ⟨e, h1, h2⟩
                · rw [List.mem_singleton.1 h1] at h2; exact .inl h2⟩
        · try simp only [decide_eq_true_eq, decide_eq_false_iff_not, beq_iff_eq, bne_iff_ne, ne_eq, beq_eq_false_iff_ne, bne_eq_false_iff_eq, Bool.not_eq_true', Bool.not_eq_false', Bool.not_eq_true, Bool.not_eq_false, Decidable.not_not, Int.not_lt, Int.not_le] at h18
          refine exit ?_
          refine e_then ?_
          refine e_then ?_
          refine e_in ?_
          refine n_then ?_
          refine seq ?_
          refine region ?_
          refine op (y (x_move rfl) rfl ?_)
          refine op (e_call rfl fn_72 rfl rfl (TMap_c x N E R _ _ hR (by simp) hq1 (by omega) (by omega) hE2) fun v97 ro97 L97 hle97 hp97 => ?_)
          obtain ⟨x4, N4, R4, rfl, hR4, hLL97⟩ := hp97
          subst hLL97
          obtain rfl : i = E.length := by omega
          rw [List.take_length] at hem
          have hRW := hm2 WN WE ⟨nodup_lt hws, hes.nodup, hwm, hem⟩
          refine op (y (x_assign rfl) rfl ?_)
          refine nil ?_
          refine n_then ?_
          refine seq ?_
          refine seq ?_
          refine region ?_
          refine op (y (x_move rfl) rfl ?_)
          refine op (y (x_ptrEqNil Try.underlying88 rfl rfl) rfl ?_)
          refine nil ?_
          refine n_then ?_
          refine condF rfl ?_
          refine skip ?_
          refine n_then ?_
          refine seq ?_
          refine region ?_
          refine op (y (x_move rfl) rfl ?_)
          refine op (e_call rfl fn_74 rfl rfl (TNodes_c x4 N4 R4 _ _ hR4 (by simp)) fun v101 ro101 L101 hle101 hp101 => ?_)
          obtain ⟨A101, cap101, R101, rfl, hO101, rfl, rfl⟩ := hp101
          refine ufreeze fun ro101x hle101x hR101 => ?_
          refine drop0 ?_
          have hT := OwnS.sl hO101 (fun _ _ => rfl) hR101
          have hns := srtF_sorted hR4.nodup
          have hnl : (srtF N4).length ≤ 8 := by rw [srtF_length]; exact fin8_len hR4.nodup
          generalize srtF N4 = ns at *
          have hA9 := (hA.mono hle97).mono hle101x
          have hB9 := (hB.mono hle97).mono hle101x
          have hAs9 := (hAs.mono hle97).mono hle101x
          have hW9 := (hW.mono hle97).mono hle101x
          have hWB9 := (hWB.mono hle97).mono hle101x
          refine op (y (x_assign rfl) rfl ?_)
          refine nil ?_
          refine n_then ?_
          refine seq ?_
          refine seq ?_
          refine region ?_
          refine op (y (x_assign rfl) rfl ?_)
          refine nil ?_
          refine n_then ?_
          refine block ?_
          refine loop (fun m F rob' Lb' => ∃ (i : Nat), (m = ns.length - i) ∧ (F = [(5, .pointer (some ⟨b5, 0, none⟩)), (8, .pointer (some ⟨x, 0, none⟩)), (9, .pointer (some ⟨b9, 0, none⟩)), (10, .pointer (some ⟨b10, 0, none⟩)), (11, .pointer (some ⟨x2, 0, none⟩)), (12, .pointer (some ⟨b12, 0, none⟩)), (16, .slice A101 ns.length cap101), (17, .int .i64 (i : Nat))]) ∧ (ro101x = rob') ∧ (Lb' = [(b12, .cells [.slice A12 WN.length cap12, .slice B12 WE.length cap13].toArray 63 (0, 0))] :: [(b10, .cells [.slice A10 N.length cap10].toArray 23 (0, 0))] :: [(b5, .cells [.int .i64 d].toArray 3 (0, 0))] :: R2 :: [(b9, .cells [.slice A2 N.length cap2, .slice B2 E.length cap3].toArray 63 (0, 0))] :: R :: L) ∧ (i ≤ ns.length)) (ns.length - 0) [(5, .pointer (some ⟨b5, 0, none⟩)), (8, .pointer (some ⟨x, 0, none⟩)), (9, .pointer (some ⟨b9, 0, none⟩)), (10, .pointer (some ⟨b10, 0, none⟩)), (11, .pointer (some ⟨x2, 0, none⟩)), (12, .pointer (some ⟨b12, 0, none⟩)), (16, .slice A101 ns.length cap101), (17, .int .i64 (0 : Nat))] ⟨rfl, rfl, rfl, rfl, rfl, rfl, rfl, rfl, trivial⟩ ⟨0, rfl, rfl, rfl, rfl, by omega⟩ ?_
          rintro m F rob' Lb' ⟨i, rfl, rfl, rfl, rfl, hi⟩
          refine seq ?_
          refine seq ?_
          refine region ?_
          refine op (y (x_move rfl) rfl ?_)
          refine op (y (x_move rfl) rfl ?_)
          refine op (y (x_lenSl sz_91 rfl) rfl ?_)
          refine op (y (x_lss rfl rfl) rfl ?_)
          refine nil ?_
          refine n_then ?_
          refine cond rfl (fun h26 => ?_) (fun h26 => ?_)
          · try simp only [decide_eq_true_eq, decide_eq_false_iff_not, beq_iff_eq, bne_iff_ne, ne_eq, beq_eq_false_iff_ne, bne_eq_false_iff_eq, Bool.not_eq_true', Bool.not_eq_false', Bool.not_eq_true, Bool.not_eq_false, Decidable.not_not, Int.not_lt, Int.not_le] at h26
            refine skip ?_
            refine n_then ?_
            refine seq ?_
            refine block ?_
            refine seq ?_
            obtain ⟨bbx, offx, rfl, hcx⟩ := hT.at_ (i := i) (by omega)
            have hx := List.getElem?_eq_getElem (show i < ns.length from by omega)
            have cx0 := hcx i _ hx 0 _ rfl
            refine drawL (by kernel_rfl) ?_
            refine d_take 0 rfl (by kernel_rfl) (by kernel_rfl) (by kernel_rfl) (fun _ _ _ h => h) rfl (.inl rfl) (x_move rfl) (fun w hi => by first | exact hi.j | exact J.of_le (Ro.le.refl _) (fun x hx => List.mem_append_right _ hx) hi | exact J.of_le (Ro.le.refl _) (fun x hx => List.mem_append_right _ (List.mem_append_right _ hx)) hi | exact J.of_le (Ro.le.refl _) (fun x hx => absurd hx (by simp)) hi | exact J.of_le (by assumption) (fun x hx => absurd hx (by simp)) hi) ?_
            refine d_take 1 rfl (by kernel_rfl) (by kernel_rfl) (by kernel_rfl) (fun _ _ _ h => h) rfl (.inl rfl) (x_move rfl) (fun w hi => by first | exact hi.j | exact J.of_le (Ro.le.refl _) (fun x hx => List.mem_append_right _ hx) hi | exact J.of_le (Ro.le.refl _) (fun x hx => List.mem_append_right _ (List.mem_append_right _ hx)) hi | exact J.of_le (Ro.le.refl _) (fun x hx => absurd hx (by simp)) hi | exact J.of_le (by assumption) (fun x hx => absurd hx (by simp)) hi) ?_
            refine d_take 2 rfl (by kernel_rfl) (by kernel_rfl) (by kernel_rfl) (fun _ _ _ h => h) rfl (.inl rfl) (x_indexNat sz_91 rfl rfl (by omega)) (fun w hi => by first | exact hi.j | exact J.of_le (Ro.le.refl _) (fun x hx => List.mem_append_right _ hx) hi | exact J.of_le (Ro.le.refl _) (fun x hx => List.mem_append_right _ (List.mem_append_right _ hx)) hi | exact J.of_le (Ro.le.refl _) (fun x hx => absurd hx (by simp)) hi | exact J.of_le (by assumption) (fun x hx => absurd hx (by simp)) hi) ?_
            refine d_take 3 rfl (by kernel_rfl) (by kernel_rfl) (by kernel_rfl) (fun _ _ _ h => h) rfl (.inl rfl) (x_load1 ag_9 rfl (by first | assumption | exact Cell.own 0 rfl rfl | exact Cell.own 1 rfl rfl | exact Cell.own 2 rfl rfl | exact Cell.own 3 rfl rfl | exact Cell.own 4 rfl rfl | exact Cell.own 5 rfl rfl | exact Cell.ofRo (by assumption))) (fun w hi => by first | exact hi.j | exact J.of_le (Ro.le.refl _) (fun x hx => List.mem_append_right _ hx) hi | exact J.of_le (Ro.le.refl _) (fun x hx => List.mem_append_right _ (List.mem_append_right _ hx)) hi | exact J.of_le (Ro.le.refl _) (fun x hx => absurd hx (by simp)) hi | exact J.of_le (by assumption) (fun x hx => absurd hx (by simp)) hi) ?_
            refine d_take 4 rfl (by kernel_rfl) (by kernel_rfl) (by kernel_rfl) (fun _ _ _ h => h) rfl (.inl rfl) ((x_lenStr Try.underlying9 rfl).as (v' := .int .i64 1) rfl) (fun w hi => by first | exact hi.j | exact J.of_le (Ro.le.refl _) (fun x hx => List.mem_append_right _ hx) hi | exact J.of_le (Ro.le.refl _) (fun x hx => List.mem_append_right _ (List.mem_append_right _ hx)) hi | exact J.of_le (Ro.le.refl _) (fun x hx => absurd hx (by simp)) hi | exact J.of_le (by assumption) (fun x hx => absurd hx (by simp)) hi) ?_
            refine d_take 5 rfl (by kernel_rfl) (by kernel_rfl) (by kernel_rfl) (fun _ _ _ h => h) rfl (.inl rfl) ((x_neq rfl rfl).as (v' := .bool false) rfl) (fun w hi => by first | exact hi.j | exact J.of_le (Ro.le.refl _) (fun x hx => List.mem_append_right _ hx) hi | exact J.of_le (Ro.le.refl _) (fun x hx => List.mem_append_right _ (List.mem_append_right _ hx)) hi | exact J.of_le (Ro.le.refl _) (fun x hx => absurd hx (by simp)) hi | exact J.of_le (by assumption) (fun x hx => absurd hx (by simp)) hi) ?_
            refine d_take 6 rfl (by kernel_rfl) (by kernel_rfl) (by kernel_rfl) (fun _ _ _ h => h) rfl (.inl rfl) (x_move rfl) (fun w hi => by first | exact hi.j | exact J.of_le (Ro.le.refl _) (fun x hx => List.mem_append_right _ hx) hi | exact J.of_le (Ro.le.refl _) (fun x hx => List.mem_append_right _ (List.mem_append_right _ hx)) hi | exact J.of_le (Ro.le.refl _) (fun x hx => absurd hx (by simp)) hi | exact J.of_le (by assumption) (fun x hx => absurd hx (by simp)) hi) ?_
            refine d_take 7 rfl (by kernel_rfl) (by kernel_rfl) (by kernel_rfl) (fun _ _ _ h => h) rfl (.inr ⟨_, _, _, rfl, rfl, rfl⟩) (x_move rfl) (fun w hi => by first | exact hi.j | exact J.of_le (Ro.le.refl _) (fun x hx => List.mem_append_right _ hx) hi | exact J.of_le (Ro.le.refl _) (fun x hx => List.mem_append_right _ (List.mem_append_right _ hx)) hi | exact J.of_le (Ro.le.refl _) (fun x hx => absurd hx (by simp)) hi | exact J.of_le (by assumption) (fun x hx => absurd hx (by simp)) hi) ?_
            refine d_take 8 rfl (by kernel_rfl) (by kernel_rfl) (by kernel_rfl) (fun _ _ _ h => h) rfl (.inr ⟨_, _, _, rfl, rfl, rfl⟩) (x_gtr rfl rfl) (fun w hi => by first | exact hi.j | exact J.of_le (Ro.le.refl _) (fun x hx => List.mem_append_right _ hx) hi | exact J.of_le (Ro.le.refl _) (fun x hx => List.mem_append_right _ (List.mem_append_right _ hx)) hi | exact J.of_le (Ro.le.refl _) (fun x hx => absurd hx (by simp)) hi | exact J.of_le (by assumption) (fun x hx => absurd hx (by simp)) hi) ?_
            refine d_take 9 rfl (by kernel_rfl) (by kernel_rfl) (by kernel_rfl) (fun _ _ _ h => h) rfl (.inr ⟨_, _, _, rfl, rfl, rfl⟩) (x_move rfl) (fun w hi => by first | exact hi.j | exact J.of_le (Ro.le.refl _) (fun x hx => List.mem_append_right _ hx) hi | exact J.of_le (Ro.le.refl _) (fun x hx => List.mem_append_right _ (List.mem_append_right _ hx)) hi | exact J.of_le (Ro.le.refl _) (fun x hx => absurd hx (by simp)) hi | exact J.of_le (by assumption) (fun x hx => absurd hx (by simp)) hi) ?_
            refine bsplit 117 rfl (fun g117 => ?_) (fun g117 => ?_)
            · try simp only [decide_eq_true_eq, decide_eq_false_iff_not, beq_iff_eq, bne_iff_ne, ne_eq, beq_eq_false_iff_ne, bne_eq_false_iff_eq, Bool.not_eq_true', Bool.not_eq_false', Bool.not_eq_true, Bool.not_eq_false, Decidable.not_not, Int.not_lt, Int.not_le] at g117
              have hy := List.getElem?_eq_getElem (show i - 1 < ns.length by omega)
              have cy0 := hcx (i - 1) _ hy 0 _ rfl
              have hlt : ns[i - 1] < ns[i] := List.pairwise_iff_getElem.1 hns (i - 1) i (by omega) (by omega) (by omega)
              refine d_take 10 rfl (by kernel_rfl) (by kernel_rfl) (by kernel_rfl) (fun _ _ _ h => h) rfl (.inr ⟨_, _, _, rfl, rfl, rfl⟩) (x_move rfl) (fun w hi => by first | exact hi.j | exact J.of_le (Ro.le.refl _) (fun x hx => List.mem_append_right _ hx) hi | exact J.of_le (Ro.le.refl _) (fun x hx => List.mem_append_right _ (List.mem_append_right _ hx)) hi | exact J.of_le (Ro.le.refl _) (fun x hx => absurd hx (by simp)) hi | exact J.of_le (by assumption) (fun x hx => absurd hx (by simp)) hi) ?_
              refine d_take 11 rfl (by kernel_rfl) (by kernel_rfl) (by kernel_rfl) (fun _ _ _ h => h) rfl (.inr ⟨_, _, _, rfl, rfl, rfl⟩) (x_move rfl) (fun w hi => by first | exact hi.j | exact J.of_le (Ro.le.refl _) (fun x hx => List.mem_append_right _ hx) hi | exact J.of_le (Ro.le.refl _) (fun x hx => List.mem_append_right _ (List.mem_append_right _ hx)) hi | exact J.of_le (Ro.le.refl _) (fun x hx => absurd hx (by simp)) hi | exact J.of_le (by assumption) (fun x hx => absurd hx (by simp)) hi) ?_
              refine d_take 12 rfl (by kernel_rfl) (by kernel_rfl) (by kernel_rfl) (fun _ _ _ h => h) rfl (.inr ⟨_, _, _, rfl, rfl, rfl⟩) (x_sub rfl rfl ((i - 1 : Nat) : Int) (by rw [wr (by omega) (by omega)]; omega)) (fun w hi => by first | exact hi.j | exact J.of_le (Ro.le.refl _) (fun x hx => List.mem_append_right _ hx) hi | exact J.of_le (Ro.le.refl _) (fun x hx => List.mem_append_right _ (List.mem_append_right _ hx)) hi | exact J.of_le (Ro.le.refl _) (fun x hx => absurd hx (by simp)) hi | exact J.of_le (by assumption) (fun x hx => absurd hx (by simp)) hi) ?_
              refine d_take 13 rfl (by kernel_rfl) (by kernel_rfl) (by kernel_rfl) (fun _ _ _ h => h) rfl (.inr ⟨_, _, _, rfl, rfl, rfl⟩) (x_indexNat sz_91 rfl rfl (by omega)) (fun w hi => by first | exact hi.j | exact J.of_le (Ro.le.refl _) (fun x hx => List.mem_append_right _ hx) hi | exact J.of_le (Ro.le.refl _) (fun x hx => List.mem_append_right _ (List.mem_append_right _ hx)) hi | exact J.of_le (Ro.le.refl _) (fun x hx => absurd hx (by simp)) hi | exact J.of_le (by assumption) (fun x hx => absurd hx (by simp)) hi) ?_
              refine d_take 14 rfl (by kernel_rfl) (by kernel_rfl) (by kernel_rfl) (fun _ _ _ h => h) rfl (.inr ⟨_, _, _, rfl, rfl, rfl⟩) (x_load1 ag_9 rfl (by first | assumption | exact Cell.own 0 rfl rfl | exact Cell.own 1 rfl rfl | exact Cell.own 2 rfl rfl | exact Cell.own 3 rfl rfl | exact Cell.own 4 rfl rfl | exact Cell.own 5 rfl rfl | exact Cell.ofRo (by assumption))) (fun w hi => by first | exact hi.j | exact J.of_le (Ro.le.refl _) (fun x hx => List.mem_append_right _ hx) hi | exact J.of_le (Ro.le.refl _) (fun x hx => List.mem_append_right _ (List.mem_append_right _ hx)) hi | exact J.of_le (Ro.le.refl _) (fun x hx => absurd hx (by simp)) hi | exact J.of_le (by assumption) (fun x hx => absurd hx (by simp)) hi) ?_
              refine d_take 15 rfl (by kernel_rfl) (by kernel_rfl) (by kernel_rfl) (fun _ _ _ h => h) rfl (.inr ⟨_, _, _, rfl, rfl, rfl⟩) (x_move rfl) (fun w hi => by first | exact hi.j | exact J.of_le (Ro.le.refl _) (fun x hx => List.mem_append_right _ hx) hi | exact J.of_le (Ro.le.refl _) (fun x hx => List.mem_append_right _ (List.mem_append_right _ hx)) hi | exact J.of_le (Ro.le.refl _) (fun x hx => absurd hx (by simp)) hi | exact J.of_le (by assumption) (fun x hx => absurd hx (by simp)) hi) ?_
              refine d_take 16 rfl (by kernel_rfl) (by kernel_rfl) (by kernel_rfl) (fun _ _ _ h => h) rfl (.inr ⟨_, _, _, rfl, rfl, rfl⟩) (x_move rfl) (fun w hi => by first | exact hi.j | exact J.of_le (Ro.le.refl _) (fun x hx => List.mem_append_right _ hx) hi | exact J.of_le (Ro.le.refl _) (fun x hx => List.mem_append_right _ (List.mem_append_right _ hx)) hi | exact J.of_le (Ro.le.refl _) (fun x hx => absurd hx (by simp)) hi | exact J.of_le (by assumption) (fun x hx => absurd hx (by simp)) hi) ?_
              refine d_take 17 rfl (by kernel_rfl) (by kernel_rfl) (by kernel_rfl) (fun _ _ _ h => h) rfl (.inr ⟨_, _, _, rfl, rfl, rfl⟩) (x_indexNat sz_91 rfl rfl (by omega)) (fun w hi => by first | exact hi.j | exact J.of_le (Ro.le.refl _) (fun x hx => List.mem_append_right _ hx) hi | exact J.of_le (Ro.le.refl _) (fun x hx => List.mem_append_right _ (List.mem_append_right _ hx)) hi | exact J.of_le (Ro.le.refl _) (fun x hx => absurd hx (by simp)) hi | exact J.of_le (by assumption) (fun x hx => absurd hx (by simp)) hi) ?_
              refine d_take 18 rfl (by kernel_rfl) (by kernel_rfl) (by kernel_rfl) (fun _ _ _ h => h) rfl (.inr ⟨_, _, _, rfl, rfl, rfl⟩) (x_load1 ag_9 rfl (by first | assumption | exact Cell.own 0 rfl rfl | exact Cell.own 1 rfl rfl | exact Cell.own 2 rfl rfl | exact Cell.own 3 rfl rfl | exact Cell.own 4 rfl rfl | exact Cell.own 5 rfl rfl | exact Cell.ofRo (by assumption))) (fun w hi => by first | exact hi.j | exact J.of_le (Ro.le.refl _) (fun x hx => List.mem_append_right _ hx) hi | exact J.of_le (Ro.le.refl _) (fun x hx => List.mem_append_right _ (List.mem_append_right _ hx)) hi | exact J.of_le (Ro.le.refl _) (fun x hx => absurd hx (by simp)) hi | exact J.of_le (by assumption) (fun x hx => absurd hx (by simp)) hi) ?_
              refine d_take 19 rfl (by kernel_rfl) (by kernel_rfl) (by kernel_rfl) (fun _ _ _ h => h) rfl (.inr ⟨_, _, _, rfl, rfl, rfl⟩) ((x_sgeq rfl rfl).as (v' := .bool false) (congrArg Value.bool (by rw [less_A _ _ hlt]; rfl))) (fun w hi => by first | exact hi.j | exact J.of_le (Ro.le.refl _) (fun x hx => List.mem_append_right _ hx) hi | exact J.of_le (Ro.le.refl _) (fun x hx => List.mem_append_right _ (List.mem_append_right _ hx)) hi | exact J.of_le (Ro.le.refl _) (fun x hx => absurd hx (by simp)) hi | exact J.of_le (by assumption) (fun x hx => absurd hx (by simp)) hi) ?_
              refine d_take 20 rfl (by kernel_rfl) (by kernel_rfl) (by kernel_rfl) (fun _ _ _ h => h) rfl (.inr ⟨_, _, _, rfl, rfl, rfl⟩) (x_pickT rfl rfl) (fun w hi => by first | exact hi.j | exact J.of_le (Ro.le.refl _) (fun x hx => List.mem_append_right _ hx) hi | exact J.of_le (Ro.le.refl _) (fun x hx => List.mem_append_right _ (List.mem_append_right _ hx)) hi | exact J.of_le (Ro.le.refl _) (fun x hx => absurd hx (by simp)) hi | exact J.of_le (by assumption) (fun x hx => absurd hx (by simp)) hi) ?_
              refine d_take 21 rfl (by kernel_rfl) (by kernel_rfl) (by kernel_rfl) (fun _ _ _ h => h) rfl (.inl rfl) (x_pickF rfl rfl) (fun w hi => by first | exact hi.j | exact J.of_le (Ro.le.refl _) (fun x hx => List.mem_append_right _ hx) hi | exact J.of_le (Ro.le.refl _) (fun x hx => List.mem_append_right _ (List.mem_append_right _ hx)) hi | exact J.of_le (Ro.le.refl _) (fun x hx => absurd hx (by simp)) hi | exact J.of_le (by assumption) (fun x hx => absurd hx (by simp)) hi) ?_
              refine d_end (by kernel_rfl) ?_
              refine n_then ?_
              refine condF rfl ?_
              refine skip ?_
              refine n_in ?_
              refine n_then ?_
              refine region ?_
              refine op (y (x_move rfl) rfl ?_)
              refine op (y (x_add rfl rfl _ (wr (by omega) (by omega))) rfl ?_)
              refine op (y (x_assign rfl) rfl ?_)
              refine nil ?_
              exact round (ns.length - (i + 1)) [(5, .pointer (some ⟨b5, 0, none⟩)), (8, .pointer (some ⟨x, 0, none⟩)), (9, .pointer (some ⟨b9, 0, none⟩)), (10, .pointer (some ⟨b10, 0, none⟩)), (11, .pointer (some ⟨x2, 0, none⟩)), (12, .pointer (some ⟨b12, 0, none⟩)), (16, .slice _ ns.length cap101), (17, .int .i64 ((i + 1) : Nat))] (by omega) ⟨rfl, rfl, rfl, rfl, rfl, rfl, rfl, rfl, trivial⟩ ⟨i + 1, rfl, rfl, rfl, rfl, by omega⟩
            · try simp only [decide_eq_true_eq, decide_eq_false_iff_not, beq_iff_eq, bne_iff_ne, ne_eq, beq_eq_false_iff_ne, bne_eq_false_iff_eq, Bool.not_eq_true', Bool.not_eq_false', Bool.not_eq_true, Bool.not_eq_false, Decidable.not_not, Int.not_lt, Int.not_le] at g117
              refine d_skip 10 rfl (by kernel_rfl) (by kernel_rfl) (by kernel_rfl) (fun _ _ _ h => h) rfl rfl rfl rfl (fun w hi => by first | exact hi.j | exact J.of_le (Ro.le.refl _) (fun x hx => List.mem_append_right _ hx) hi | exact J.of_le (Ro.le.refl _) (fun x hx => List.mem_append_right _ (List.mem_append_right _ hx)) hi | exact J.of_le (Ro.le.refl _) (fun x hx => absurd hx (by simp)) hi | exact J.of_le (by assumption) (fun x hx => absurd hx (by simp)) hi) ?_
              refine d_skip 11 rfl (by kernel_rfl) (by kernel_rfl) (by kernel_rfl) (fun _ _ _ h => h) rfl rfl rfl rfl (fun w hi => by first | exact hi.j | exact J.of_le (Ro.le.refl _) (fun x hx => List.mem_append_right _ hx) hi | exact J.of_le (Ro.le.refl _) (fun x hx => List.mem_append_right _ (List.mem_append_right _ hx)) hi | exact J.of_le (Ro.le.refl _) (fun x hx => absurd hx (by simp)) hi | exact J.of_le (by assumption) (fun x hx => absurd hx (by simp)) hi) ?_
              refine d_skip 12 rfl (by kernel_rfl) (by kernel_rfl) (by kernel_rfl) (fun _ _ _ h => h) rfl rfl rfl rfl (fun w hi => by first | exact hi.j | exact J.of_le (Ro.le.refl _) (fun x hx => List.mem_append_right _ hx) hi | exact J.of_le (Ro.le.refl _) (fun x hx => List.mem_append_right _ (List.mem_append_right _ hx)) hi | exact J.of_le (Ro.le.refl _) (fun x hx => absurd hx (by simp)) hi | exact J.of_le (by assumption) (fun x hx => absurd hx (by simp)) hi) ?_
              refine d_skip 13 rfl (by kernel_rfl) (by kernel_rfl) (by kernel_rfl) (fun _ _ _ h => h) rfl rfl rfl rfl (fun w hi => by first | exact hi.j | exact J.of_le (Ro.le.refl _) (fun x hx => List.mem_append_right _ hx) hi | exact J.of_le (Ro.le.refl _) (fun x hx => List.mem_append_right _ (List.mem_append_right _ hx)) hi | exact J.of_le (Ro.le.refl _) (fun x hx => absurd hx (by simp)) hi | exact J.of_le (by assumption) (fun x hx => absurd hx (by simp)) hi) ?_
              refine d_skip 14 rfl (by kernel_rfl) (by kernel_rfl) (by kernel_rfl) (fun _ _ _ h => h) rfl rfl rfl rfl (fun w hi => by first | exact hi.j | exact J.of_le (Ro.le.refl _) (fun x hx => List.mem_append_right _ hx) hi | exact J.of_le (Ro.le.refl _) (fun x hx => List.mem_append_right _ (List.mem_append_right _ hx)) hi | exact J.of_le (Ro.le.refl _) (fun x hx => absurd hx (by simp)) hi | exact J.of_le (by assumption) (fun x hx => absurd hx (by simp)) hi) ?_
              refine d_skip 15 rfl (by kernel_rfl) (by kernel_rfl) (by kernel_rfl) (fun _ _ _ h => h) rfl rfl rfl rfl (fun w hi => by first | exact hi.j | exact J.of_le (Ro.le.refl _) (fun x hx => List.mem_append_right _ hx) hi | exact J.of_le (Ro.le.refl _) (fun x hx => List.mem_append_right _ (List.mem_append_right _ hx)) hi | exact J.of_le (Ro.le.refl _) (fun x hx => absurd hx (by simp)) hi | exact J.of_le (by assumption) (fun x hx => absurd hx (by simp)) hi) ?_
              refine d_skip 16 rfl (by kernel_rfl) (by kernel_rfl) (by kernel_rfl) (fun _ _ _ h => h) rfl rfl rfl rfl (fun w hi => by first | exact hi.j | exact J.of_le (Ro.le.refl _) (fun x hx => List.mem_append_right _ hx) hi | exact J.of_le (Ro.le.refl _) (fun x hx => List.mem_append_right _ (List.mem_append_right _ hx)) hi | exact J.of_le (Ro.le.refl _) (fun x hx => absurd hx (by simp)) hi | exact J.of_le (by assumption) (fun x hx => absurd hx (by simp)) hi) ?_
              refine d_skip 17 rfl (by kernel_rfl) (by kernel_rfl) (by kernel_rfl) (fun _ _ _ h => h) rfl rfl rfl rfl (fun w hi => by first | exact hi.j | exact J.of_le (Ro.le.refl _) (fun x hx => List.mem_append_right _ hx) hi | exact J.of_le (Ro.le.refl _) (fun x hx => List.mem_append_right _ (List.mem_append_right _ hx)) hi | exact J.of_le (Ro.le.refl _) (fun x hx => absurd hx (by simp)) hi | exact J.of_le (by assumption) (fun x hx => absurd hx (by simp)) hi) ?_
              refine d_skip 18 rfl (by kernel_rfl) (by kernel_rfl) (by kernel_rfl) (fun _ _ _ h => h) rfl rfl rfl rfl (fun w hi => by first | exact hi.j | exact J.of_le (Ro.le.refl _) (fun x hx => List.mem_append_right _ hx) hi | exact J.of_le (Ro.le.refl _) (fun x hx => List.mem_append_right _ (List.mem_append_right _ hx)) hi | exact J.of_le (Ro.le.refl _) (fun x hx => absurd hx (by simp)) hi | exact J.of_le (by assumption) (fun x hx => absurd hx (by simp)) hi) ?_
              refine d_skip 19 rfl (by kernel_rfl) (by kernel_rfl) (by kernel_rfl) (fun _ _ _ h => h) rfl rfl rfl rfl (fun w hi => by first | exact hi.j | exact J.of_le (Ro.le.refl _) (fun x hx => List.mem_append_right _ hx) hi | exact J.of_le (Ro.le.refl _) (fun x hx => List.mem_append_right _ (List.mem_append_right _ hx)) hi | exact J.of_le (Ro.le.refl _) (fun x hx => absurd hx (by simp)) hi | exact J.of_le (by assumption) (fun x hx => absurd hx (by simp)) hi) ?_
              refine d_take 20 rfl (by kernel_rfl) (by kernel_rfl) (by kernel_rfl) (fun _ _ _ h => h) rfl (.inr ⟨_, _, _, rfl, rfl, rfl⟩) (x_pickF rfl rfl) (fun w hi => by first | exact hi.j | exact J.of_le (Ro.le.refl _) (fun x hx => List.mem_append_right _ hx) hi | exact J.of_le (Ro.le.refl _) (fun x hx => List.mem_append_right _ (List.mem_append_right _ hx)) hi | exact J.of_le (Ro.le.refl _) (fun x hx => absurd hx (by simp)) hi | exact J.of_le (by assumption) (fun x hx => absurd hx (by simp)) hi) ?_
              refine d_take 21 rfl (by kernel_rfl) (by kernel_rfl) (by kernel_rfl) (fun _ _ _ h => h) rfl (.inl rfl) (x_pickF rfl rfl) (fun w hi => by first | exact hi.j | exact J.of_le (Ro.le.refl _) (fun x hx => List.mem_append_right _ hx) hi | exact J.of_le (Ro.le.refl _) (fun x hx => List.mem_append_right _ (List.mem_append_right _ hx)) hi | exact J.of_le (Ro.le.refl _) (fun x hx => absurd hx (by simp)) hi | exact J.of_le (by assumption) (fun x hx => absurd hx (by simp)) hi) ?_
              refine d_end (by kernel_rfl) ?_
              refine n_then ?_
              refine condF rfl ?_
              refine skip ?_
              refine n_in ?_
              refine n_then ?_
              refine region ?_
              refine op (y (x_move rfl) rfl ?_)
              refine op (y (x_add rfl rfl _ (wr (by omega) (by omega))) rfl ?_)
              refine op (y (x_assign rfl) rfl ?_)
              refine nil ?_
              exact round (ns.length - (i + 1)) [(5, .pointer (some ⟨b5, 0, none⟩)), (8, .pointer (some ⟨x, 0, none⟩)), (9, .pointer (some ⟨b9, 0, none⟩)), (10, .pointer (some ⟨b10, 0, none⟩)), (11, .pointer (some ⟨x2, 0, none⟩)), (12, .pointer (some ⟨b12, 0, none⟩)), (16, .slice _ ns.length cap101), (17, .int .i64 ((i + 1) : Nat))] (by omega) ⟨rfl, rfl, rfl, rfl, rfl, rfl, rfl, rfl, trivial⟩ ⟨i + 1, rfl, rfl, rfl, rfl, by omega⟩
          · try simp only [decide_eq_true_eq, decide_eq_false_iff_not, beq_iff_eq, bne_iff_ne, ne_eq, beq_eq_false_iff_ne, bne_eq_false_iff_eq, Bool.not_eq_true', Bool.not_eq_false', Bool.not_eq_true, Bool.not_eq_false, Decidable.not_not, Int.not_lt, Int.not_le] at h26
            refine exit ?_
            refine e_then ?_
            refine e_then ?_
            refine e_in ?_
            refine n_then ?_
            refine seq ?_
            refine region ?_
            refine op (y (x_load1 ag_23 rfl (by first | assumption | exact Cell.own 0 rfl rfl | exact Cell.own 1 rfl rfl | exact Cell.own 2 rfl rfl | exact Cell.own 3 rfl rfl | exact Cell.own 4 rfl rfl | exact Cell.own 5 rfl rfl | exact Cell.ofRo (by assumption))) rfl ?_)
            refine op (y (x_fieldAddr fo_63_0 rfl) rfl ?_)
            refine op (y (x_load1 ag_23 rfl (by first | assumption | exact Cell.own 0 rfl rfl | exact Cell.own 1 rfl rfl | exact Cell.own 2 rfl rfl | exact Cell.own 3 rfl rfl | exact Cell.own 4 rfl rfl | exact Cell.own 5 rfl rfl | exact Cell.ofRo (by assumption))) rfl ?_)
            refine op (e_call rfl fn_39 rfl rfl (SameInts_c N A10 cap10 N A2 cap2 _ _ hAs9 hA9) fun v133 ro133 L133 hle133 hp133 => ?_)
            obtain ⟨hv133, hr133, hLL133⟩ := hp133
            subst hr133
            subst hLL133
            obtain rfl : v133 = .bool true := hv133.trans (by simp)
            refine op (y (x_assign rfl) rfl ?_)
            refine nil ?_
            refine n_then ?_
            refine seq ?_
            have hwl9 : WN.length ≤ 100000 := by
              have h2 := nodup_le (nodup_lt hws) (m := N.map (fun a => a.tdiv d)) (fun z hz => by
                obtain ⟨a, h1, h2⟩ := (hwm z).1 hz
                exact List.mem_map.2 ⟨a, h1, h2.symm⟩)
              simp at h2; omega
            have hel9 : WE.length ≤ 100000 := by
              have h2 := nodup_le hes.nodup (m := E.map (fun e => (e.1.tdiv d, e.2.1.tdiv d, e.2.2))) (fun z hz => by
                obtain ⟨e, h1, h2⟩ := (hem z).1 hz
                exact List.mem_map.2 ⟨e, h1, h2.symm⟩)
              simp at h2; omega
            refine region ?_
            refine op (y (x_move rfl) rfl ?_)
            refine op (y (x_move rfl) rfl ?_)
            refine opG rfl rfl (y (x_move rfl) rfl ?_)
            refine opG rfl rfl (y (x_loadOwn 0 [.slice A12 WN.length cap12, .slice B12 WE.length cap13] ag_63 rfl rfl rfl rfl) rfl ?_)
            refine opG rfl rfl (e_call rfl fn_65 rfl rfl (GIs_c x2 WN WE R2 A12 cap12 B12 cap13 _ _ hRW (by simp) hws hes hW9 hWB9 hwl9 hel9) fun v138 ro138 L138 hle138 hp138 => ?_)
            obtain ⟨rfl, hLL138⟩ := hp138
            subst hLL138
            refine op (y (x_pickT rfl rfl) rfl ?_)
            refine op (y (x_move rfl) rfl ?_)
            refine opG rfl rfl (y (x_move rfl) rfl ?_)
            refine opG rfl rfl (y (x_loadOwn 4 [.slice A2 N.length cap2, .slice B2 E.length cap3] ag_63 rfl rfl rfl rfl) rfl ?_)
            refine opG rfl rfl (e_call rfl fn_65 rfl rfl (GIs_c x N E R A2 cap2 B2 cap3 _ _ hR (by simp) hq1 hs1 (hA9.mono hle138) (hB9.mono hle138) (by omega) (by omega)) fun v143 ro143 L143 hle143 hp143 => ?_)
            obtain ⟨rfl, hLL143⟩ := hp143
            subst hLL143
            refine op (y (x_pickT rfl rfl) rfl ?_)
            refine op (y (x_assign rfl) rfl ?_)
            refine nil ?_
            refine n_then ?_
            refine ret ?_
            refine drop0 ?_
            refine drop0 ?_
            refine drop0 ?_
            refine drop0 ?_
            refine drop0 ?_
            refine drop0 ?_
            exact done rfl (.tmp rfl (.nil)) (((((((((hle19).trans hle38).trans hle48).trans hle48x).trans hle).trans hle97).trans hle101x).trans hle138).trans hle143) (L) (⟨_, .refl _, .refl _⟩) (⟨rfl, rfl⟩)

end Go.Proofs.Ytlmeblhcipkgmaa
