/- The walk of a graph mapped to numbers. -/
import Derived.Test.YtlmeblhcipkgmaaG21
namespace Go.Proofs.Ytlmeblhcipkgmaa
open Go Go.U
set_option maxRecDepth 20000
set_option linter.unusedSimpArgs false
set_option linter.unusedVariables false

open Go.RowKit
/-- what a mapped graph is -/
structure MapsTo (h : Int → Int) (N : List Int) (E : List Ed) (N2 : List Int) (E2 : List Ed) : Prop where
  n : N2.Nodup
  e : E2.Nodup
  memN : ∀ z, z ∈ N2 ↔ ∃ a ∈ N, z = h a
  memE : ∀ z, z ∈ E2 ↔ ∃ e ∈ E, z = (h e.1, h e.2.1, e.2.2)
def CB (ff : FuncId) (caps : List Value) (h : Int → Int) (Q : List Int → List Blk → Prop) (N : List Int) : Prop := ∀ (asked : List Int) (RS : List Blk) (a : Int) (ro : Ro) (L : List (List Blk)), a ∈ N → asked.length ≤ 1000 → Q asked RS → CT Try.prog ff (.int .i64 a :: caps).toArray ro (RS :: L) (fun v ro' L' => v = .int .i64 (h a) ∧ ro = ro' ∧ ∃ RS', Q (asked ++ [a]) RS' ∧ L' = RS' :: L)
def PMp (h : Int → Int) (N : List Int) (E : List Ed) (Q : List Int → List Blk → Prop) (L : List (List Blk)) : Value → Ro → List (List Blk) → Prop := fun v ro' L' => ∃ x2 R2 RS', v = .pointer (some ⟨x2, 0, none⟩) ∧ (∀ N2 E2, MapsTo h N E N2 E2 → RelG x2 N2 E2 R2) ∧ Q N RS' ∧ L' = R2 :: RS' :: L
theorem mem_addE {E : List Ed} {e x : Ed} : x ∈ addE E e ↔ x = e ∨ x ∈ E := by unfold addE; split <;> simp <;> grind
theorem addE_nodup {E : List Ed} {e : Ed} (h : E.Nodup) : (addE E e).Nodup := by
  unfold addE; split
  · exact h
  · rename_i h2; exact List.nodup_cons.2 ⟨h2, h⟩
theorem addN_in {N : List Int} {a : Int} (h : a ∈ N) : addN N a = N := by unfold addN; rw [if_pos h]

theorem GrMap_c (x : Nat) (N : List Int) (E : List Ed) (R : List Blk) (ro : Ro) (L : List (List Blk)) (hR : RelG x N E R) (hL : R ∈ L) (hNs : N.Pairwise (· < ·)) (hnN : N.length ≤ 1000) (hnE : E.length ≤ 1000) (hE2 : ∀ e ∈ E, e.2.1 ∈ N) (ff : FuncId) (hff : Fun Try.prog ff) (caps : List Value) (h : Int → Int) (Q : List Int → List Blk → Prop) (RS : List Blk) (hQ0 : Q [] RS) (hcb : CB ff caps h Q N) (h64 : ∀ a ∈ N, I64 (h a)) :
    CT Try.prog 70 [.pointer (some ⟨x, 0, none⟩), .func (.func ff) #[] caps.toArray].toArray ro (RS :: L) (PMp h N E Q L) := by
  refine enter Try.func70 rfl Try.ntmps70 rfl ?_
  refine seq ?_
  refine region ?_
  refine op (y (x_assign rfl) rfl ?_)
  refine nil ?_
  refine n_then ?_
  refine seq ?_
  refine region ?_
  refine op (e_makeMap rfl fun b11 => ?_)
  refine op (y (x_assign rfl) rfl ?_)
  refine nil ?_
  refine n_then ?_
  refine seq ?_
  refine region ?_
  refine op (e_call rfl fn_55 rfl rfl (GNew_c _ _) fun v12 ro12 L12 hle12 hp12 => ?_)
  obtain ⟨x2, R2, rfl, hR20, rfl, rfl⟩ := hp12
  refine permL (R2 :: RS :: [(b11, .map #[] 0)] :: L) (.cons _ (.swap _ _ _)) ?_
  refine op (y (x_assign rfl) rfl ?_)
  refine nil ?_
  refine n_then ?_
  refine seq ?_
  refine seq ?_
  refine region ?_
  refine op (y (x_move rfl) rfl ?_)
  refine op (e_call rfl fn_50 rfl rfl (GrNodes_c x N E R _ _ hR (mem2 (List.mem_cons_of_mem _ hL)) (by omega) (by omega)) fun v14 ro14 L14 hle14 hp14 => ?_)
  obtain ⟨A14, cap14, R14, rfl, hO14, rfl, rfl⟩ := hp14
  refine ufreeze fun ro14x hle14x hR14 => ?_
  rw [srt_id hNs] at hO14 ⊢
  have hK := OwnS.sl hO14 (fun _ _ => rfl) hR14
  refine op (y (x_lenSl sz_23 rfl) rfl ?_)
  refine op (y (x_move rfl) rfl ?_)
  refine nil ?_
  refine n_then ?_
  refine block ?_
  refine loop (fun m F ro' L' => ∃ (i : Nat) (x2N : List Int) (R2 : List Blk) (RS : List Blk) (mq : List (Int × Value)) (esn : Array MapEntry) (clkn : Nat), (m = N.length - i) ∧ (F = [(0, .pointer (some ⟨x, 0, none⟩)), (1, .func (.func ff) #[] caps.toArray), (5, .map (some b11)), (6, .pointer (some ⟨x2, 0, none⟩)), (14, .slice A14 N.length cap14), (15, .int .i64 (N.length : Nat)), (16, .int .i64 (i : Nat))]) ∧ (ro14x = ro') ∧ (L' = R2 :: RS :: [(b11, .map esn clkn)] :: L) ∧ (i ≤ N.length) ∧ (RelG x2 x2N [] R2) ∧ (Q (N.take i) RS) ∧ (MapE encZ mq esn clkn) ∧ (∀ a ∈ N.take i, mget mq a = some (.int .i64 (h a))) ∧ (∀ z, z ∈ x2N ↔ ∃ a ∈ N.take i, z = h a)) (N.length - 0) [(0, .pointer (some ⟨x, 0, none⟩)), (1, .func (.func ff) #[] caps.toArray), (5, .map (some b11)), (6, .pointer (some ⟨x2, 0, none⟩)), (14, .slice A14 N.length cap14), (15, .int .i64 (N.length : Nat)), (16, .int .i64 (0 : Nat))] ⟨rfl, rfl, rfl, rfl, rfl, rfl, rfl, trivial⟩ ⟨0, [], _, RS, [], _, _, rfl, rfl, rfl, rfl, by omega, hR20, hQ0, MapE.empty, by simp, by simp⟩ ?_
  rintro m F ro' L' ⟨i, x2N, R2, RS, mq, esn, clkn, rfl, rfl, rfl, rfl, hi, hR2, hQ, hEn, hmq, hmN⟩
  refine seq ?_
  refine region ?_
  refine op (y (x_lss rfl rfl) rfl ?_)
  refine nil ?_
  refine n_then ?_
  refine seq ?_
  refine cond rfl (fun h4 => ?_) (fun h4 => ?_)
  · try simp only [decide_eq_true_eq, decide_eq_false_iff_not, beq_iff_eq, bne_iff_ne, ne_eq, beq_eq_false_iff_ne, bne_eq_false_iff_eq, Bool.not_eq_true', Bool.not_eq_false', Bool.not_eq_true, Bool.not_eq_false, Decidable.not_not, Int.not_lt, Int.not_le] at h4
    refine skip ?_
    refine n_then ?_
    refine seq ?_
    refine block ?_
    refine seq ?_
    have hil : i < N.length := by omega
    obtain ⟨bbx, offx, rfl, hcx⟩ := hK.at_ (i := i) (by omega)
    have hx := List.getElem?_eq_getElem (show i < N.length from by omega)
    have cx0 := hcx i _ hx 0 _ rfl
    have hxm : N[i] ∈ N := List.getElem_mem hil
    refine region ?_
    refine op (y (x_indexNat sz_23 rfl rfl (by omega)) rfl ?_)
    refine op (y (x_load1 ag_3 rfl (by first | assumption | exact Cell.own 0 rfl rfl | exact Cell.own 1 rfl rfl | exact Cell.own 2 rfl rfl | exact Cell.own 3 rfl rfl | exact Cell.own 4 rfl rfl | exact Cell.own 5 rfl rfl | exact Cell.ofRo (by assumption))) rfl ?_)
    refine op (y (x_assign rfl) rfl ?_)
    refine nil ?_
    refine n_then ?_
    refine seq ?_
    refine region ?_
    refine op (y (x_move rfl) rfl ?_)
    refine op (y (x_move rfl) rfl ?_)
    refine op (y (x_move rfl) rfl ?_)
    refine op (y (x_move rfl) rfl ?_)
    refine swap0 ?_
    refine op (e_call (caps := caps) rfl hff rfl rfl (hcb (N.take i) RS N[i] _ _ hxm (by rw [List.length_take]; omega) hQ) fun v24 ro24 L24 hle24 hp24 => ?_)
    obtain ⟨rfl, rfl, RS2, hQ2, rfl⟩ := hp24
    rw [← take_snoc' hx] at hQ2
    refine op (e_mapSet 2 Try.underlying117 kI rfl rfl rfl rfl hEn (fun _ _ => rfl) fun es2 clk2 hEn2 => ?_)
    refine swap0 ?_
    refine nil ?_
    refine n_then ?_
    refine region ?_
    refine op (y (x_move rfl) rfl ?_)
    refine op (y (x_move rfl) rfl ?_)
    refine op (y (x_move rfl) rfl ?_)
    refine op (y ((x_lookup Try.underlying117 kI zc_3 rfl rfl (mem1 (mem1 (mem0 (List.mem_singleton.2 rfl)))) hEn2).as (v' := .int .i64 (h N[i])) (by rw [mget_mset, if_pos rfl]; rfl)) rfl ?_)
    refine op (e_call rfl fn_61 rfl rfl (GrNode_c x2 x2N [] R2 _ _ hR2 (h N[i]) (h64 _ hxm)) fun v29 ro29 L29 hle29 hp29 => ?_)
    obtain ⟨_, R3, hR3, rfl, rfl⟩ := hp29
    refine nil ?_
    refine n_in ?_
    refine n_then ?_
    refine region ?_
    refine op (y (x_add rfl rfl _ (wr (by omega) (by omega))) rfl ?_)
    refine op (y (x_move rfl) rfl ?_)
    refine nil ?_
    exact round (N.length - (i + 1)) [(0, .pointer (some ⟨x, 0, none⟩)), (1, .func (.func ff) #[] caps.toArray), (5, .map (some b11)), (6, .pointer (some ⟨x2, 0, none⟩)), (14, .slice _ N.length cap14), (15, .int .i64 (N.length : Nat)), (16, .int .i64 ((i + 1) : Nat))] (by omega) ⟨rfl, rfl, rfl, rfl, rfl, rfl, rfl, trivial⟩ ⟨i + 1, _, _, _, _, _, _, rfl, rfl, rfl, rfl, by omega, hR3, hQ2, hEn2, fun a ha => by
        rw [mget_mset]
        by_cases e : N[i] = a
        · rw [if_pos e, e]
        · rw [if_neg e]
          rw [take_snoc' hx, List.mem_append, List.mem_singleton] at ha
          rcases ha with ha | ha
          · exact hmq a ha
          · exact absurd ha.symm e, fun z => by
        rw [mem_addN, hmN, take_snoc' hx]
        constructor
        · rintro (rfl | ⟨a, h1, h2⟩)
          · exact ⟨_, List.mem_append_right _ (List.mem_singleton.2 rfl), rfl⟩
          · exact ⟨a, List.mem_append_left _ h1, h2⟩
        · rintro ⟨a, h1, h2⟩
          rcases List.mem_append.1 h1 with h1 | h1
          · exact .inr ⟨a, h1, h2⟩
          · rw [List.mem_singleton.1 h1] at h2; exact .inl h2⟩
  · try simp only [decide_eq_true_eq, decide_eq_false_iff_not, beq_iff_eq, bne_iff_ne, ne_eq, beq_eq_false_iff_ne, bne_eq_false_iff_eq, Bool.not_eq_true', Bool.not_eq_false', Bool.not_eq_true, Bool.not_eq_false, Decidable.not_not, Int.not_lt, Int.not_le] at h4
    refine exit ?_
    refine e_then ?_
    refine e_then ?_
    refine e_in ?_
    refine n_then ?_
    refine seq ?_
    refine seq ?_
    refine region ?_
    refine op (y (x_move rfl) rfl ?_)
    refine op (e_call rfl fn_76 rfl rfl (GrEdges_c x N E R _ _ hR (mem2 (List.mem_cons_of_mem _ hL)) (by omega) (by omega)) fun v32 ro32 L32 hle32 hp32 => ?_)
    obtain ⟨pl, hps, hpp, A32, cap32, R32, rfl, hO32, hLL32⟩ := hp32
    subst hLL32
    have hpl : pl.length ≤ 1000 := by rw [hpp.length_eq]; exact hnE
    refine ufreeze fun ro32x hle32x hR32 => ?_
    have hP := OwnS.sl hO32 (fun _ _ => rfl) hR32
    obtain rfl : i = N.length := by omega
    rw [List.take_length] at hQ hmq hmN
    refine op (y (x_lenSl sz_93 rfl) rfl ?_)
    refine op (y (x_move rfl) rfl ?_)
    refine nil ?_
    refine n_then ?_
    refine block ?_
    refine loop (fun m F ro' L' => ∃ (i : Nat) (x2E : List Ed) (R2 : List Blk), (m = pl.length - i) ∧ (F = [(0, .pointer (some ⟨x, 0, none⟩)), (1, .func (.func ff) #[] caps.toArray), (5, .map (some b11)), (6, .pointer (some ⟨x2, 0, none⟩)), (32, .slice A32 pl.length cap32), (33, .int .i64 (pl.length : Nat)), (34, .int .i64 (i : Nat))]) ∧ (ro32x = ro') ∧ (L' = R2 :: RS :: [(b11, .map esn clkn)] :: L) ∧ (i ≤ pl.length) ∧ (RelG x2 x2N x2E R2) ∧ (∀ z, z ∈ x2E ↔ ∃ e ∈ pl.take i, z = (h e.1, h e.2.1, e.2.2))) (pl.length - 0) [(0, .pointer (some ⟨x, 0, none⟩)), (1, .func (.func ff) #[] caps.toArray), (5, .map (some b11)), (6, .pointer (some ⟨x2, 0, none⟩)), (32, .slice A32 pl.length cap32), (33, .int .i64 (pl.length : Nat)), (34, .int .i64 (0 : Nat))] ⟨rfl, rfl, rfl, rfl, rfl, rfl, rfl, trivial⟩ ⟨0, [], _, rfl, rfl, rfl, rfl, by omega, hR2, by simp⟩ ?_
    rintro m F ro' L' ⟨i, x2E, R2, rfl, rfl, rfl, rfl, hi, hR2, hmE⟩
    refine seq ?_
    refine region ?_
    refine op (y (x_lss rfl rfl) rfl ?_)
    refine nil ?_
    refine n_then ?_
    refine seq ?_
    refine cond rfl (fun h10 => ?_) (fun h10 => ?_)
    · try simp only [decide_eq_true_eq, decide_eq_false_iff_not, beq_iff_eq, bne_iff_ne, ne_eq, beq_eq_false_iff_ne, bne_eq_false_iff_eq, Bool.not_eq_true', Bool.not_eq_false', Bool.not_eq_true, Bool.not_eq_false, Decidable.not_not, Int.not_lt, Int.not_le] at h10
      refine skip ?_
      refine n_then ?_
      refine seq ?_
      refine block ?_
      refine seq ?_
      have hil : i < pl.length := by omega
      obtain ⟨bbx, offx, rfl, hcx⟩ := hP.at_ (i := i) (by omega)
      have hx := List.getElem?_eq_getElem (show i < pl.length from by omega)
      have cx0 := hcx i _ hx 0 _ rfl
      have hme : pl[i] ∈ E := hpp.mem_iff.1 (List.getElem_mem hil)
      have hm1 := hR.fstE hme
      have hm2 := hE2 _ hme
      refine region ?_
      refine op (y (x_indexNat sz_93 rfl rfl (by omega)) rfl ?_)
      refine op (y (x_loadN (vs := encEdge pl[i]) ag_96 rfl rfl (CellsAt.ofRo (hcx i _ hx))) rfl ?_)
      refine op (e_alloc rfl zc_96 rfl fun b10 => ?_)
      first | refine op (e_store 0 rfl rfl ts_96 rfl rfl rfl rfl rfl rfl ?_) | refine op (e_store 1 rfl rfl ts_96 rfl rfl rfl rfl rfl rfl ?_) | refine op (e_store 2 rfl rfl ts_96 rfl rfl rfl rfl rfl rfl ?_) | refine op (e_store 3 rfl rfl ts_96 rfl rfl rfl rfl rfl rfl ?_) | refine op (e_store 4 rfl rfl ts_96 rfl rfl rfl rfl rfl rfl ?_) | refine op (e_store 5 rfl rfl ts_96 rfl rfl rfl rfl rfl rfl ?_)
      refine nil ?_
      refine n_then ?_
      refine region ?_
      refine op (y (x_move rfl) rfl ?_)
      refine op (y (x_move rfl) rfl ?_)
      refine op (y (x_fieldAddr fo_96_0 rfl) rfl ?_)
      refine op (y (x_load1 ag_3 rfl (by first | assumption | exact Cell.own 0 rfl rfl | exact Cell.own 1 rfl rfl | exact Cell.own 2 rfl rfl | exact Cell.own 3 rfl rfl | exact Cell.own 4 rfl rfl | exact Cell.own 5 rfl rfl | exact Cell.ofRo (by assumption))) rfl ?_)
      refine op (y ((x_lookup Try.underlying117 kI zc_3 rfl rfl (mem1 (mem1 (mem1 (mem0 (List.mem_singleton.2 rfl))))) hEn).as (v' := .int .i64 (h pl[i].1)) (by rw [hmq _ hm1]; rfl)) rfl ?_)
      refine op (y (x_move rfl) rfl ?_)
      refine op (y (x_fieldAddr fo_96_1 rfl) rfl ?_)
      refine op (y (x_load1 ag_3 rfl (by first | assumption | exact Cell.own 0 rfl rfl | exact Cell.own 1 rfl rfl | exact Cell.own 2 rfl rfl | exact Cell.own 3 rfl rfl | exact Cell.own 4 rfl rfl | exact Cell.own 5 rfl rfl | exact Cell.ofRo (by assumption))) rfl ?_)
      refine op (y ((x_lookup Try.underlying117 kI zc_3 rfl rfl (mem1 (mem1 (mem1 (mem0 (List.mem_singleton.2 rfl))))) hEn).as (v' := .int .i64 (h pl[i].2.1)) (by rw [hmq _ hm2]; rfl)) rfl ?_)
      refine op (y (x_fieldAddr fo_96_2 rfl) rfl ?_)
      refine op (y (x_load1 ag_3 rfl (by first | assumption | exact Cell.own 0 rfl rfl | exact Cell.own 1 rfl rfl | exact Cell.own 2 rfl rfl | exact Cell.own 3 rfl rfl | exact Cell.own 4 rfl rfl | exact Cell.own 5 rfl rfl | exact Cell.ofRo (by assumption))) rfl ?_)
      refine swap0 ?_
      refine op (e_call rfl fn_58 rfl rfl (GrEdge_c x2 x2N x2E R2 _ _ hR2 _ _ _ (h64 _ hm1) (h64 _ hm2) (RelG.i64 hR hme).2.2) fun v49 ro49 L49 hle49 hp49 => ?_)
      obtain ⟨_, R3, hR3, rfl, rfl⟩ := hp49
      have hn1 : h pl[i].1 ∈ x2N := (hmN _).2 ⟨_, hm1, rfl⟩
      have hn2 : h pl[i].2.1 ∈ x2N := (hmN _).2 ⟨_, hm2, rfl⟩
      rw [addN_in hn1, addN_in hn2] at hR3
      refine nil ?_
      refine n_in ?_
      refine n_then ?_
      refine region ?_
      refine op (y (x_add rfl rfl _ (wr (by omega) (by omega))) rfl ?_)
      refine op (y (x_move rfl) rfl ?_)
      refine nil ?_
      refine swap0 ?_
      refine drop0 ?_
      exact round (pl.length - (i + 1)) [(0, .pointer (some ⟨x, 0, none⟩)), (1, .func (.func ff) #[] caps.toArray), (5, .map (some b11)), (6, .pointer (some ⟨x2, 0, none⟩)), (32, .slice _ pl.length cap32), (33, .int .i64 (pl.length : Nat)), (34, .int .i64 ((i + 1) : Nat))] (by omega) ⟨rfl, rfl, rfl, rfl, rfl, rfl, rfl, trivial⟩ ⟨i + 1, _, _, rfl, rfl, rfl, rfl, by omega, hR3, fun z => by
          rw [mem_addE, hmE, take_snoc' hx]
          constructor
          · rintro (rfl | ⟨e, h1, h2⟩)
            · exact ⟨_, List.mem_append_right _ (List.mem_singleton.2 rfl), rfl⟩
            · exact ⟨e, List.mem_append_left _ h1, h2⟩
          · rintro ⟨e, h1, h2⟩
            rcases List.mem_append.1 h1 with h1 | h1
            · exact .inr ⟨e, h1, h2⟩
            · rw [List.mem_singleton.1 h1] at h2; exact .inl h2⟩
    · try simp only [decide_eq_true_eq, decide_eq_false_iff_not, beq_iff_eq, bne_iff_ne, ne_eq, beq_eq_false_iff_ne, bne_eq_false_iff_eq, Bool.not_eq_true', Bool.not_eq_false', Bool.not_eq_true, Bool.not_eq_false, Decidable.not_not, Int.not_lt, Int.not_le] at h10
      refine exit ?_
      refine e_then ?_
      refine e_then ?_
      refine e_in ?_
      refine n_then ?_
      refine seq ?_
      refine region ?_
      refine op (y (x_move rfl) rfl ?_)
      refine op (y (x_assign rfl) rfl ?_)
      refine nil ?_
      refine n_then ?_
      refine ret ?_
      obtain rfl : i = pl.length := by omega
      rw [List.take_length] at hmE
      have hfin : ∀ N2 E2, MapsTo h N E N2 E2 → RelG x2 N2 E2 R2 := fun N2 E2 hm => hR2.perm ((List.perm_ext_iff_of_nodup hm.n hR2.nodupN).2 (fun z => by rw [hm.memN, hmN])) ((List.perm_ext_iff_of_nodup hm.e hR2.nodupE).2 (fun z => by
        rw [hm.memE, hmE]
        exact ⟨fun ⟨e, h1, h2⟩ => ⟨e, hpp.mem_iff.2 h1, h2⟩, fun ⟨e, h1, h2⟩ => ⟨e, hpp.mem_iff.1 h1, h2⟩⟩))
      exact done rfl (.tmp rfl (.nil)) (hle14x.trans (hle32.trans hle32x)) (R2 :: RS :: L) (⟨_, .refl _, List.Sublist.append (.refl _) (List.Sublist.append (.refl _) (List.sublist_append_right _ _))⟩) (⟨x2, R2, RS, rfl, hfin, hQ, rfl⟩)

theorem Ident_c (a : Int) (ro : Ro) (L : List (List Blk)) : CT Try.prog 75 [.int .i64 a].toArray ro L (PQ (.int .i64 a) ro L) := by
  refine enter Try.func75 rfl Try.ntmps75 rfl ?_
  refine seq ?_
  refine region ?_
  refine op (y (x_assign rfl) rfl ?_)
  refine nil ?_
  refine n_then ?_
  refine seq ?_
  refine region ?_
  refine op (y (x_move rfl) rfl ?_)
  refine op (y (x_assign rfl) rfl ?_)
  refine nil ?_
  refine n_then ?_
  refine ret ?_
  exact done rfl (.tmp rfl (.nil)) (Ro.le.refl _) (L) (⟨_, .refl _, .refl _⟩) (⟨rfl, rfl, rfl⟩)

theorem Ident_cb (N : List Int) : CB 75 [] (fun a => a) (fun _ RS => RS = []) N := fun asked RS a ro L _ _ hQ => by
  subst hQ
  exact (Ident_c a ro ([] :: L)).mono (fun v ro' L' _ ⟨h1, h2, h3⟩ => ⟨h1, h2, [], rfl, h3.symm⟩)

end Go.Proofs.Ytlmeblhcipkgmaa
