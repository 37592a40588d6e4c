/- The walk of the statement on mapped graphs. -/
import Derived.Test.YtlmeblhcipkgmaaG28
namespace Go.Proofs.Ytlmeblhcipkgmaa
open Go Go.U
set_option maxRecDepth 20000
set_option linter.unusedSimpArgs false
set_option linter.unusedVariables false

open Go.RowKit
def letter (a : Int) : Fin 8 := ⟨kb a, kb_lt a⟩

theorem TMap_c (x : Nat) (N : List Int) (E : List Ed) (R : List Blk) (ro : Ro) (L : List (List Blk)) (hR : RelG x N E R) (hL : R ∈ L) (hNs : N.Pairwise (· < ·)) (hnN : N.length ≤ 1000) (hnE : E.length ≤ 1000) (hE2 : ∀ e ∈ E, e.2.1 ∈ N) :
    CT Try.prog 72 [.pointer (some ⟨x, 0, none⟩), .func (.func 73) #[] #[]].toArray ro L (fun v ro' L' => ∃ x2 N2 R2, v = .pointer (some ⟨x2, 0, none⟩) ∧ RelT x2 N2 R2 ∧ L' = R2 :: L) := by
  refine enter Try.func72 rfl Try.ntmps72 rfl ?_
  refine seq ?_
  refine region ?_
  refine op (y (x_assign rfl) rfl ?_)
  refine nil ?_
  refine n_then ?_
  refine seq ?_
  refine region ?_
  refine op (e_makeMap rfl fun b11 => ?_)
  refine op (y (x_assign rfl) rfl ?_)
  refine nil ?_
  refine n_then ?_
  refine seq ?_
  refine region ?_
  refine op (e_call rfl fn_100 rfl rfl (TNew_c _ _) fun v12 ro12 L12 hle12 hp12 => ?_)
  obtain ⟨x2, R2, rfl, hR20, rfl, rfl⟩ := hp12
  refine op (y (x_assign rfl) rfl ?_)
  refine nil ?_
  refine n_then ?_
  refine seq ?_
  refine seq ?_
  refine region ?_
  refine op (y (x_move rfl) rfl ?_)
  refine op (e_call rfl fn_50 rfl rfl (GrNodes_c x N E R _ _ hR (mem2 hL) (by omega) (by omega)) fun v14 ro14 L14 hle14 hp14 => ?_)
  obtain ⟨A14, cap14, R14, rfl, hO14, rfl, rfl⟩ := hp14
  refine ufreeze fun ro14x hle14x hR14 => ?_
  rw [srt_id hNs] at hO14 ⊢
  have hK := OwnS.sl hO14 (fun _ _ => rfl) hR14
  refine op (y (x_lenSl sz_23 rfl) rfl ?_)
  refine op (y (x_move rfl) rfl ?_)
  refine nil ?_
  refine n_then ?_
  refine block ?_
  refine loop (fun m F ro' L' => ∃ (i : Nat) (x2N : List (Fin 8)) (R2 : List Blk) (mq : List (Int × Value)) (esn : Array MapEntry) (clkn : Nat), (m = N.length - i) ∧ (F = [(0, .pointer (some ⟨x, 0, none⟩)), (1, .func (.func 73) #[] #[]), (5, .map (some b11)), (6, .pointer (some ⟨x2, 0, none⟩)), (14, .slice A14 N.length cap14), (15, .int .i64 (N.length : Nat)), (16, .int .i64 (i : Nat))]) ∧ (ro14x = ro') ∧ (L' = R2 :: [(b11, .map esn clkn)] :: L) ∧ (i ≤ N.length) ∧ (RelT x2 x2N R2) ∧ (MapE encZ mq esn clkn) ∧ (∀ a ∈ N.take i, mget mq a = some (encA (letter a)))) (N.length - 0) [(0, .pointer (some ⟨x, 0, none⟩)), (1, .func (.func 73) #[] #[]), (5, .map (some b11)), (6, .pointer (some ⟨x2, 0, none⟩)), (14, .slice A14 N.length cap14), (15, .int .i64 (N.length : Nat)), (16, .int .i64 (0 : Nat))] ⟨rfl, rfl, rfl, rfl, rfl, rfl, rfl, trivial⟩ ⟨0, [], _, [], _, _, rfl, rfl, rfl, rfl, by omega, hR20, MapE.empty, by simp⟩ ?_
  rintro m F ro' L' ⟨i, x2N, R2, mq, esn, clkn, rfl, rfl, rfl, rfl, hi, hR2, hEn, hmq⟩
  refine seq ?_
  refine region ?_
  refine op (y (x_lss rfl rfl) rfl ?_)
  refine nil ?_
  refine n_then ?_
  refine seq ?_
  refine cond rfl (fun h4 => ?_) (fun h4 => ?_)
  · try simp only [decide_eq_true_eq, decide_eq_false_iff_not, beq_iff_eq, bne_iff_ne, ne_eq, beq_eq_false_iff_ne, bne_eq_false_iff_eq, Bool.not_eq_true', Bool.not_eq_false', Bool.not_eq_true, Bool.not_eq_false, Decidable.not_not, Int.not_lt, Int.not_le] at h4
    refine skip ?_
    refine n_then ?_
    refine seq ?_
    refine block ?_
    refine seq ?_
    have hil : i < N.length := by omega
    obtain ⟨bbx, offx, rfl, hcx⟩ := hK.at_ (i := i) (by omega)
    have hx := List.getElem?_eq_getElem (show i < N.length from by omega)
    have cx0 := hcx i _ hx 0 _ rfl
    refine region ?_
    refine op (y (x_indexNat sz_23 rfl rfl (by omega)) rfl ?_)
    refine op (y (x_load1 ag_3 rfl (by first | assumption | exact Cell.own 0 rfl rfl | exact Cell.own 1 rfl rfl | exact Cell.own 2 rfl rfl | exact Cell.own 3 rfl rfl | exact Cell.own 4 rfl rfl | exact Cell.own 5 rfl rfl | exact Cell.ofRo (by assumption))) rfl ?_)
    refine op (y (x_assign rfl) rfl ?_)
    refine nil ?_
    refine n_then ?_
    refine seq ?_
    refine region ?_
    refine op (y (x_move rfl) rfl ?_)
    refine op (y (x_move rfl) rfl ?_)
    refine op (y (x_move rfl) rfl ?_)
    refine op (y (x_move rfl) rfl ?_)
    refine op (e_call (caps := []) rfl fn_73 rfl rfl (Letter_c N[i] _ _) fun v24 ro24 L24 hle24 hp24 => ?_)
    obtain ⟨rfl, rfl, rfl⟩ := hp24
    refine op (e_mapSet 1 Try.underlying130 kI rfl rfl rfl rfl hEn (fun _ _ => rfl) fun es2 clk2 hEn2 => ?_)
    refine nil ?_
    refine n_then ?_
    refine region ?_
    refine op (y (x_move rfl) rfl ?_)
    refine op (y (x_move rfl) rfl ?_)
    refine op (y (x_move rfl) rfl ?_)
    refine op (y ((x_lookup Try.underlying130 kI zc_9 rfl rfl (mem1 (mem0 (List.mem_singleton.2 rfl))) hEn2).as (v' := encA (letter N[i])) (by rw [mget_mset, if_pos rfl]; rfl)) rfl ?_)
    refine op (e_call rfl fn_101 rfl rfl (TNode_c x2 x2N R2 _ _ hR2 (letter N[i])) fun v29 ro29 L29 hle29 hp29 => ?_)
    obtain ⟨_, R3, hR3, rfl, rfl⟩ := hp29
    refine nil ?_
    refine n_in ?_
    refine n_then ?_
    refine region ?_
    refine op (y (x_add rfl rfl _ (wr (by omega) (by omega))) rfl ?_)
    refine op (y (x_move rfl) rfl ?_)
    refine nil ?_
    exact round (N.length - (i + 1)) [(0, .pointer (some ⟨x, 0, none⟩)), (1, .func (.func 73) #[] #[]), (5, .map (some b11)), (6, .pointer (some ⟨x2, 0, none⟩)), (14, .slice _ N.length cap14), (15, .int .i64 (N.length : Nat)), (16, .int .i64 ((i + 1) : Nat))] (by omega) ⟨rfl, rfl, rfl, rfl, rfl, rfl, rfl, trivial⟩ ⟨i + 1, _, _, _, _, _, rfl, rfl, rfl, rfl, by omega, hR3, hEn2, fun a ha => by
        rw [mget_mset]
        by_cases e : N[i] = a
        · rw [if_pos e, ← e]; rfl
        · rw [if_neg e]
          rw [take_snoc' hx, List.mem_append, List.mem_singleton] at ha
          rcases ha with ha | ha
          · exact hmq a ha
          · exact absurd ha.symm e⟩
  · try simp only [decide_eq_true_eq, decide_eq_false_iff_not, beq_iff_eq, bne_iff_ne, ne_eq, beq_eq_false_iff_ne, bne_eq_false_iff_eq, Bool.not_eq_true', Bool.not_eq_false', Bool.not_eq_true, Bool.not_eq_false, Decidable.not_not, Int.not_lt, Int.not_le] at h4
    refine exit ?_
    refine e_then ?_
    refine e_then ?_
    refine e_in ?_
    refine n_then ?_
    refine seq ?_
    refine seq ?_
    refine region ?_
    refine op (y (x_move rfl) rfl ?_)
    refine op (e_call rfl fn_76 rfl rfl (GrEdges_c x N E R _ _ hR (mem2 hL) (by omega) (by omega)) fun v32 ro32 L32 hle32 hp32 => ?_)
    obtain ⟨pl, hps, hpp, A32, cap32, R32, rfl, hO32, hLL32⟩ := hp32
    subst hLL32
    have hpl : pl.length ≤ 1000 := by rw [hpp.length_eq]; exact hnE
    refine ufreeze fun ro32x hle32x hR32 => ?_
    have hP := OwnS.sl hO32 (fun _ _ => rfl) hR32
    obtain rfl : i = N.length := by omega
    rw [List.take_length] at hmq
    refine op (y (x_lenSl sz_93 rfl) rfl ?_)
    refine op (y (x_move rfl) rfl ?_)
    refine nil ?_
    refine n_then ?_
    refine block ?_
    refine loop (fun m F ro' L' => ∃ (i : Nat) (x2N : List (Fin 8)) (R2 : List Blk), (m = pl.length - i) ∧ (F = [(0, .pointer (some ⟨x, 0, none⟩)), (1, .func (.func 73) #[] #[]), (5, .map (some b11)), (6, .pointer (some ⟨x2, 0, none⟩)), (32, .slice A32 pl.length cap32), (33, .int .i64 (pl.length : Nat)), (34, .int .i64 (i : Nat))]) ∧ (ro32x = ro') ∧ (L' = R2 :: [(b11, .map esn clkn)] :: L) ∧ (i ≤ pl.length) ∧ (RelT x2 x2N R2)) (pl.length - 0) [(0, .pointer (some ⟨x, 0, none⟩)), (1, .func (.func 73) #[] #[]), (5, .map (some b11)), (6, .pointer (some ⟨x2, 0, none⟩)), (32, .slice A32 pl.length cap32), (33, .int .i64 (pl.length : Nat)), (34, .int .i64 (0 : Nat))] ⟨rfl, rfl, rfl, rfl, rfl, rfl, rfl, trivial⟩ ⟨0, _, _, rfl, rfl, rfl, rfl, by omega, hR2⟩ ?_
    rintro m F ro' L' ⟨i, x2N, R2, rfl, rfl, rfl, rfl, hi, hR2⟩
    refine seq ?_
    refine region ?_
    refine op (y (x_lss rfl rfl) rfl ?_)
    refine nil ?_
    refine n_then ?_
    refine seq ?_
    refine cond rfl (fun h10 => ?_) (fun h10 => ?_)
    · try simp only [decide_eq_true_eq, decide_eq_false_iff_not, beq_iff_eq, bne_iff_ne, ne_eq, beq_eq_false_iff_ne, bne_eq_false_iff_eq, Bool.not_eq_true', Bool.not_eq_false', Bool.not_eq_true, Bool.not_eq_false, Decidable.not_not, Int.not_lt, Int.not_le] at h10
      refine skip ?_
      refine n_then ?_
      refine seq ?_
      refine block ?_
      refine seq ?_
      have hil : i < pl.length := by omega
      obtain ⟨bbx, offx, rfl, hcx⟩ := hP.at_ (i := i) (by omega)
      have hx := List.getElem?_eq_getElem (show i < pl.length from by omega)
      have cx0 := hcx i _ hx 0 _ rfl
      have hme : pl[i] ∈ E := hpp.mem_iff.1 (List.getElem_mem hil)
      have hm1 := hR.fstE hme
      have hm2 := hE2 _ hme
      refine region ?_
      refine op (y (x_indexNat sz_93 rfl rfl (by omega)) rfl ?_)
      refine op (y (x_loadN (vs := encEdge pl[i]) ag_96 rfl rfl (CellsAt.ofRo (hcx i _ hx))) rfl ?_)
      refine op (e_alloc rfl zc_96 rfl fun b10 => ?_)
      first | refine op (e_store 0 rfl rfl ts_96 rfl rfl rfl rfl rfl rfl ?_) | refine op (e_store 1 rfl rfl ts_96 rfl rfl rfl rfl rfl rfl ?_) | refine op (e_store 2 rfl rfl ts_96 rfl rfl rfl rfl rfl rfl ?_) | refine op (e_store 3 rfl rfl ts_96 rfl rfl rfl rfl rfl rfl ?_) | refine op (e_store 4 rfl rfl ts_96 rfl rfl rfl rfl rfl rfl ?_) | refine op (e_store 5 rfl rfl ts_96 rfl rfl rfl rfl rfl rfl ?_)
      refine nil ?_
      refine n_then ?_
      refine region ?_
      refine op (y (x_move rfl) rfl ?_)
      refine op (y (x_move rfl) rfl ?_)
      refine op (y (x_fieldAddr fo_96_0 rfl) rfl ?_)
      refine op (y (x_load1 ag_3 rfl (by first | assumption | exact Cell.own 0 rfl rfl | exact Cell.own 1 rfl rfl | exact Cell.own 2 rfl rfl | exact Cell.own 3 rfl rfl | exact Cell.own 4 rfl rfl | exact Cell.own 5 rfl rfl | exact Cell.ofRo (by assumption))) rfl ?_)
      refine op (y ((x_lookup Try.underlying130 kI zc_9 rfl rfl (mem1 (mem1 (mem0 (List.mem_singleton.2 rfl)))) hEn).as (v' := encA (letter pl[i].1)) (by rw [hmq _ hm1]; rfl)) rfl ?_)
      refine op (y (x_move rfl) rfl ?_)
      refine op (y (x_fieldAddr fo_96_1 rfl) rfl ?_)
      refine op (y (x_load1 ag_3 rfl (by first | assumption | exact Cell.own 0 rfl rfl | exact Cell.own 1 rfl rfl | exact Cell.own 2 rfl rfl | exact Cell.own 3 rfl rfl | exact Cell.own 4 rfl rfl | exact Cell.own 5 rfl rfl | exact Cell.ofRo (by assumption))) rfl ?_)
      refine op (y ((x_lookup Try.underlying130 kI zc_9 rfl rfl (mem1 (mem1 (mem0 (List.mem_singleton.2 rfl)))) hEn).as (v' := encA (letter pl[i].2.1)) (by rw [hmq _ hm2]; rfl)) rfl ?_)
      refine op (y (x_fieldAddr fo_96_2 rfl) rfl ?_)
      refine op (y (x_load1 ag_3 rfl (by first | assumption | exact Cell.own 0 rfl rfl | exact Cell.own 1 rfl rfl | exact Cell.own 2 rfl rfl | exact Cell.own 3 rfl rfl | exact Cell.own 4 rfl rfl | exact Cell.own 5 rfl rfl | exact Cell.ofRo (by assumption))) rfl ?_)
      refine swap0 ?_
      refine op (e_call rfl fn_102 rfl rfl (TEdge_c x2 x2N R2 _ _ hR2 _ _ _ (RelG.i64 hR hme).2.2) fun v49 ro49 L49 hle49 hp49 => ?_)
      obtain ⟨R3, hR3, rfl, rfl⟩ := hp49
      refine nil ?_
      refine n_in ?_
      refine n_then ?_
      refine region ?_
      refine op (y (x_add rfl rfl _ (wr (by omega) (by omega))) rfl ?_)
      refine op (y (x_move rfl) rfl ?_)
      refine nil ?_
      refine swap0 ?_
      refine drop0 ?_
      exact round (pl.length - (i + 1)) [(0, .pointer (some ⟨x, 0, none⟩)), (1, .func (.func 73) #[] #[]), (5, .map (some b11)), (6, .pointer (some ⟨x2, 0, none⟩)), (32, .slice _ pl.length cap32), (33, .int .i64 (pl.length : Nat)), (34, .int .i64 ((i + 1) : Nat))] (by omega) ⟨rfl, rfl, rfl, rfl, rfl, rfl, rfl, trivial⟩ ⟨i + 1, _, _, rfl, rfl, rfl, rfl, by omega, hR3⟩
    · try simp only [decide_eq_true_eq, decide_eq_false_iff_not, beq_iff_eq, bne_iff_ne, ne_eq, beq_eq_false_iff_ne, bne_eq_false_iff_eq, Bool.not_eq_true', Bool.not_eq_false', Bool.not_eq_true, Bool.not_eq_false, Decidable.not_not, Int.not_lt, Int.not_le] at h10
      refine exit ?_
      refine e_then ?_
      refine e_then ?_
      refine e_in ?_
      refine n_then ?_
      refine seq ?_
      refine region ?_
      refine op (y (x_move rfl) rfl ?_)
      refine op (y (x_assign rfl) rfl ?_)
      refine nil ?_
      refine n_then ?_
      refine ret ?_
      exact done rfl (.tmp rfl (.nil)) (hle14x.trans (hle32.trans hle32x)) (R2 :: L) (⟨_, .refl _, List.Sublist.append (.refl _) (List.sublist_append_right _ _)⟩) (⟨x2, x2N, R2, rfl, hR2, rfl⟩)

/-- what the asking keeps: the asked ones, the divisor -/
def QD (b10 b5 : Nat) (d : Int) (asked : List Int) (RS : List Blk) : Prop := ∃ A cap Ra, OwnS 3 1 A asked.length cap (asked.flatMap encInt) Ra ∧ RS = (b10, .cells [.slice A asked.length cap].toArray 23 (0, 0)) :: (b5, .cells [.int .i64 d].toArray 3 (0, 0)) :: Ra
theorem tdiv_i64 {a d : Int} (ha : I64 a) (hd : 1 ≤ d) : I64 (a.tdiv d) := by
  obtain ⟨h1, h2⟩ := ha
  have h3 : (a.tdiv d).natAbs ≤ a.natAbs := by
    rw [Int.natAbs_tdiv]
    exact Nat.div_le_self _ _
  unfold I64
  by_cases h : 0 ≤ a
  · have h4 : 0 ≤ a.tdiv d := Int.tdiv_nonneg h (by omega)
    omega
  · have h4 : 0 ≤ (-a).tdiv d := Int.tdiv_nonneg (by omega) (by omega)
    have h5 : a.tdiv d = -((-a).tdiv d) := by rw [Int.neg_tdiv, Int.neg_neg]
    omega

theorem Div_c (asked : List Int) (A : Option Addr) (cap : Nat) (Ra : List Blk) (b10 b5 : Nat) (a d : Int) (ro : Ro) (L : List (List Blk)) (hO : OwnS 3 1 A asked.length cap (asked.flatMap encInt) Ra) (hn : asked.length ≤ 1000) (ha : I64 a) (hd : 1 ≤ d) :
    CT Try.prog 71 [.int .i64 a, .pointer (some ⟨b10, 0, none⟩), .pointer (some ⟨b5, 0, none⟩)].toArray ro ([(b10, .cells [.slice A asked.length cap].toArray 23 (0, 0))] :: [(b5, .cells [.int .i64 d].toArray 3 (0, 0))] :: Ra :: L)
      (fun v ro' L' => v = .int .i64 (a.tdiv d) ∧ ro = ro' ∧ ∃ A2 cap2 Ra2, OwnS 3 1 A2 (asked.length + 1) cap2 ((asked ++ [a]).flatMap encInt) Ra2 ∧ L' = [(b10, .cells [.slice A2 (asked.length + 1) cap2].toArray 23 (0, 0))] :: [(b5, .cells [.int .i64 d].toArray 3 (0, 0))] :: Ra2 :: L) := by
  refine enter Try.func71 rfl Try.ntmps71 rfl ?_
  refine seq ?_
  refine region ?_
  refine op (y (x_assign rfl) rfl ?_)
  refine nil ?_
  refine n_then ?_
  refine seq ?_
  refine region ?_
  refine op (y (x_load1 ag_23 rfl (by first | assumption | exact Cell.own 0 rfl rfl | exact Cell.own 1 rfl rfl | exact Cell.own 2 rfl rfl | exact Cell.own 3 rfl rfl | exact Cell.own 4 rfl rfl | exact Cell.own 5 rfl rfl | exact Cell.ofRo (by assumption))) rfl ?_)
  refine op (y (x_move rfl) rfl ?_)
  refine op (e_slice1 rfl Try.underlying23 ti_3 rfl rfl (by decide) (by decide) rfl rfl rfl fun b7 => ?_)
  refine op (e_append1 2 rfl st_23 rfl rfl rfl hO rfl rfl (by omega) (by omega) (fun _ => rfl) fun A8 cap8 R8 hO8 => ?_)
  first | refine op (e_store 0 rfl rfl ts_23 rfl rfl rfl rfl rfl rfl ?_) | refine op (e_store 1 rfl rfl ts_23 rfl rfl rfl rfl rfl rfl ?_) | refine op (e_store 2 rfl rfl ts_23 rfl rfl rfl rfl rfl rfl ?_) | refine op (e_store 3 rfl rfl ts_23 rfl rfl rfl rfl rfl rfl ?_) | refine op (e_store 4 rfl rfl ts_23 rfl rfl rfl rfl rfl rfl ?_) | refine op (e_store 5 rfl rfl ts_23 rfl rfl rfl rfl rfl rfl ?_)
  refine nil ?_
  refine n_then ?_
  refine seq ?_
  refine region ?_
  refine op (y (x_move rfl) rfl ?_)
  refine op (y (x_load1 ag_3 rfl (by first | assumption | exact Cell.own 0 rfl rfl | exact Cell.own 1 rfl rfl | exact Cell.own 2 rfl rfl | exact Cell.own 3 rfl rfl | exact Cell.own 4 rfl rfl | exact Cell.own 5 rfl rfl | exact Cell.ofRo (by assumption))) rfl ?_)
  refine op (y (x_quo rfl rfl (by omega) (a.tdiv d) (wr (tdiv_i64 ha hd).1 (tdiv_i64 ha hd).2)) rfl ?_)
  refine op (y (x_assign rfl) rfl ?_)
  refine nil ?_
  refine n_then ?_
  refine ret ?_
  exact done rfl (.tmp rfl (.nil)) (Ro.le.refl _) (_) (⟨_, .refl _, .refl _⟩) (⟨rfl, rfl, _, _, _, hO8.snoc, rfl⟩)

theorem Div_cb {b10 b5 : Nat} {d : Int} (hd : 1 ≤ d) {N : List Int} (h64 : ∀ a ∈ N, I64 a) : CB 71 [.pointer (some ⟨b10, 0, none⟩), .pointer (some ⟨b5, 0, none⟩)] (fun a => a.tdiv d) (QD b10 b5 d) N := fun asked RS a ro L ha hn ⟨A, cap, Ra, hO, hRS⟩ => fun w hi => by
  subst hRS
  have hi2 : I ro ([(b10, .cells [.slice A asked.length cap].toArray 23 (0, 0))] :: [(b5, .cells [.int .i64 d].toArray 3 (0, 0))] :: Ra :: L) w := hi.sub ⟨_, .refl _, .refl _⟩
  refine (Div_c asked A cap Ra b10 b5 a d ro L hO hn (h64 a ha) hd w hi2).mono fun e w' ⟨v, ro', L', he, hle, hii, hv, hro, A2, cap2, Ra2, hO2, hL⟩ => ?_
  subst hL
  have hl : (asked ++ [a]).length = asked.length + 1 := by simp
  refine ⟨v, ro', ((b10, .cells [.slice A2 (asked.length + 1) cap2].toArray 23 (0, 0)) :: (b5, .cells [.int .i64 d].toArray 3 (0, 0)) :: Ra2) :: L, he, hle, hii.sub ⟨_, .refl _, .refl _⟩, hv, hro, (b10, .cells [.slice A2 (asked.length + 1) cap2].toArray 23 (0, 0)) :: (b5, .cells [.int .i64 d].toArray 3 (0, 0)) :: Ra2, ⟨A2, cap2, Ra2, by rw [hl]; exact hO2, by rw [hl]⟩, rfl⟩

end Go.Proofs.Ytlmeblhcipkgmaa
