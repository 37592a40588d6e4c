/- The walk of the reference of graphs: the cycle. -/
import Derived.Test.YtlmeblhcipkgmaaG22
namespace Go.Proofs.Ytlmeblhcipkgmaa
open Go Go.U
set_option maxRecDepth 20000
set_option linter.unusedSimpArgs false
set_option linter.unusedVariables false

open Go.RowKit
theorem bst_take {N to : List Int} {F : Int → Option Nat} {i : Nat} {best a : Int} {d : Nat} (hx : N[i]? = some a) (ha : a ∈ to) (hF : F a = some d) (h : Bst N to F i best) (hlt : best = -1 ∨ ∃ (j : Nat) (b : Int) (e : Nat), best = (j : Nat) ∧ N[j]? = some b ∧ F b = some e ∧ d < e) : Bst N to F (i + 1) (i : Nat) := by
  have hall : ∀ j', j' < i → ∀ c, N[j']? = some c → c ∈ to → ∀ e, F c = some e → d < e := fun j' hj' c hc hct e he => by
    rcases h with ⟨h1, h2⟩ | ⟨j, b, d0, h1, h2, h3, h4, h5, h6, h7⟩
    · rw [h2 j' hj' c hc hct] at he; cases he
    · rcases hlt with h8 | ⟨j2, b2, e2, h8, h9, h10, h11⟩
      · omega
      · have : j = j2 := by omega
        subst this
        rw [h3] at h9; cases h9
        rw [h5] at h10; cases h10
        have := h6 j' hj' c hc hct e he
        omega
  refine .inr ⟨i, a, d, by omega, rfl, hx, ha, hF, fun j' hj' c hc hct e he => ?_, hall⟩
  rcases Nat.lt_or_ge j' i with h1 | h1
  · have := hall j' h1 c hc hct e he; omega
  · have : j' = i := by omega
    subst this
    rw [hx] at hc; cases hc
    rw [hF] at he; cases he; omega
theorem bst_keep {N to : List Int} {F : Int → Option Nat} {i : Nat} {best a : Int} (hx : N[i]? = some a) (h : Bst N to F i best) (hk : a ∉ to ∨ F a = none ∨ ∃ (j : Nat) (b : Int) (e d : Nat), best = (j : Nat) ∧ N[j]? = some b ∧ F b = some e ∧ F a = some d ∧ e ≤ d) : Bst N to F (i + 1) best := by
  rcases h with ⟨h1, h2⟩ | ⟨j, b, d0, h1, h2, h3, h4, h5, h6, h7⟩
  · refine .inl ⟨h1, fun j' hj' c hc hct => ?_⟩
    rcases Nat.lt_or_ge j' i with h3 | h3
    · exact h2 j' h3 c hc hct
    · have : j' = i := by omega
      subst this
      rw [hx] at hc; cases hc
      rcases hk with h4 | h4 | ⟨j, _, _, _, h4, _⟩
      · exact absurd hct h4
      · exact h4
      · omega
  · refine .inr ⟨j, b, d0, by omega, h2, h3, h4, h5, fun j' hj' c hc hct e he => ?_, h7⟩
    rcases Nat.lt_or_ge j' i with h8 | h8
    · exact h6 j' h8 c hc hct e he
    · have : j' = i := by omega
      subst this
      rw [hx] at hc; cases hc
      rcases hk with h9 | h9 | ⟨j2, b2, e2, d2, h9, h10, h11, h12, h13⟩
      · exact absurd hct h9
      · rw [h9] at he; cases he
      · have : j = j2 := by omega
        subst this
        rw [h3] at h10; cases h10
        rw [h5] at h11; cases h11
        rw [h12] at he; cases he; exact h13

theorem GCycle_c (N : List Int) (E : List Ed) (A : Option Addr) (cap : Nat) (B : Option Addr) (cap2 : Nat) (ro : Ro) (L : List (List Blk)) (hA : Sl ro 1 encInt A cap N) (hB : Sl ro 3 encEdge B cap2 E) (hn : N.length ≤ 1000) (hne : E.length ≤ 1000) (hNn : N.Nodup) (hNO : ∀ u w, w ∈ Ob E u → u ∈ N) (hNs : N.Pairwise (· < ·)) (hNO2 : ∀ u w, w ∈ Ob E u → w ∈ N) :
    CT Try.prog 67 [gv A N.length cap B E.length cap2].toArray ro L (PO 3 1 encInt (cycR (Ob E) N) L) := by
  refine enter Try.func67 rfl Try.ntmps67 rfl ?_
  refine seq ?_
  refine region ?_
  refine op (e_box rfl rfl rfl fun b1 => ?_)
  refine op (y (x_assign rfl) rfl ?_)
  refine nil ?_
  refine n_then ?_
  refine seq ?_
  refine region ?_
  refine op (y (x_loadOwn 0 [.slice A N.length cap, .slice B E.length cap2] ag_63 rfl rfl rfl rfl) rfl ?_)
  refine op (e_call rfl fn_97 rfl rfl (GStart_c N E A cap B cap2 _ _ hA hB hn hne hNn hNO) fun v13 ro13 L13 hle13 hp13 => ?_)
  obtain ⟨kc, sb, rfl, hLL13, hst⟩ := hp13
  subst hLL13
  have hA1 := hA.mono hle13
  have hB1 := hB.mono hle13
  refine op (y (x_move rfl) rfl ?_)
  refine op (y (x_extract rfl rfl) rfl ?_)
  refine op (y (x_extract rfl rfl) rfl ?_)
  refine op (y (x_assign rfl) rfl ?_)
  refine op (y (x_assign rfl) rfl ?_)
  refine nil ?_
  refine n_then ?_
  refine seq ?_
  refine seq ?_
  refine region ?_
  refine op (y (x_move rfl) rfl ?_)
  refine op (y (x_not rfl) rfl ?_)
  refine nil ?_
  refine n_then ?_
  refine cond rfl (fun h2 => ?_) (fun h2 => ?_)
  · try simp only [decide_eq_true_eq, decide_eq_false_iff_not, beq_iff_eq, bne_iff_ne, ne_eq, beq_eq_false_iff_ne, bne_eq_false_iff_eq, Bool.not_eq_true', Bool.not_eq_false', Bool.not_eq_true, Bool.not_eq_false, Decidable.not_not, Int.not_lt, Int.not_le] at h2
    refine seq ?_
    refine region ?_
    refine op (y (x_assign rfl) rfl ?_)
    refine nil ?_
    refine n_then ?_
    refine ret ?_
    refine r_then ?_
    have hsb : sb = false := by simpa using h2
    have hcy : cycR (Ob E) N = [] := by
      rcases hst with ⟨_, h⟩ | ⟨h, _⟩
      · unfold cycR; rw [h]
      · rw [hsb] at h; cases h
    refine drop0 ?_
    refine emp ?_
    exact done rfl (.tmp rfl (.nil)) (hle13) (_) (⟨_, .refl _, .refl _⟩) (⟨_, _, _, by rw [hcy]; rfl, by rw [hcy]; exact OwnS.none_ 3 1, rfl⟩)
  · try simp only [decide_eq_true_eq, decide_eq_false_iff_not, beq_iff_eq, bne_iff_ne, ne_eq, beq_eq_false_iff_ne, bne_eq_false_iff_eq, Bool.not_eq_true', Bool.not_eq_false', Bool.not_eq_true, Bool.not_eq_false, Decidable.not_not, Int.not_lt, Int.not_le] at h2
    refine skip ?_
    refine n_then ?_
    refine seq ?_
    refine region ?_
    refine op (y (x_loadOwn 0 [.slice A N.length cap, .slice B E.length cap2] ag_63 rfl rfl rfl rfl) rfl ?_)
    refine op (y (x_move rfl) rfl ?_)
    refine op (e_call rfl fn_98 rfl rfl (GFar_c N E A cap B cap2 _ _ hA1 hB1 hn hne hNn hNO hNO2 kc) fun v20 ro20 L20 hle20 hp20 => ?_)
    obtain ⟨A20, cap20, R20, rfl, hO20, hLL20⟩ := hp20
    subst hLL20
    refine ufreeze fun ro20x hle20x hR20 => ?_
    have hF := OwnS.sl (e := 3) (k := 1) (enc := encInt) (l := (N.map (fun a => dI ((fd (Ob E) N kc N.length) a)))) (by rw [List.length_map]; exact hO20) (fun _ _ => rfl) hR20
    have hA2 := (hA1.mono hle20).mono hle20x
    have hB2 := (hB1.mono hle20).mono hle20x
    have hsb : sb = true := by simpa using h2
    have hfs : N.find? (fun k => (fin (Ob E) N k k).isSome) = some kc := by
      rcases hst with ⟨h, _⟩ | ⟨_, h⟩
      · rw [hsb] at h; cases h
      · exact h
    obtain ⟨nn, hnn⟩ := Option.isSome_iff_exists.1 (List.find?_some (p := fun k => (fin (Ob E) N k k).isSome) hfs)
    have hLs := (fin_spec hNO _ _).1 hnn
    have hn1 := hLs.1
    have hnN2 := hLs.le hNO
    have hcy : cycR (Ob E) N = kc :: cg (Ob E) (fin (Ob E) N kc) kc (nn - 1) kc := by unfold cycR; rw [hfs]; simp only [cyc1, hnn]
    refine op (y (x_assign rfl) rfl ?_)
    refine nil ?_
    refine n_then ?_
    refine seq ?_
    refine region ?_
    refine op (y (x_move rfl) rfl ?_)
    refine op (e_slice1 rfl Try.underlying23 ti_3 rfl rfl (by decide) (by decide) rfl rfl rfl fun b22 => ?_)
    refine op (y (x_assign rfl) rfl ?_)
    refine nil ?_
    refine n_then ?_
    refine seq ?_
    refine region ?_
    refine op (y (x_move rfl) rfl ?_)
    refine op (y (x_assign rfl) rfl ?_)
    refine nil ?_
    refine n_then ?_
    refine seq ?_
    refine block ?_
    refine loop (fun m F rob' Lb' => ∃ (mr : Nat) (pre : List Int) (la : Int) (A6 : Option Addr) (cap6 : Nat) (R6 : List Blk), (m = mr + 1) ∧ (F = [(1, .pointer (some ⟨b1, 0, none⟩)), (3, .int .i64 kc), (5, .slice A20 N.length cap20), (6, .slice A6 (pre.length + 1) cap6), (7, .int .i64 la)]) ∧ (Lb' = R6 :: [(b1, .cells [.slice A N.length cap, .slice B E.length cap2].toArray 63 (0, 0))] :: L) ∧ (ro.le rob') ∧ (Sl rob' 1 encInt A cap N) ∧ (Sl rob' 3 encEdge B cap2 E) ∧ (Sl rob' 1 encInt A20 cap20 (N.map (fun a => dI ((fd (Ob E) N kc N.length) a)))) ∧ (OwnS 3 1 A6 (pre.length + 1) cap6 ((pre ++ [la]).flatMap encInt) R6) ∧ (Lst (Ob E) kc (mr + 1) la) ∧ (kc :: cg (Ob E) (fin (Ob E) N kc) kc (nn - 1) kc = (pre ++ [la]) ++ cg (Ob E) (fin (Ob E) N kc) kc mr la) ∧ (pre.length + 1 + mr = nn)) (((nn - 1)) + 1) [(1, .pointer (some ⟨b1, 0, none⟩)), (3, .int .i64 kc), (5, .slice A20 N.length cap20), (6, .slice _ ((([] : List Int)).length + 1) 1), (7, .int .i64 kc)] ⟨rfl, rfl, rfl, rfl, rfl, trivial⟩ ⟨(nn - 1), ([] : List Int), kc, _, 1, _, rfl, rfl, rfl, (hle13.trans hle20).trans hle20x, hA2, hB2, hF, OwnS.one, by rw [show nn - 1 + 1 = nn by omega]; exact hLs, rfl, by simp; omega⟩ ?_
    rintro m F rob' Lb' ⟨mr, pre, la, A6, cap6, R6, rfl, rfl, rfl, hle, hA, hB, hF, hO, hLst, heq, hpn⟩
    refine seq ?_
    refine seq ?_
    refine region ?_
    refine op (y (x_move rfl) rfl ?_)
    refine op (y (x_lenSl sz_23 rfl) rfl ?_)
    refine op (y (x_fieldAddr fo_63_0 rfl) rfl ?_)
    refine op (y (x_load1 ag_23 rfl (by first | assumption | exact Cell.own 0 rfl rfl | exact Cell.own 1 rfl rfl | exact Cell.own 2 rfl rfl | exact Cell.own 3 rfl rfl | exact Cell.own 4 rfl rfl | exact Cell.own 5 rfl rfl | exact Cell.ofRo (by assumption))) rfl ?_)
    refine op (y (x_lenSl sz_23 rfl) rfl ?_)
    refine op (y (x_leq rfl rfl) rfl ?_)
    refine nil ?_
    refine n_then ?_
    refine cond rfl (fun h7 => ?_) (fun h7 => ?_)
    · try simp only [decide_eq_true_eq, decide_eq_false_iff_not, beq_iff_eq, bne_iff_ne, ne_eq, beq_eq_false_iff_ne, bne_eq_false_iff_eq, Bool.not_eq_true', Bool.not_eq_false', Bool.not_eq_true, Bool.not_eq_false, Decidable.not_not, Int.not_lt, Int.not_le] at h7
      refine skip ?_
      refine n_then ?_
      refine block ?_
      refine seq ?_
      refine region ?_
      refine op (y (x_loadOwn 1 [.slice A N.length cap, .slice B E.length cap2] ag_63 rfl rfl rfl rfl) rfl ?_)
      refine op (y (x_move rfl) rfl ?_)
      refine op (e_call rfl fn_64 rfl rfl (GOut_c N E A cap B cap2 _ _ hA hB la (by omega)) fun v32 ro32 L32 hle32 hp32 => ?_)
      obtain ⟨A32, cap32, rfl, hS32, hLL⟩ := hp32
      subst hLL
      have hA3 := hA.mono hle32
      have hBB := hB.mono hle32
      have hF3 := hF.mono hle32
      refine op (y (x_assign rfl) rfl ?_)
      refine nil ?_
      refine n_then ?_
      refine seq ?_
      refine region ?_
      refine op (y (x_assign rfl) rfl ?_)
      refine nil ?_
      refine n_then ?_
      refine seq ?_
      refine seq ?_
      refine region ?_
      refine op (y (x_assign rfl) rfl ?_)
      refine nil ?_
      refine n_then ?_
      refine block ?_
      refine loop (fun m F roc' Lc' => ∃ (i : Nat) (best : Int), (m = N.length - i) ∧ (F = [(1, .pointer (some ⟨b1, 0, none⟩)), (3, .int .i64 kc), (5, .slice A20 N.length cap20), (6, .slice A6 (pre.length + 1) cap6), (7, .int .i64 la), (8, .slice A32 (BehindR (prE E) la).length cap32), (9, .int .i64 best), (10, .int .i64 (i : Nat))]) ∧ (ro32 = roc') ∧ (Lc' = R6 :: [(b1, .cells [.slice A N.length cap, .slice B E.length cap2].toArray 63 (0, 0))] :: L) ∧ (i ≤ N.length) ∧ (Bst N (Ob E la) (fd (Ob E) N kc N.length) i best)) (N.length - 0) [(1, .pointer (some ⟨b1, 0, none⟩)), (3, .int .i64 kc), (5, .slice A20 N.length cap20), (6, .slice A6 (pre.length + 1) cap6), (7, .int .i64 la), (8, .slice A32 (BehindR (prE E) la).length cap32), (9, .int .i64 ((-1))), (10, .int .i64 (0 : Nat))] ⟨rfl, rfl, rfl, rfl, rfl, rfl, rfl, rfl, trivial⟩ ⟨0, (-1), rfl, rfl, rfl, rfl, by omega, .inl ⟨rfl, by intro j hj; omega⟩⟩ ?_
      rintro m F roc' Lc' ⟨i, best, rfl, rfl, rfl, rfl, hi, hB3⟩
      refine seq ?_
      refine seq ?_
      refine region ?_
      refine op (y (x_move rfl) rfl ?_)
      refine op (y (x_fieldAddr fo_63_0 rfl) rfl ?_)
      refine op (y (x_load1 ag_23 rfl (by first | assumption | exact Cell.own 0 rfl rfl | exact Cell.own 1 rfl rfl | exact Cell.own 2 rfl rfl | exact Cell.own 3 rfl rfl | exact Cell.own 4 rfl rfl | exact Cell.own 5 rfl rfl | exact Cell.ofRo (by assumption))) rfl ?_)
      refine op (y (x_lenSl sz_23 rfl) rfl ?_)
      refine op (y (x_lss rfl rfl) rfl ?_)
      refine nil ?_
      refine n_then ?_
      refine cond rfl (fun h11 => ?_) (fun h11 => ?_)
      · try simp only [decide_eq_true_eq, decide_eq_false_iff_not, beq_iff_eq, bne_iff_ne, ne_eq, beq_eq_false_iff_ne, bne_eq_false_iff_eq, Bool.not_eq_true', Bool.not_eq_false', Bool.not_eq_true, Bool.not_eq_false, Decidable.not_not, Int.not_lt, Int.not_le] at h11
        refine skip ?_
        refine n_then ?_
        refine seqM (fun F roc' Lc' => ∃ (best : Int), (F = [(1, .pointer (some ⟨b1, 0, none⟩)), (3, .int .i64 kc), (5, .slice A20 N.length cap20), (6, .slice A6 (pre.length + 1) cap6), (7, .int .i64 la), (8, .slice A32 (BehindR (prE E) la).length cap32), (9, .int .i64 best), (10, .int .i64 (i : Nat))]) ∧ (ro32 = roc') ∧ (Lc' = R6 :: [(b1, .cells [.slice A N.length cap, .slice B E.length cap2].toArray 63 (0, 0))] :: L) ∧ (i < N.length) ∧ (Bst N (Ob E la) (fd (Ob E) N kc N.length) (i + 1) best)) ?_ ?_
        · skip
          refine block ?_
          refine seq ?_
          obtain ⟨bbx, offx, rfl, hcx⟩ := hA3.at_ (i := i) (by omega)
          have hx := List.getElem?_eq_getElem (show i < N.length from by omega)
          have cx0 := hcx i _ hx 0 _ rfl
          obtain ⟨bbf, offf, rfl, hcf⟩ := hF3.at_ (i := i) (by simp; omega)
          have cf0 := hcf i (dI ((fd (Ob E) N kc N.length) N[i])) (by rw [List.getElem?_map, hx]; rfl) 0 _ rfl
          refine drawL (by kernel_rfl) ?_
          refine d_take 0 rfl (by kernel_rfl) (by kernel_rfl) (by kernel_rfl) (fun _ _ _ h => h) rfl (.inl rfl) (x_move rfl) (fun w hi => by first | exact hi.j | exact J.of_le (Ro.le.refl _) (fun x hx => List.mem_append_right _ hx) hi | exact J.of_le (Ro.le.refl _) (fun x hx => List.mem_append_right _ (List.mem_append_right _ hx)) hi | exact J.of_le (Ro.le.refl _) (fun x hx => absurd hx (by simp)) hi | exact J.of_le (by assumption) (fun x hx => absurd hx (by simp)) hi) ?_
          refine d_take 1 rfl (by kernel_rfl) (by kernel_rfl) (by kernel_rfl) (fun _ _ _ h => h) rfl (.inl rfl) (x_fieldAddr fo_63_0 rfl) (fun w hi => by first | exact hi.j | exact J.of_le (Ro.le.refl _) (fun x hx => List.mem_append_right _ hx) hi | exact J.of_le (Ro.le.refl _) (fun x hx => List.mem_append_right _ (List.mem_append_right _ hx)) hi | exact J.of_le (Ro.le.refl _) (fun x hx => absurd hx (by simp)) hi | exact J.of_le (by assumption) (fun x hx => absurd hx (by simp)) hi) ?_
          refine d_take 2 rfl (by kernel_rfl) (by kernel_rfl) (by kernel_rfl) (fun _ _ _ h => h) rfl (.inl rfl) (x_load1 ag_23 rfl (by first | assumption | exact Cell.own 0 rfl rfl | exact Cell.own 1 rfl rfl | exact Cell.own 2 rfl rfl | exact Cell.own 3 rfl rfl | exact Cell.own 4 rfl rfl | exact Cell.own 5 rfl rfl | exact Cell.ofRo (by assumption))) (fun w hi => by first | exact hi.j | exact J.of_le (Ro.le.refl _) (fun x hx => List.mem_append_right _ hx) hi | exact J.of_le (Ro.le.refl _) (fun x hx => List.mem_append_right _ (List.mem_append_right _ hx)) hi | exact J.of_le (Ro.le.refl _) (fun x hx => absurd hx (by simp)) hi | exact J.of_le (by assumption) (fun x hx => absurd hx (by simp)) hi) ?_
          refine d_take 3 rfl (by kernel_rfl) (by kernel_rfl) (by kernel_rfl) (fun _ _ _ h => h) rfl (.inl rfl) (x_move rfl) (fun w hi => by first | exact hi.j | exact J.of_le (Ro.le.refl _) (fun x hx => List.mem_append_right _ hx) hi | exact J.of_le (Ro.le.refl _) (fun x hx => List.mem_append_right _ (List.mem_append_right _ hx)) hi | exact J.of_le (Ro.le.refl _) (fun x hx => absurd hx (by simp)) hi | exact J.of_le (by assumption) (fun x hx => absurd hx (by simp)) hi) ?_
          refine d_take 4 rfl (by kernel_rfl) (by kernel_rfl) (by kernel_rfl) (fun _ _ _ h => h) rfl (.inl rfl) (x_indexNat sz_23 rfl rfl (by omega)) (fun w hi => by first | exact hi.j | exact J.of_le (Ro.le.refl _) (fun x hx => List.mem_append_right _ hx) hi | exact J.of_le (Ro.le.refl _) (fun x hx => List.mem_append_right _ (List.mem_append_right _ hx)) hi | exact J.of_le (Ro.le.refl _) (fun x hx => absurd hx (by simp)) hi | exact J.of_le (by assumption) (fun x hx => absurd hx (by simp)) hi) ?_
          refine d_take 5 rfl (by kernel_rfl) (by kernel_rfl) (by kernel_rfl) (fun _ _ _ h => h) rfl (.inl rfl) (x_load1 ag_3 rfl (by first | assumption | exact Cell.own 0 rfl rfl | exact Cell.own 1 rfl rfl | exact Cell.own 2 rfl rfl | exact Cell.own 3 rfl rfl | exact Cell.own 4 rfl rfl | exact Cell.own 5 rfl rfl | exact Cell.ofRo (by assumption))) (fun w hi => by first | exact hi.j | exact J.of_le (Ro.le.refl _) (fun x hx => List.mem_append_right _ hx) hi | exact J.of_le (Ro.le.refl _) (fun x hx => List.mem_append_right _ (List.mem_append_right _ hx)) hi | exact J.of_le (Ro.le.refl _) (fun x hx => absurd hx (by simp)) hi | exact J.of_le (by assumption) (fun x hx => absurd hx (by simp)) hi) ?_
          refine d_one 6 rfl (by kernel_rfl) (.inl rfl) (e_call rfl fn_99 rfl rfl (Gin_c (BehindR (prE E) la) A32 cap32 N[i] _ _ hS32) fun v46 ro46 L46 hle46 hp46 => ?_)
          obtain ⟨rfl, rfl, rfl⟩ := hp46
          refine d_next (fun w hi => by first | exact hi.j | exact J.of_le (Ro.le.refl _) (fun x hx => List.mem_append_right _ hx) hi | exact J.of_le (Ro.le.refl _) (fun x hx => List.mem_append_right _ (List.mem_append_right _ hx)) hi | exact J.of_le (Ro.le.refl _) (fun x hx => absurd hx (by simp)) hi | exact J.of_le (by assumption) (fun x hx => absurd hx (by simp)) hi) ?_
          refine d_take 7 rfl (by kernel_rfl) (by kernel_rfl) (by kernel_rfl) (fun _ _ _ h => h) rfl (.inl rfl) (x_move rfl) (fun w hi => by first | exact hi.j | exact J.of_le (Ro.le.refl _) (fun x hx => List.mem_append_right _ hx) hi | exact J.of_le (Ro.le.refl _) (fun x hx => List.mem_append_right _ (List.mem_append_right _ hx)) hi | exact J.of_le (Ro.le.refl _) (fun x hx => absurd hx (by simp)) hi | exact J.of_le (by assumption) (fun x hx => absurd hx (by simp)) hi) ?_
          refine bsplit 47 rfl (fun g47 => ?_) (fun g47 => ?_)
          · try simp only [decide_eq_true_eq, decide_eq_false_iff_not, beq_iff_eq, bne_iff_ne, ne_eq, beq_eq_false_iff_ne, bne_eq_false_iff_eq, Bool.not_eq_true', Bool.not_eq_false', Bool.not_eq_true, Bool.not_eq_false, Decidable.not_not, Int.not_lt, Int.not_le] at g47
            refine d_take 8 rfl (by kernel_rfl) (by kernel_rfl) (by kernel_rfl) (fun _ _ _ h => h) rfl (.inr ⟨_, _, _, rfl, rfl, rfl⟩) (x_move rfl) (fun w hi => by first | exact hi.j | exact J.of_le (Ro.le.refl _) (fun x hx => List.mem_append_right _ hx) hi | exact J.of_le (Ro.le.refl _) (fun x hx => List.mem_append_right _ (List.mem_append_right _ hx)) hi | exact J.of_le (Ro.le.refl _) (fun x hx => absurd hx (by simp)) hi | exact J.of_le (by assumption) (fun x hx => absurd hx (by simp)) hi) ?_
            refine d_take 9 rfl (by kernel_rfl) (by kernel_rfl) (by kernel_rfl) (fun _ _ _ h => h) rfl (.inr ⟨_, _, _, rfl, rfl, rfl⟩) (x_move rfl) (fun w hi => by first | exact hi.j | exact J.of_le (Ro.le.refl _) (fun x hx => List.mem_append_right _ hx) hi | exact J.of_le (Ro.le.refl _) (fun x hx => List.mem_append_right _ (List.mem_append_right _ hx)) hi | exact J.of_le (Ro.le.refl _) (fun x hx => absurd hx (by simp)) hi | exact J.of_le (by assumption) (fun x hx => absurd hx (by simp)) hi) ?_
            refine d_take 10 rfl (by kernel_rfl) (by kernel_rfl) (by kernel_rfl) (fun _ _ _ h => h) rfl (.inr ⟨_, _, _, rfl, rfl, rfl⟩) (x_indexNat sz_23 rfl rfl (by omega)) (fun w hi => by first | exact hi.j | exact J.of_le (Ro.le.refl _) (fun x hx => List.mem_append_right _ hx) hi | exact J.of_le (Ro.le.refl _) (fun x hx => List.mem_append_right _ (List.mem_append_right _ hx)) hi | exact J.of_le (Ro.le.refl _) (fun x hx => absurd hx (by simp)) hi | exact J.of_le (by assumption) (fun x hx => absurd hx (by simp)) hi) ?_
            refine d_take 11 rfl (by kernel_rfl) (by kernel_rfl) (by kernel_rfl) (fun _ _ _ h => h) rfl (.inr ⟨_, _, _, rfl, rfl, rfl⟩) (x_load1 ag_3 rfl (by first | assumption | exact Cell.own 0 rfl rfl | exact Cell.own 1 rfl rfl | exact Cell.own 2 rfl rfl | exact Cell.own 3 rfl rfl | exact Cell.own 4 rfl rfl | exact Cell.own 5 rfl rfl | exact Cell.ofRo (by assumption))) (fun w hi => by first | exact hi.j | exact J.of_le (Ro.le.refl _) (fun x hx => List.mem_append_right _ hx) hi | exact J.of_le (Ro.le.refl _) (fun x hx => List.mem_append_right _ (List.mem_append_right _ hx)) hi | exact J.of_le (Ro.le.refl _) (fun x hx => absurd hx (by simp)) hi | exact J.of_le (by assumption) (fun x hx => absurd hx (by simp)) hi) ?_
            refine d_take 12 rfl (by kernel_rfl) (by kernel_rfl) (by kernel_rfl) (fun _ _ _ h => h) rfl (.inr ⟨_, _, _, rfl, rfl, rfl⟩) (x_geq rfl rfl) (fun w hi => by first | exact hi.j | exact J.of_le (Ro.le.refl _) (fun x hx => List.mem_append_right _ hx) hi | exact J.of_le (Ro.le.refl _) (fun x hx => List.mem_append_right _ (List.mem_append_right _ hx)) hi | exact J.of_le (Ro.le.refl _) (fun x hx => absurd hx (by simp)) hi | exact J.of_le (by assumption) (fun x hx => absurd hx (by simp)) hi) ?_
            refine d_take 13 rfl (by kernel_rfl) (by kernel_rfl) (by kernel_rfl) (fun _ _ _ h => h) rfl (.inl rfl) (x_pickT rfl rfl) (fun w hi => by first | exact hi.j | exact J.of_le (Ro.le.refl _) (fun x hx => List.mem_append_right _ hx) hi | exact J.of_le (Ro.le.refl _) (fun x hx => List.mem_append_right _ (List.mem_append_right _ hx)) hi | exact J.of_le (Ro.le.refl _) (fun x hx => absurd hx (by simp)) hi | exact J.of_le (by assumption) (fun x hx => absurd hx (by simp)) hi) ?_
            refine d_take 14 rfl (by kernel_rfl) (by kernel_rfl) (by kernel_rfl) (fun _ _ _ h => h) rfl (.inl rfl) (x_move rfl) (fun w hi => by first | exact hi.j | exact J.of_le (Ro.le.refl _) (fun x hx => List.mem_append_right _ hx) hi | exact J.of_le (Ro.le.refl _) (fun x hx => List.mem_append_right _ (List.mem_append_right _ hx)) hi | exact J.of_le (Ro.le.refl _) (fun x hx => absurd hx (by simp)) hi | exact J.of_le (by assumption) (fun x hx => absurd hx (by simp)) hi) ?_
            refine bsplit 54 rfl (fun g54 => ?_) (fun g54 => ?_)
            · try simp only [decide_eq_true_eq, decide_eq_false_iff_not, beq_iff_eq, bne_iff_ne, ne_eq, beq_eq_false_iff_ne, bne_eq_false_iff_eq, Bool.not_eq_true', Bool.not_eq_false', Bool.not_eq_true, Bool.not_eq_false, Decidable.not_not, Int.not_lt, Int.not_le] at g54
              refine d_take 15 rfl (by kernel_rfl) (by kernel_rfl) (by kernel_rfl) (fun _ _ _ h => h) rfl (.inr ⟨_, _, _, rfl, rfl, rfl⟩) (x_move rfl) (fun w hi => by first | exact hi.j | exact J.of_le (Ro.le.refl _) (fun x hx => List.mem_append_right _ hx) hi | exact J.of_le (Ro.le.refl _) (fun x hx => List.mem_append_right _ (List.mem_append_right _ hx)) hi | exact J.of_le (Ro.le.refl _) (fun x hx => absurd hx (by simp)) hi | exact J.of_le (by assumption) (fun x hx => absurd hx (by simp)) hi) ?_
              refine d_take 16 rfl (by kernel_rfl) (by kernel_rfl) (by kernel_rfl) (fun _ _ _ h => h) rfl (.inr ⟨_, _, _, rfl, rfl, rfl⟩) (x_lss rfl rfl) (fun w hi => by first | exact hi.j | exact J.of_le (Ro.le.refl _) (fun x hx => List.mem_append_right _ hx) hi | exact J.of_le (Ro.le.refl _) (fun x hx => List.mem_append_right _ (List.mem_append_right _ hx)) hi | exact J.of_le (Ro.le.refl _) (fun x hx => absurd hx (by simp)) hi | exact J.of_le (by assumption) (fun x hx => absurd hx (by simp)) hi) ?_
              refine d_take 17 rfl (by kernel_rfl) (by kernel_rfl) (by kernel_rfl) (fun _ _ _ h => h) rfl (.inr ⟨_, _, _, rfl, rfl, rfl⟩) (x_move rfl) (fun w hi => by first | exact hi.j | exact J.of_le (Ro.le.refl _) (fun x hx => List.mem_append_right _ hx) hi | exact J.of_le (Ro.le.refl _) (fun x hx => List.mem_append_right _ (List.mem_append_right _ hx)) hi | exact J.of_le (Ro.le.refl _) (fun x hx => absurd hx (by simp)) hi | exact J.of_le (by assumption) (fun x hx => absurd hx (by simp)) hi) ?_
              refine bsplit 57 rfl (fun g57 => ?_) (fun g57 => ?_)
              · try simp only [decide_eq_true_eq, decide_eq_false_iff_not, beq_iff_eq, bne_iff_ne, ne_eq, beq_eq_false_iff_ne, bne_eq_false_iff_eq, Bool.not_eq_true', Bool.not_eq_false', Bool.not_eq_true, Bool.not_eq_false, Decidable.not_not, Int.not_lt, Int.not_le] at g57
                refine d_skip 18 rfl (by kernel_rfl) (by kernel_rfl) (by kernel_rfl) (fun _ _ _ h => h) rfl rfl rfl rfl (fun w hi => by first | exact hi.j | exact J.of_le (Ro.le.refl _) (fun x hx => List.mem_append_right _ hx) hi | exact J.of_le (Ro.le.refl _) (fun x hx => List.mem_append_right _ (List.mem_append_right _ hx)) hi | exact J.of_le (Ro.le.refl _) (fun x hx => absurd hx (by simp)) hi | exact J.of_le (by assumption) (fun x hx => absurd hx (by simp)) hi) ?_
                refine d_skip 19 rfl (by kernel_rfl) (by kernel_rfl) (by kernel_rfl) (fun _ _ _ h => h) rfl rfl rfl rfl (fun w hi => by first | exact hi.j | exact J.of_le (Ro.le.refl _) (fun x hx => List.mem_append_right _ hx) hi | exact J.of_le (Ro.le.refl _) (fun x hx => List.mem_append_right _ (List.mem_append_right _ hx)) hi | exact J.of_le (Ro.le.refl _) (fun x hx => absurd hx (by simp)) hi | exact J.of_le (by assumption) (fun x hx => absurd hx (by simp)) hi) ?_
                refine d_skip 20 rfl (by kernel_rfl) (by kernel_rfl) (by kernel_rfl) (fun _ _ _ h => h) rfl rfl rfl rfl (fun w hi => by first | exact hi.j | exact J.of_le (Ro.le.refl _) (fun x hx => List.mem_append_right _ hx) hi | exact J.of_le (Ro.le.refl _) (fun x hx => List.mem_append_right _ (List.mem_append_right _ hx)) hi | exact J.of_le (Ro.le.refl _) (fun x hx => absurd hx (by simp)) hi | exact J.of_le (by assumption) (fun x hx => absurd hx (by simp)) hi) ?_
                refine d_skip 21 rfl (by kernel_rfl) (by kernel_rfl) (by kernel_rfl) (fun _ _ _ h => h) rfl rfl rfl rfl (fun w hi => by first | exact hi.j | exact J.of_le (Ro.le.refl _) (fun x hx => List.mem_append_right _ hx) hi | exact J.of_le (Ro.le.refl _) (fun x hx => List.mem_append_right _ (List.mem_append_right _ hx)) hi | exact J.of_le (Ro.le.refl _) (fun x hx => absurd hx (by simp)) hi | exact J.of_le (by assumption) (fun x hx => absurd hx (by simp)) hi) ?_
                refine d_skip 22 rfl (by kernel_rfl) (by kernel_rfl) (by kernel_rfl) (fun _ _ _ h => h) rfl rfl rfl rfl (fun w hi => by first | exact hi.j | exact J.of_le (Ro.le.refl _) (fun x hx => List.mem_append_right _ hx) hi | exact J.of_le (Ro.le.refl _) (fun x hx => List.mem_append_right _ (List.mem_append_right _ hx)) hi | exact J.of_le (Ro.le.refl _) (fun x hx => absurd hx (by simp)) hi | exact J.of_le (by assumption) (fun x hx => absurd hx (by simp)) hi) ?_
                refine d_skip 23 rfl (by kernel_rfl) (by kernel_rfl) (by kernel_rfl) (fun _ _ _ h => h) rfl rfl rfl rfl (fun w hi => by first | exact hi.j | exact J.of_le (Ro.le.refl _) (fun x hx => List.mem_append_right _ hx) hi | exact J.of_le (Ro.le.refl _) (fun x hx => List.mem_append_right _ (List.mem_append_right _ hx)) hi | exact J.of_le (Ro.le.refl _) (fun x hx => absurd hx (by simp)) hi | exact J.of_le (by assumption) (fun x hx => absurd hx (by simp)) hi) ?_
                refine d_skip 24 rfl (by kernel_rfl) (by kernel_rfl) (by kernel_rfl) (fun _ _ _ h => h) rfl rfl rfl rfl (fun w hi => by first | exact hi.j | exact J.of_le (Ro.le.refl _) (fun x hx => List.mem_append_right _ hx) hi | exact J.of_le (Ro.le.refl _) (fun x hx => List.mem_append_right _ (List.mem_append_right _ hx)) hi | exact J.of_le (Ro.le.refl _) (fun x hx => absurd hx (by simp)) hi | exact J.of_le (by assumption) (fun x hx => absurd hx (by simp)) hi) ?_
                refine d_skip 25 rfl (by kernel_rfl) (by kernel_rfl) (by kernel_rfl) (fun _ _ _ h => h) rfl rfl rfl rfl (fun w hi => by first | exact hi.j | exact J.of_le (Ro.le.refl _) (fun x hx => List.mem_append_right _ hx) hi | exact J.of_le (Ro.le.refl _) (fun x hx => List.mem_append_right _ (List.mem_append_right _ hx)) hi | exact J.of_le (Ro.le.refl _) (fun x hx => absurd hx (by simp)) hi | exact J.of_le (by assumption) (fun x hx => absurd hx (by simp)) hi) ?_
                refine d_skip 26 rfl (by kernel_rfl) (by kernel_rfl) (by kernel_rfl) (fun _ _ _ h => h) rfl rfl rfl rfl (fun w hi => by first | exact hi.j | exact J.of_le (Ro.le.refl _) (fun x hx => List.mem_append_right _ hx) hi | exact J.of_le (Ro.le.refl _) (fun x hx => List.mem_append_right _ (List.mem_append_right _ hx)) hi | exact J.of_le (Ro.le.refl _) (fun x hx => absurd hx (by simp)) hi | exact J.of_le (by assumption) (fun x hx => absurd hx (by simp)) hi) ?_
                refine d_take 27 rfl (by kernel_rfl) (by kernel_rfl) (by kernel_rfl) (fun _ _ _ h => h) rfl (.inr ⟨_, _, _, rfl, rfl, rfl⟩) (x_pickT rfl rfl) (fun w hi => by first | exact hi.j | exact J.of_le (Ro.le.refl _) (fun x hx => List.mem_append_right _ hx) hi | exact J.of_le (Ro.le.refl _) (fun x hx => List.mem_append_right _ (List.mem_append_right _ hx)) hi | exact J.of_le (Ro.le.refl _) (fun x hx => absurd hx (by simp)) hi | exact J.of_le (by assumption) (fun x hx => absurd hx (by simp)) hi) ?_
                refine d_take 28 rfl (by kernel_rfl) (by kernel_rfl) (by kernel_rfl) (fun _ _ _ h => h) rfl (.inl rfl) (x_pickT rfl rfl) (fun w hi => by first | exact hi.j | exact J.of_le (Ro.le.refl _) (fun x hx => List.mem_append_right _ hx) hi | exact J.of_le (Ro.le.refl _) (fun x hx => List.mem_append_right _ (List.mem_append_right _ hx)) hi | exact J.of_le (Ro.le.refl _) (fun x hx => absurd hx (by simp)) hi | exact J.of_le (by assumption) (fun x hx => absurd hx (by simp)) hi) ?_
                refine d_end (by kernel_rfl) ?_
                refine n_then ?_
                refine condT rfl ?_
                refine region ?_
                refine op (y (x_move rfl) rfl ?_)
                refine op (y (x_assign rfl) rfl ?_)
                refine nil ?_
                refine n_in ?_
                obtain ⟨dv, hdv⟩ : ∃ d, (fd (Ob E) N kc N.length) N[i] = some d := by
                  cases hq : (fd (Ob E) N kc N.length) N[i] with
                  | some d => exact ⟨d, rfl⟩
                  | none => exact absurd g54 (by rw [hq]; simp [dI])
                have hdi := dI_some hdv
                exact mid [(1, .pointer (some ⟨b1, 0, none⟩)), (3, .int .i64 kc), (5, .slice _ N.length cap20), (6, .slice A6 (pre.length + 1) cap6), (7, .int .i64 la), (8, .slice A32 (BehindR (prE E) la).length cap32), (9, .int .i64 _), (10, .int .i64 (i : Nat))] ⟨rfl, rfl, rfl, rfl, rfl, rfl, rfl, rfl, trivial⟩ ⟨_, rfl, rfl, rfl, by omega, bst_take hx (by assumption) hdv hB3 (by
                    first
                    | (refine .inl ?_
                       rcases hB3 with ⟨h, _⟩ | ⟨j, _, _, _, h, _⟩ <;> omega)
                    | (refine .inr ⟨j, bq, dd, rfl, hj3, hj5, ?_⟩
                       have := dI_some hj5
                       omega))⟩
              · try simp only [decide_eq_true_eq, decide_eq_false_iff_not, beq_iff_eq, bne_iff_ne, ne_eq, beq_eq_false_iff_ne, bne_eq_false_iff_eq, Bool.not_eq_true', Bool.not_eq_false', Bool.not_eq_true, Bool.not_eq_false, Decidable.not_not, Int.not_lt, Int.not_le] at g57
                obtain ⟨j, bq, dd, hj1, rfl, hj3, hj4, hj5, hj6, hj7⟩ := hB3.resolve_left (fun h => by have := h.1; omega)
                have cj0 := hcf j (dI ((fd (Ob E) N kc N.length) bq)) (by rw [List.getElem?_map, hj3]; rfl) 0 _ rfl
                refine d_take 18 rfl (by kernel_rfl) (by kernel_rfl) (by kernel_rfl) (fun _ _ _ h => h) rfl (.inr ⟨_, _, _, rfl, rfl, rfl⟩) (x_move rfl) (fun w hi => by first | exact hi.j | exact J.of_le (Ro.le.refl _) (fun x hx => List.mem_append_right _ hx) hi | exact J.of_le (Ro.le.refl _) (fun x hx => List.mem_append_right _ (List.mem_append_right _ hx)) hi | exact J.of_le (Ro.le.refl _) (fun x hx => absurd hx (by simp)) hi | exact J.of_le (by assumption) (fun x hx => absurd hx (by simp)) hi) ?_
                refine d_take 19 rfl (by kernel_rfl) (by kernel_rfl) (by kernel_rfl) (fun _ _ _ h => h) rfl (.inr ⟨_, _, _, rfl, rfl, rfl⟩) (x_move rfl) (fun w hi => by first | exact hi.j | exact J.of_le (Ro.le.refl _) (fun x hx => List.mem_append_right _ hx) hi | exact J.of_le (Ro.le.refl _) (fun x hx => List.mem_append_right _ (List.mem_append_right _ hx)) hi | exact J.of_le (Ro.le.refl _) (fun x hx => absurd hx (by simp)) hi | exact J.of_le (by assumption) (fun x hx => absurd hx (by simp)) hi) ?_
                refine d_take 20 rfl (by kernel_rfl) (by kernel_rfl) (by kernel_rfl) (fun _ _ _ h => h) rfl (.inr ⟨_, _, _, rfl, rfl, rfl⟩) (x_indexNat sz_23 rfl rfl (by omega)) (fun w hi => by first | exact hi.j | exact J.of_le (Ro.le.refl _) (fun x hx => List.mem_append_right _ hx) hi | exact J.of_le (Ro.le.refl _) (fun x hx => List.mem_append_right _ (List.mem_append_right _ hx)) hi | exact J.of_le (Ro.le.refl _) (fun x hx => absurd hx (by simp)) hi | exact J.of_le (by assumption) (fun x hx => absurd hx (by simp)) hi) ?_
                refine d_take 21 rfl (by kernel_rfl) (by kernel_rfl) (by kernel_rfl) (fun _ _ _ h => h) rfl (.inr ⟨_, _, _, rfl, rfl, rfl⟩) (x_load1 ag_3 rfl (by first | assumption | exact Cell.own 0 rfl rfl | exact Cell.own 1 rfl rfl | exact Cell.own 2 rfl rfl | exact Cell.own 3 rfl rfl | exact Cell.own 4 rfl rfl | exact Cell.own 5 rfl rfl | exact Cell.ofRo (by assumption))) (fun w hi => by first | exact hi.j | exact J.of_le (Ro.le.refl _) (fun x hx => List.mem_append_right _ hx) hi | exact J.of_le (Ro.le.refl _) (fun x hx => List.mem_append_right _ (List.mem_append_right _ hx)) hi | exact J.of_le (Ro.le.refl _) (fun x hx => absurd hx (by simp)) hi | exact J.of_le (by assumption) (fun x hx => absurd hx (by simp)) hi) ?_
                refine d_take 22 rfl (by kernel_rfl) (by kernel_rfl) (by kernel_rfl) (fun _ _ _ h => h) rfl (.inr ⟨_, _, _, rfl, rfl, rfl⟩) (x_move rfl) (fun w hi => by first | exact hi.j | exact J.of_le (Ro.le.refl _) (fun x hx => List.mem_append_right _ hx) hi | exact J.of_le (Ro.le.refl _) (fun x hx => List.mem_append_right _ (List.mem_append_right _ hx)) hi | exact J.of_le (Ro.le.refl _) (fun x hx => absurd hx (by simp)) hi | exact J.of_le (by assumption) (fun x hx => absurd hx (by simp)) hi) ?_
                refine d_take 23 rfl (by kernel_rfl) (by kernel_rfl) (by kernel_rfl) (fun _ _ _ h => h) rfl (.inr ⟨_, _, _, rfl, rfl, rfl⟩) (x_move rfl) (fun w hi => by first | exact hi.j | exact J.of_le (Ro.le.refl _) (fun x hx => List.mem_append_right _ hx) hi | exact J.of_le (Ro.le.refl _) (fun x hx => List.mem_append_right _ (List.mem_append_right _ hx)) hi | exact J.of_le (Ro.le.refl _) (fun x hx => absurd hx (by simp)) hi | exact J.of_le (by assumption) (fun x hx => absurd hx (by simp)) hi) ?_
                refine d_take 24 rfl (by kernel_rfl) (by kernel_rfl) (by kernel_rfl) (fun _ _ _ h => h) rfl (.inr ⟨_, _, _, rfl, rfl, rfl⟩) (x_indexNat sz_23 rfl rfl (by omega)) (fun w hi => by first | exact hi.j | exact J.of_le (Ro.le.refl _) (fun x hx => List.mem_append_right _ hx) hi | exact J.of_le (Ro.le.refl _) (fun x hx => List.mem_append_right _ (List.mem_append_right _ hx)) hi | exact J.of_le (Ro.le.refl _) (fun x hx => absurd hx (by simp)) hi | exact J.of_le (by assumption) (fun x hx => absurd hx (by simp)) hi) ?_
                refine d_take 25 rfl (by kernel_rfl) (by kernel_rfl) (by kernel_rfl) (fun _ _ _ h => h) rfl (.inr ⟨_, _, _, rfl, rfl, rfl⟩) (x_load1 ag_3 rfl (by first | assumption | exact Cell.own 0 rfl rfl | exact Cell.own 1 rfl rfl | exact Cell.own 2 rfl rfl | exact Cell.own 3 rfl rfl | exact Cell.own 4 rfl rfl | exact Cell.own 5 rfl rfl | exact Cell.ofRo (by assumption))) (fun w hi => by first | exact hi.j | exact J.of_le (Ro.le.refl _) (fun x hx => List.mem_append_right _ hx) hi | exact J.of_le (Ro.le.refl _) (fun x hx => List.mem_append_right _ (List.mem_append_right _ hx)) hi | exact J.of_le (Ro.le.refl _) (fun x hx => absurd hx (by simp)) hi | exact J.of_le (by assumption) (fun x hx => absurd hx (by simp)) hi) ?_
                refine d_take 26 rfl (by kernel_rfl) (by kernel_rfl) (by kernel_rfl) (fun _ _ _ h => h) rfl (.inr ⟨_, _, _, rfl, rfl, rfl⟩) (x_lss rfl rfl) (fun w hi => by first | exact hi.j | exact J.of_le (Ro.le.refl _) (fun x hx => List.mem_append_right _ hx) hi | exact J.of_le (Ro.le.refl _) (fun x hx => List.mem_append_right _ (List.mem_append_right _ hx)) hi | exact J.of_le (Ro.le.refl _) (fun x hx => absurd hx (by simp)) hi | exact J.of_le (by assumption) (fun x hx => absurd hx (by simp)) hi) ?_
                refine d_take 27 rfl (by kernel_rfl) (by kernel_rfl) (by kernel_rfl) (fun _ _ _ h => h) rfl (.inr ⟨_, _, _, rfl, rfl, rfl⟩) (x_pickF rfl rfl) (fun w hi => by first | exact hi.j | exact J.of_le (Ro.le.refl _) (fun x hx => List.mem_append_right _ hx) hi | exact J.of_le (Ro.le.refl _) (fun x hx => List.mem_append_right _ (List.mem_append_right _ hx)) hi | exact J.of_le (Ro.le.refl _) (fun x hx => absurd hx (by simp)) hi | exact J.of_le (by assumption) (fun x hx => absurd hx (by simp)) hi) ?_
                refine d_take 28 rfl (by kernel_rfl) (by kernel_rfl) (by kernel_rfl) (fun _ _ _ h => h) rfl (.inl rfl) (x_pickT rfl rfl) (fun w hi => by first | exact hi.j | exact J.of_le (Ro.le.refl _) (fun x hx => List.mem_append_right _ hx) hi | exact J.of_le (Ro.le.refl _) (fun x hx => List.mem_append_right _ (List.mem_append_right _ hx)) hi | exact J.of_le (Ro.le.refl _) (fun x hx => absurd hx (by simp)) hi | exact J.of_le (by assumption) (fun x hx => absurd hx (by simp)) hi) ?_
                refine d_end (by kernel_rfl) ?_
                refine n_then ?_
                refine cond rfl (fun h13 => ?_) (fun h13 => ?_)
                · try simp only [decide_eq_true_eq, decide_eq_false_iff_not, beq_iff_eq, bne_iff_ne, ne_eq, beq_eq_false_iff_ne, bne_eq_false_iff_eq, Bool.not_eq_true', Bool.not_eq_false', Bool.not_eq_true, Bool.not_eq_false, Decidable.not_not, Int.not_lt, Int.not_le] at h13
                  refine region ?_
                  refine op (y (x_move rfl) rfl ?_)
                  refine op (y (x_assign rfl) rfl ?_)
                  refine nil ?_
                  refine n_in ?_
                  obtain ⟨dv, hdv⟩ : ∃ d, (fd (Ob E) N kc N.length) N[i] = some d := by
                    cases hq : (fd (Ob E) N kc N.length) N[i] with
                    | some d => exact ⟨d, rfl⟩
                    | none => exact absurd g54 (by rw [hq]; simp [dI])
                  have hdi := dI_some hdv
                  exact mid [(1, .pointer (some ⟨b1, 0, none⟩)), (3, .int .i64 kc), (5, .slice _ N.length cap20), (6, .slice A6 (pre.length + 1) cap6), (7, .int .i64 la), (8, .slice A32 (BehindR (prE E) la).length cap32), (9, .int .i64 _), (10, .int .i64 (i : Nat))] ⟨rfl, rfl, rfl, rfl, rfl, rfl, rfl, rfl, trivial⟩ ⟨_, rfl, rfl, rfl, by omega, bst_take hx (by assumption) hdv hB3 (by
                      first
                      | (refine .inl ?_
                         rcases hB3 with ⟨h, _⟩ | ⟨j, _, _, _, h, _⟩ <;> omega)
                      | (refine .inr ⟨j, bq, dd, rfl, hj3, hj5, ?_⟩
                         have := dI_some hj5
                         omega))⟩
                · try simp only [decide_eq_true_eq, decide_eq_false_iff_not, beq_iff_eq, bne_iff_ne, ne_eq, beq_eq_false_iff_ne, bne_eq_false_iff_eq, Bool.not_eq_true', Bool.not_eq_false', Bool.not_eq_true, Bool.not_eq_false, Decidable.not_not, Int.not_lt, Int.not_le] at h13
                  refine skip ?_
                  refine n_in ?_
                  exact mid [(1, .pointer (some ⟨b1, 0, none⟩)), (3, .int .i64 kc), (5, .slice _ N.length cap20), (6, .slice A6 (pre.length + 1) cap6), (7, .int .i64 la), (8, .slice A32 (BehindR (prE E) la).length cap32), (9, .int .i64 _), (10, .int .i64 (i : Nat))] ⟨rfl, rfl, rfl, rfl, rfl, rfl, rfl, rfl, trivial⟩ ⟨_, rfl, rfl, rfl, by omega, bst_keep hx hB3 (by
                      first
                      | exact .inl (by assumption)
                      | (refine .inr (.inl ?_)
                         cases hq : (fd (Ob E) N kc N.length) N[i] with
                         | none => rfl
                         | some d =>
                           have := dI_some hq
                           omega)
                      | (refine .inr (.inr ?_)
                         cases hq : (fd (Ob E) N kc N.length) N[i] with
                         | none => exact absurd g54 (by rw [hq]; simp [dI])
                         | some d =>
                           have h1 := dI_some hq
                           have h2 := dI_some hj5
                           exact ⟨j, bq, dd, d, rfl, hj3, hj5, rfl, by omega⟩))⟩
            · try simp only [decide_eq_true_eq, decide_eq_false_iff_not, beq_iff_eq, bne_iff_ne, ne_eq, beq_eq_false_iff_ne, bne_eq_false_iff_eq, Bool.not_eq_true', Bool.not_eq_false', Bool.not_eq_true, Bool.not_eq_false, Decidable.not_not, Int.not_lt, Int.not_le] at g54
              refine d_skip 15 rfl (by kernel_rfl) (by kernel_rfl) (by kernel_rfl) (fun _ _ _ h => h) rfl rfl rfl rfl (fun w hi => by first | exact hi.j | exact J.of_le (Ro.le.refl _) (fun x hx => List.mem_append_right _ hx) hi | exact J.of_le (Ro.le.refl _) (fun x hx => List.mem_append_right _ (List.mem_append_right _ hx)) hi | exact J.of_le (Ro.le.refl _) (fun x hx => absurd hx (by simp)) hi | exact J.of_le (by assumption) (fun x hx => absurd hx (by simp)) hi) ?_
              refine d_skip 16 rfl (by kernel_rfl) (by kernel_rfl) (by kernel_rfl) (fun _ _ _ h => h) rfl rfl rfl rfl (fun w hi => by first | exact hi.j | exact J.of_le (Ro.le.refl _) (fun x hx => List.mem_append_right _ hx) hi | exact J.of_le (Ro.le.refl _) (fun x hx => List.mem_append_right _ (List.mem_append_right _ hx)) hi | exact J.of_le (Ro.le.refl _) (fun x hx => absurd hx (by simp)) hi | exact J.of_le (by assumption) (fun x hx => absurd hx (by simp)) hi) ?_
              refine d_skip 17 rfl (by kernel_rfl) (by kernel_rfl) (by kernel_rfl) (fun _ _ _ h => h) rfl rfl rfl rfl (fun w hi => by first | exact hi.j | exact J.of_le (Ro.le.refl _) (fun x hx => List.mem_append_right _ hx) hi | exact J.of_le (Ro.le.refl _) (fun x hx => List.mem_append_right _ (List.mem_append_right _ hx)) hi | exact J.of_le (Ro.le.refl _) (fun x hx => absurd hx (by simp)) hi | exact J.of_le (by assumption) (fun x hx => absurd hx (by simp)) hi) ?_
              refine d_skipU 18 rfl (by kernel_rfl) (by kernel_rfl) (by kernel_rfl) (fun _ _ _ h => h) rfl rfl rfl (fun w hi => by first | exact hi.j | exact J.of_le (Ro.le.refl _) (fun x hx => List.mem_append_right _ hx) hi | exact J.of_le (Ro.le.refl _) (fun x hx => List.mem_append_right _ (List.mem_append_right _ hx)) hi | exact J.of_le (Ro.le.refl _) (fun x hx => absurd hx (by simp)) hi | exact J.of_le (by assumption) (fun x hx => absurd hx (by simp)) hi) ?_
              refine d_skipU 19 rfl (by kernel_rfl) (by kernel_rfl) (by kernel_rfl) (fun _ _ _ h => h) rfl rfl rfl (fun w hi => by first | exact hi.j | exact J.of_le (Ro.le.refl _) (fun x hx => List.mem_append_right _ hx) hi | exact J.of_le (Ro.le.refl _) (fun x hx => List.mem_append_right _ (List.mem_append_right _ hx)) hi | exact J.of_le (Ro.le.refl _) (fun x hx => absurd hx (by simp)) hi | exact J.of_le (by assumption) (fun x hx => absurd hx (by simp)) hi) ?_
              refine d_skipU 20 rfl (by kernel_rfl) (by kernel_rfl) (by kernel_rfl) (fun _ _ _ h => h) rfl rfl rfl (fun w hi => by first | exact hi.j | exact J.of_le (Ro.le.refl _) (fun x hx => List.mem_append_right _ hx) hi | exact J.of_le (Ro.le.refl _) (fun x hx => List.mem_append_right _ (List.mem_append_right _ hx)) hi | exact J.of_le (Ro.le.refl _) (fun x hx => absurd hx (by simp)) hi | exact J.of_le (by assumption) (fun x hx => absurd hx (by simp)) hi) ?_
              refine d_skipU 21 rfl (by kernel_rfl) (by kernel_rfl) (by kernel_rfl) (fun _ _ _ h => h) rfl rfl rfl (fun w hi => by first | exact hi.j | exact J.of_le (Ro.le.refl _) (fun x hx => List.mem_append_right _ hx) hi | exact J.of_le (Ro.le.refl _) (fun x hx => List.mem_append_right _ (List.mem_append_right _ hx)) hi | exact J.of_le (Ro.le.refl _) (fun x hx => absurd hx (by simp)) hi | exact J.of_le (by assumption) (fun x hx => absurd hx (by simp)) hi) ?_
              refine d_skipU 22 rfl (by kernel_rfl) (by kernel_rfl) (by kernel_rfl) (fun _ _ _ h => h) rfl rfl rfl (fun w hi => by first | exact hi.j | exact J.of_le (Ro.le.refl _) (fun x hx => List.mem_append_right _ hx) hi | exact J.of_le (Ro.le.refl _) (fun x hx => List.mem_append_right _ (List.mem_append_right _ hx)) hi | exact J.of_le (Ro.le.refl _) (fun x hx => absurd hx (by simp)) hi | exact J.of_le (by assumption) (fun x hx => absurd hx (by simp)) hi) ?_
              refine d_skipU 23 rfl (by kernel_rfl) (by kernel_rfl) (by kernel_rfl) (fun _ _ _ h => h) rfl rfl rfl (fun w hi => by first | exact hi.j | exact J.of_le (Ro.le.refl _) (fun x hx => List.mem_append_right _ hx) hi | exact J.of_le (Ro.le.refl _) (fun x hx => List.mem_append_right _ (List.mem_append_right _ hx)) hi | exact J.of_le (Ro.le.refl _) (fun x hx => absurd hx (by simp)) hi | exact J.of_le (by assumption) (fun x hx => absurd hx (by simp)) hi) ?_
              refine d_skipU 24 rfl (by kernel_rfl) (by kernel_rfl) (by kernel_rfl) (fun _ _ _ h => h) rfl rfl rfl (fun w hi => by first | exact hi.j | exact J.of_le (Ro.le.refl _) (fun x hx => List.mem_append_right _ hx) hi | exact J.of_le (Ro.le.refl _) (fun x hx => List.mem_append_right _ (List.mem_append_right _ hx)) hi | exact J.of_le (Ro.le.refl _) (fun x hx => absurd hx (by simp)) hi | exact J.of_le (by assumption) (fun x hx => absurd hx (by simp)) hi) ?_
              refine d_skipU 25 rfl (by kernel_rfl) (by kernel_rfl) (by kernel_rfl) (fun _ _ _ h => h) rfl rfl rfl (fun w hi => by first | exact hi.j | exact J.of_le (Ro.le.refl _) (fun x hx => List.mem_append_right _ hx) hi | exact J.of_le (Ro.le.refl _) (fun x hx => List.mem_append_right _ (List.mem_append_right _ hx)) hi | exact J.of_le (Ro.le.refl _) (fun x hx => absurd hx (by simp)) hi | exact J.of_le (by assumption) (fun x hx => absurd hx (by simp)) hi) ?_
              refine d_skipU 26 rfl (by kernel_rfl) (by kernel_rfl) (by kernel_rfl) (fun _ _ _ h => h) rfl rfl rfl (fun w hi => by first | exact hi.j | exact J.of_le (Ro.le.refl _) (fun x hx => List.mem_append_right _ hx) hi | exact J.of_le (Ro.le.refl _) (fun x hx => List.mem_append_right _ (List.mem_append_right _ hx)) hi | exact J.of_le (Ro.le.refl _) (fun x hx => absurd hx (by simp)) hi | exact J.of_le (by assumption) (fun x hx => absurd hx (by simp)) hi) ?_
              refine d_skip 27 rfl (by kernel_rfl) (by kernel_rfl) (by kernel_rfl) (fun _ _ _ h => h) rfl rfl rfl rfl (fun w hi => by first | exact hi.j | exact J.of_le (Ro.le.refl _) (fun x hx => List.mem_append_right _ hx) hi | exact J.of_le (Ro.le.refl _) (fun x hx => List.mem_append_right _ (List.mem_append_right _ hx)) hi | exact J.of_le (Ro.le.refl _) (fun x hx => absurd hx (by simp)) hi | exact J.of_le (by assumption) (fun x hx => absurd hx (by simp)) hi) ?_
              refine d_take 28 rfl (by kernel_rfl) (by kernel_rfl) (by kernel_rfl) (fun _ _ _ h => h) rfl (.inl rfl) (x_pickF rfl rfl) (fun w hi => by first | exact hi.j | exact J.of_le (Ro.le.refl _) (fun x hx => List.mem_append_right _ hx) hi | exact J.of_le (Ro.le.refl _) (fun x hx => List.mem_append_right _ (List.mem_append_right _ hx)) hi | exact J.of_le (Ro.le.refl _) (fun x hx => absurd hx (by simp)) hi | exact J.of_le (by assumption) (fun x hx => absurd hx (by simp)) hi) ?_
              refine d_end (by kernel_rfl) ?_
              refine n_then ?_
              refine condF rfl ?_
              refine skip ?_
              refine n_in ?_
              exact mid [(1, .pointer (some ⟨b1, 0, none⟩)), (3, .int .i64 kc), (5, .slice _ N.length cap20), (6, .slice A6 (pre.length + 1) cap6), (7, .int .i64 la), (8, .slice A32 (BehindR (prE E) la).length cap32), (9, .int .i64 _), (10, .int .i64 (i : Nat))] ⟨rfl, rfl, rfl, rfl, rfl, rfl, rfl, rfl, trivial⟩ ⟨_, rfl, rfl, rfl, by omega, bst_keep hx hB3 (by
                  first
                  | exact .inl (by assumption)
                  | (refine .inr (.inl ?_)
                     cases hq : (fd (Ob E) N kc N.length) N[i] with
                     | none => rfl
                     | some d =>
                       have := dI_some hq
                       omega)
                  | (refine .inr (.inr ?_)
                     cases hq : (fd (Ob E) N kc N.length) N[i] with
                     | none => exact absurd g54 (by rw [hq]; simp [dI])
                     | some d =>
                       have h1 := dI_some hq
                       have h2 := dI_some hj5
                       exact ⟨j, bq, dd, d, rfl, hj3, hj5, rfl, by omega⟩))⟩
          · try simp only [decide_eq_true_eq, decide_eq_false_iff_not, beq_iff_eq, bne_iff_ne, ne_eq, beq_eq_false_iff_ne, bne_eq_false_iff_eq, Bool.not_eq_true', Bool.not_eq_false', Bool.not_eq_true, Bool.not_eq_false, Decidable.not_not, Int.not_lt, Int.not_le] at g47
            refine d_skip 8 rfl (by kernel_rfl) (by kernel_rfl) (by kernel_rfl) (fun _ _ _ h => h) rfl rfl rfl rfl (fun w hi => by first | exact hi.j | exact J.of_le (Ro.le.refl _) (fun x hx => List.mem_append_right _ hx) hi | exact J.of_le (Ro.le.refl _) (fun x hx => List.mem_append_right _ (List.mem_append_right _ hx)) hi | exact J.of_le (Ro.le.refl _) (fun x hx => absurd hx (by simp)) hi | exact J.of_le (by assumption) (fun x hx => absurd hx (by simp)) hi) ?_
            refine d_skip 9 rfl (by kernel_rfl) (by kernel_rfl) (by kernel_rfl) (fun _ _ _ h => h) rfl rfl rfl rfl (fun w hi => by first | exact hi.j | exact J.of_le (Ro.le.refl _) (fun x hx => List.mem_append_right _ hx) hi | exact J.of_le (Ro.le.refl _) (fun x hx => List.mem_append_right _ (List.mem_append_right _ hx)) hi | exact J.of_le (Ro.le.refl _) (fun x hx => absurd hx (by simp)) hi | exact J.of_le (by assumption) (fun x hx => absurd hx (by simp)) hi) ?_
            refine d_skip 10 rfl (by kernel_rfl) (by kernel_rfl) (by kernel_rfl) (fun _ _ _ h => h) rfl rfl rfl rfl (fun w hi => by first | exact hi.j | exact J.of_le (Ro.le.refl _) (fun x hx => List.mem_append_right _ hx) hi | exact J.of_le (Ro.le.refl _) (fun x hx => List.mem_append_right _ (List.mem_append_right _ hx)) hi | exact J.of_le (Ro.le.refl _) (fun x hx => absurd hx (by simp)) hi | exact J.of_le (by assumption) (fun x hx => absurd hx (by simp)) hi) ?_
            refine d_skip 11 rfl (by kernel_rfl) (by kernel_rfl) (by kernel_rfl) (fun _ _ _ h => h) rfl rfl rfl rfl (fun w hi => by first | exact hi.j | exact J.of_le (Ro.le.refl _) (fun x hx => List.mem_append_right _ hx) hi | exact J.of_le (Ro.le.refl _) (fun x hx => List.mem_append_right _ (List.mem_append_right _ hx)) hi | exact J.of_le (Ro.le.refl _) (fun x hx => absurd hx (by simp)) hi | exact J.of_le (by assumption) (fun x hx => absurd hx (by simp)) hi) ?_
            refine d_skip 12 rfl (by kernel_rfl) (by kernel_rfl) (by kernel_rfl) (fun _ _ _ h => h) rfl rfl rfl rfl (fun w hi => by first | exact hi.j | exact J.of_le (Ro.le.refl _) (fun x hx => List.mem_append_right _ hx) hi | exact J.of_le (Ro.le.refl _) (fun x hx => List.mem_append_right _ (List.mem_append_right _ hx)) hi | exact J.of_le (Ro.le.refl _) (fun x hx => absurd hx (by simp)) hi | exact J.of_le (by assumption) (fun x hx => absurd hx (by simp)) hi) ?_
            refine d_take 13 rfl (by kernel_rfl) (by kernel_rfl) (by kernel_rfl) (fun _ _ _ h => h) rfl (.inl rfl) (x_pickF rfl rfl) (fun w hi => by first | exact hi.j | exact J.of_le (Ro.le.refl _) (fun x hx => List.mem_append_right _ hx) hi | exact J.of_le (Ro.le.refl _) (fun x hx => List.mem_append_right _ (List.mem_append_right _ hx)) hi | exact J.of_le (Ro.le.refl _) (fun x hx => absurd hx (by simp)) hi | exact J.of_le (by assumption) (fun x hx => absurd hx (by simp)) hi) ?_
            refine d_take 14 rfl (by kernel_rfl) (by kernel_rfl) (by kernel_rfl) (fun _ _ _ h => h) rfl (.inl rfl) (x_move rfl) (fun w hi => by first | exact hi.j | exact J.of_le (Ro.le.refl _) (fun x hx => List.mem_append_right _ hx) hi | exact J.of_le (Ro.le.refl _) (fun x hx => List.mem_append_right _ (List.mem_append_right _ hx)) hi | exact J.of_le (Ro.le.refl _) (fun x hx => absurd hx (by simp)) hi | exact J.of_le (by assumption) (fun x hx => absurd hx (by simp)) hi) ?_
            refine d_skip 15 rfl (by kernel_rfl) (by kernel_rfl) (by kernel_rfl) (fun _ _ _ h => h) rfl rfl rfl rfl (fun w hi => by first | exact hi.j | exact J.of_le (Ro.le.refl _) (fun x hx => List.mem_append_right _ hx) hi | exact J.of_le (Ro.le.refl _) (fun x hx => List.mem_append_right _ (List.mem_append_right _ hx)) hi | exact J.of_le (Ro.le.refl _) (fun x hx => absurd hx (by simp)) hi | exact J.of_le (by assumption) (fun x hx => absurd hx (by simp)) hi) ?_
            refine d_skip 16 rfl (by kernel_rfl) (by kernel_rfl) (by kernel_rfl) (fun _ _ _ h => h) rfl rfl rfl rfl (fun w hi => by first | exact hi.j | exact J.of_le (Ro.le.refl _) (fun x hx => List.mem_append_right _ hx) hi | exact J.of_le (Ro.le.refl _) (fun x hx => List.mem_append_right _ (List.mem_append_right _ hx)) hi | exact J.of_le (Ro.le.refl _) (fun x hx => absurd hx (by simp)) hi | exact J.of_le (by assumption) (fun x hx => absurd hx (by simp)) hi) ?_
            refine d_skip 17 rfl (by kernel_rfl) (by kernel_rfl) (by kernel_rfl) (fun _ _ _ h => h) rfl rfl rfl rfl (fun w hi => by first | exact hi.j | exact J.of_le (Ro.le.refl _) (fun x hx => List.mem_append_right _ hx) hi | exact J.of_le (Ro.le.refl _) (fun x hx => List.mem_append_right _ (List.mem_append_right _ hx)) hi | exact J.of_le (Ro.le.refl _) (fun x hx => absurd hx (by simp)) hi | exact J.of_le (by assumption) (fun x hx => absurd hx (by simp)) hi) ?_
            refine d_skipU 18 rfl (by kernel_rfl) (by kernel_rfl) (by kernel_rfl) (fun _ _ _ h => h) rfl rfl rfl (fun w hi => by first | exact hi.j | exact J.of_le (Ro.le.refl _) (fun x hx => List.mem_append_right _ hx) hi | exact J.of_le (Ro.le.refl _) (fun x hx => List.mem_append_right _ (List.mem_append_right _ hx)) hi | exact J.of_le (Ro.le.refl _) (fun x hx => absurd hx (by simp)) hi | exact J.of_le (by assumption) (fun x hx => absurd hx (by simp)) hi) ?_
            refine d_skipU 19 rfl (by kernel_rfl) (by kernel_rfl) (by kernel_rfl) (fun _ _ _ h => h) rfl rfl rfl (fun w hi => by first | exact hi.j | exact J.of_le (Ro.le.refl _) (fun x hx => List.mem_append_right _ hx) hi | exact J.of_le (Ro.le.refl _) (fun x hx => List.mem_append_right _ (List.mem_append_right _ hx)) hi | exact J.of_le (Ro.le.refl _) (fun x hx => absurd hx (by simp)) hi | exact J.of_le (by assumption) (fun x hx => absurd hx (by simp)) hi) ?_
            refine d_skipU 20 rfl (by kernel_rfl) (by kernel_rfl) (by kernel_rfl) (fun _ _ _ h => h) rfl rfl rfl (fun w hi => by first | exact hi.j | exact J.of_le (Ro.le.refl _) (fun x hx => List.mem_append_right _ hx) hi | exact J.of_le (Ro.le.refl _) (fun x hx => List.mem_append_right _ (List.mem_append_right _ hx)) hi | exact J.of_le (Ro.le.refl _) (fun x hx => absurd hx (by simp)) hi | exact J.of_le (by assumption) (fun x hx => absurd hx (by simp)) hi) ?_
            refine d_skipU 21 rfl (by kernel_rfl) (by kernel_rfl) (by kernel_rfl) (fun _ _ _ h => h) rfl rfl rfl (fun w hi => by first | exact hi.j | exact J.of_le (Ro.le.refl _) (fun x hx => List.mem_append_right _ hx) hi | exact J.of_le (Ro.le.refl _) (fun x hx => List.mem_append_right _ (List.mem_append_right _ hx)) hi | exact J.of_le (Ro.le.refl _) (fun x hx => absurd hx (by simp)) hi | exact J.of_le (by assumption) (fun x hx => absurd hx (by simp)) hi) ?_
            refine d_skipU 22 rfl (by kernel_rfl) (by kernel_rfl) (by kernel_rfl) (fun _ _ _ h => h) rfl rfl rfl (fun w hi => by first | exact hi.j | exact J.of_le (Ro.le.refl _) (fun x hx => List.mem_append_right _ hx) hi | exact J.of_le (Ro.le.refl _) (fun x hx => List.mem_append_right _ (List.mem_append_right _ hx)) hi | exact J.of_le (Ro.le.refl _) (fun x hx => absurd hx (by simp)) hi | exact J.of_le (by assumption) (fun x hx => absurd hx (by simp)) hi) ?_
            refine d_skipU 23 rfl (by kernel_rfl) (by kernel_rfl) (by kernel_rfl) (fun _ _ _ h => h) rfl rfl rfl (fun w hi => by first | exact hi.j | exact J.of_le (Ro.le.refl _) (fun x hx => List.mem_append_right _ hx) hi | exact J.of_le (Ro.le.refl _) (fun x hx => List.mem_append_right _ (List.mem_append_right _ hx)) hi | exact J.of_le (Ro.le.refl _) (fun x hx => absurd hx (by simp)) hi | exact J.of_le (by assumption) (fun x hx => absurd hx (by simp)) hi) ?_
            refine d_skipU 24 rfl (by kernel_rfl) (by kernel_rfl) (by kernel_rfl) (fun _ _ _ h => h) rfl rfl rfl (fun w hi => by first | exact hi.j | exact J.of_le (Ro.le.refl _) (fun x hx => List.mem_append_right _ hx) hi | exact J.of_le (Ro.le.refl _) (fun x hx => List.mem_append_right _ (List.mem_append_right _ hx)) hi | exact J.of_le (Ro.le.refl _) (fun x hx => absurd hx (by simp)) hi | exact J.of_le (by assumption) (fun x hx => absurd hx (by simp)) hi) ?_
            refine d_skipU 25 rfl (by kernel_rfl) (by kernel_rfl) (by kernel_rfl) (fun _ _ _ h => h) rfl rfl rfl (fun w hi => by first | exact hi.j | exact J.of_le (Ro.le.refl _) (fun x hx => List.mem_append_right _ hx) hi | exact J.of_le (Ro.le.refl _) (fun x hx => List.mem_append_right _ (List.mem_append_right _ hx)) hi | exact J.of_le (Ro.le.refl _) (fun x hx => absurd hx (by simp)) hi | exact J.of_le (by assumption) (fun x hx => absurd hx (by simp)) hi) ?_
            refine d_skipU 26 rfl (by kernel_rfl) (by kernel_rfl) (by kernel_rfl) (fun _ _ _ h => h) rfl rfl rfl (fun w hi => by first | exact hi.j | exact J.of_le (Ro.le.refl _) (fun x hx => List.mem_append_right _ hx) hi | exact J.of_le (Ro.le.refl _) (fun x hx => List.mem_append_right _ (List.mem_append_right _ hx)) hi | exact J.of_le (Ro.le.refl _) (fun x hx => absurd hx (by simp)) hi | exact J.of_le (by assumption) (fun x hx => absurd hx (by simp)) hi) ?_
            refine d_skip 27 rfl (by kernel_rfl) (by kernel_rfl) (by kernel_rfl) (fun _ _ _ h => h) rfl rfl rfl rfl (fun w hi => by first | exact hi.j | exact J.of_le (Ro.le.refl _) (fun x hx => List.mem_append_right _ hx) hi | exact J.of_le (Ro.le.refl _) (fun x hx => List.mem_append_right _ (List.mem_append_right _ hx)) hi | exact J.of_le (Ro.le.refl _) (fun x hx => absurd hx (by simp)) hi | exact J.of_le (by assumption) (fun x hx => absurd hx (by simp)) hi) ?_
            refine d_take 28 rfl (by kernel_rfl) (by kernel_rfl) (by kernel_rfl) (fun _ _ _ h => h) rfl (.inl rfl) (x_pickF rfl rfl) (fun w hi => by first | exact hi.j | exact J.of_le (Ro.le.refl _) (fun x hx => List.mem_append_right _ hx) hi | exact J.of_le (Ro.le.refl _) (fun x hx => List.mem_append_right _ (List.mem_append_right _ hx)) hi | exact J.of_le (Ro.le.refl _) (fun x hx => absurd hx (by simp)) hi | exact J.of_le (by assumption) (fun x hx => absurd hx (by simp)) hi) ?_
            refine d_end (by kernel_rfl) ?_
            refine n_then ?_
            refine condF rfl ?_
            refine skip ?_
            refine n_in ?_
            exact mid [(1, .pointer (some ⟨b1, 0, none⟩)), (3, .int .i64 kc), (5, .slice _ N.length cap20), (6, .slice A6 (pre.length + 1) cap6), (7, .int .i64 la), (8, .slice A32 (BehindR (prE E) la).length cap32), (9, .int .i64 _), (10, .int .i64 (i : Nat))] ⟨rfl, rfl, rfl, rfl, rfl, rfl, rfl, rfl, trivial⟩ ⟨_, rfl, rfl, rfl, by omega, bst_keep hx hB3 (by
                first
                | exact .inl (by assumption)
                | (refine .inr (.inl ?_)
                   cases hq : (fd (Ob E) N kc N.length) N[i] with
                   | none => rfl
                   | some d =>
                     have := dI_some hq
                     omega)
                | (refine .inr (.inr ?_)
                   cases hq : (fd (Ob E) N kc N.length) N[i] with
                   | none => exact absurd g54 (by rw [hq]; simp [dI])
                   | some d =>
                     have h1 := dI_some hq
                     have h2 := dI_some hj5
                     exact ⟨j, bq, dd, d, rfl, hj3, hj5, rfl, by omega⟩))⟩
        · rintro F roc' Lc' ⟨best, rfl, rfl, rfl, hil, hB3⟩
          refine region ?_
          refine op (y (x_move rfl) rfl ?_)
          refine op (y (x_add rfl rfl _ (wr (by omega) (by omega))) rfl ?_)
          refine op (y (x_assign rfl) rfl ?_)
          refine nil ?_
          exact round (N.length - (i + 1)) [(1, .pointer (some ⟨b1, 0, none⟩)), (3, .int .i64 kc), (5, .slice A20 N.length cap20), (6, .slice A6 (pre.length + 1) cap6), (7, .int .i64 la), (8, .slice A32 (BehindR (prE E) la).length cap32), (9, .int .i64 best), (10, .int .i64 ((i + 1) : Nat))] (by omega) ⟨rfl, rfl, rfl, rfl, rfl, rfl, rfl, rfl, trivial⟩ ⟨i + 1, best, rfl, rfl, rfl, rfl, by omega, hB3⟩
      · try simp only [decide_eq_true_eq, decide_eq_false_iff_not, beq_iff_eq, bne_iff_ne, ne_eq, beq_eq_false_iff_ne, bne_eq_false_iff_eq, Bool.not_eq_true', Bool.not_eq_false', Bool.not_eq_true, Bool.not_eq_false, Decidable.not_not, Int.not_lt, Int.not_le] at h11
        refine exit ?_
        refine e_then ?_
        refine e_then ?_
        refine e_in ?_
        refine n_then ?_
        refine seq ?_
        refine seq ?_
        obtain rfl : i = N.length := by omega
        obtain ⟨j, bq, rfl, hjq, hres⟩ : ∃ (j : Nat) (b : Int), best = (j : Nat) ∧ N[j]? = some b ∧ ((mr = 0 ∧ b = kc) ∨ ∃ m', mr = m' + 1 ∧ b ≠ kc ∧ Lst (Ob E) kc (m' + 1) b ∧ cg (Ob E) (fin (Ob E) N kc) kc (m' + 1) la = b :: cg (Ob E) (fin (Ob E) N kc) kc m' b) := by
          cases mr with
          | zero =>
            obtain ⟨j, h1, h2⟩ := best_zero hNO hNO2 hLst hB3
            exact ⟨j, kc, h1, h2, .inl ⟨rfl, rfl⟩⟩
          | succ m' =>
            obtain ⟨j, b, h1, h2, h3, h4, h5⟩ := best_step hNs (fun a => (BehindR_spec _ a).1) hNO hNO2 hLst hB3
            exact ⟨j, b, h1, h2, .inr ⟨m', rfl, h3, h4, by simp only [cg, h5]⟩⟩
        have hjl : j < N.length := (List.getElem?_eq_some_iff.1 hjq).1
        obtain ⟨bbn, offn, rfl, hcn⟩ := hA3.at_ (i := j) hjl
        have cn0 := hcn j _ hjq 0 _ rfl
        refine region ?_
        refine op (y (x_move rfl) rfl ?_)
        refine op (y ((x_lss rfl rfl).as (v' := .bool false) (by rw [decide_eq_false (by omega)])) rfl ?_)
        refine op (y (x_move rfl) rfl ?_)
        refine opG rfl rfl (y (x_fieldAddr fo_63_0 rfl) rfl ?_)
        refine opG rfl rfl (y (x_load1 ag_23 rfl (by first | assumption | exact Cell.own 0 rfl rfl | exact Cell.own 1 rfl rfl | exact Cell.own 2 rfl rfl | exact Cell.own 3 rfl rfl | exact Cell.own 4 rfl rfl | exact Cell.own 5 rfl rfl | exact Cell.ofRo (by assumption))) rfl ?_)
        refine opG rfl rfl (y (x_move rfl) rfl ?_)
        refine opG rfl rfl (y (x_indexNat sz_23 rfl rfl (by omega)) rfl ?_)
        refine opG rfl rfl (y (x_load1 ag_3 rfl (by first | assumption | exact Cell.own 0 rfl rfl | exact Cell.own 1 rfl rfl | exact Cell.own 2 rfl rfl | exact Cell.own 3 rfl rfl | exact Cell.own 4 rfl rfl | exact Cell.own 5 rfl rfl | exact Cell.ofRo (by assumption))) rfl ?_)
        refine opG rfl rfl (y (x_move rfl) rfl ?_)
        refine opG rfl rfl (y (x_eql rfl rfl) rfl ?_)
        refine op (y (x_pickF rfl rfl) rfl ?_)
        refine nil ?_
        refine n_then ?_
        refine cond rfl (fun h15 => ?_) (fun h15 => ?_)
        · try simp only [decide_eq_true_eq, decide_eq_false_iff_not, beq_iff_eq, bne_iff_ne, ne_eq, beq_eq_false_iff_ne, bne_eq_false_iff_eq, Bool.not_eq_true', Bool.not_eq_false', Bool.not_eq_true, Bool.not_eq_false, Decidable.not_not, Int.not_lt, Int.not_le] at h15
          refine seq ?_
          refine region ?_
          refine op (y (x_move rfl) rfl ?_)
          refine op (y (x_assign rfl) rfl ?_)
          refine nil ?_
          refine n_then ?_
          refine ret ?_
          refine r_then ?_
          refine r_in ?_
          refine r_then ?_
          refine r_in ?_
          refine r_then ?_
          obtain rfl : mr = 0 := by
            rcases hres with ⟨h, _⟩ | ⟨m', h, h1, _⟩
            · exact h
            · exact absurd h15 h1
          have hcy2 : cycR (Ob E) N = pre ++ [la] := by rw [hcy, heq]; simp [cg]
          have hcl : (cycR (Ob E) N).length = pre.length + 1 := by rw [hcy2]; simp
          rw [← hcl] at hO ⊢
          rw [← hcy2] at hO
          refine drop1 ?_
          exact done rfl (.tmp rfl (.nil)) (hle.trans hle32) (_) (⟨_, .refl _, .refl _⟩) (⟨_, _, _, rfl, hO, rfl⟩)
        · try simp only [decide_eq_true_eq, decide_eq_false_iff_not, beq_iff_eq, bne_iff_ne, ne_eq, beq_eq_false_iff_ne, bne_eq_false_iff_eq, Bool.not_eq_true', Bool.not_eq_false', Bool.not_eq_true, Bool.not_eq_false, Decidable.not_not, Int.not_lt, Int.not_le] at h15
          refine skip ?_
          refine n_then ?_
          refine seq ?_
          obtain ⟨m', rfl, hbk, hlb, hcgb⟩ : ∃ m', mr = m' + 1 ∧ bq ≠ kc ∧ Lst (Ob E) kc (m' + 1) bq ∧ cg (Ob E) (fin (Ob E) N kc) kc (m' + 1) la = bq :: cg (Ob E) (fin (Ob E) N kc) kc m' bq := by
            rcases hres with ⟨_, h⟩ | h
            · exact absurd h h15
            · exact h
          refine region ?_
          refine op (y (x_fieldAddr fo_63_0 rfl) rfl ?_)
          refine op (y (x_load1 ag_23 rfl (by first | assumption | exact Cell.own 0 rfl rfl | exact Cell.own 1 rfl rfl | exact Cell.own 2 rfl rfl | exact Cell.own 3 rfl rfl | exact Cell.own 4 rfl rfl | exact Cell.own 5 rfl rfl | exact Cell.ofRo (by assumption))) rfl ?_)
          refine op (y (x_move rfl) rfl ?_)
          refine op (y (x_indexNat sz_23 rfl rfl (by omega)) rfl ?_)
          refine op (y (x_load1 ag_3 rfl (by first | assumption | exact Cell.own 0 rfl rfl | exact Cell.own 1 rfl rfl | exact Cell.own 2 rfl rfl | exact Cell.own 3 rfl rfl | exact Cell.own 4 rfl rfl | exact Cell.own 5 rfl rfl | exact Cell.ofRo (by assumption))) rfl ?_)
          refine op (y (x_assign rfl) rfl ?_)
          refine nil ?_
          refine n_then ?_
          refine region ?_
          refine op (y (x_move rfl) rfl ?_)
          refine op (y (x_move rfl) rfl ?_)
          refine op (e_slice1 rfl Try.underlying23 ti_3 rfl rfl (by decide) (by decide) rfl rfl rfl fun b89 => ?_)
          refine op (e_append1 0 rfl st_23 rfl rfl rfl hO rfl rfl (by omega) (by omega) (fun _ => rfl) fun A90 cap90 R90 hO90 => ?_)
          refine op (y (x_assign rfl) rfl ?_)
          refine nil ?_
          refine n_in ?_
          have hl : (pre ++ [la]).length = pre.length + 1 := by simp
          rw [← hl] at hO90 ⊢
          exact round (m' + 1) [(1, .pointer (some ⟨b1, 0, none⟩)), (3, .int .i64 kc), (5, .slice _ N.length cap20), (6, .slice _ (((pre ++ [la])).length + 1) _), (7, .int .i64 bq)] (by omega) ⟨rfl, rfl, rfl, rfl, rfl, trivial⟩ ⟨m', (pre ++ [la]), bq, _, _, _, rfl, rfl, rfl, hle.trans hle32, hA3, hBB, hF3, hO90.snoc, hlb, by rw [heq, hcgb]; simp, by rw [hl]; omega⟩
    · try simp only [decide_eq_true_eq, decide_eq_false_iff_not, beq_iff_eq, bne_iff_ne, ne_eq, beq_eq_false_iff_ne, bne_eq_false_iff_eq, Bool.not_eq_true', Bool.not_eq_false', Bool.not_eq_true, Bool.not_eq_false, Decidable.not_not, Int.not_lt, Int.not_le] at h7
      refine exit ?_
      refine e_then ?_
      refine e_then ?_
      refine e_in ?_
      refine n_then ?_
      refine seq ?_
      refine region ?_
      refine op (y (x_move rfl) rfl ?_)
      refine op (y (x_assign rfl) rfl ?_)
      refine nil ?_
      refine n_then ?_
      refine ret ?_
      exfalso
      omega

end Go.Proofs.Ytlmeblhcipkgmaa
