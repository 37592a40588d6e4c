/- The walk of the reference of graphs: the parts. -/
import Derived.Test.YtlmeblhcipkgmaaG23
namespace Go.Proofs.Ytlmeblhcipkgmaa
open Go Go.U
set_option maxRecDepth 20000
set_option linter.unusedSimpArgs false
set_option linter.unusedVariables false

open Go.RowKit
def InC (ps : List (List Int)) (vs : List Value) (RI : List Blk) : Prop := ∃ T : List (List Int × Option Addr × Nat × List Blk), ps = T.map (·.1) ∧ vs = T.map (fun t => Value.slice t.2.1 t.1.length t.2.2.1) ∧ RI = T.flatMap (·.2.2.2) ∧ ∀ t ∈ T, OwnS 3 1 t.2.1 t.1.length t.2.2.1 (t.1.flatMap encInt) t.2.2.2
theorem InC.nil : InC [] [] [] := ⟨[], rfl, rfl, rfl, by simp⟩
theorem InC.snoc {ps : List (List Int)} {vs : List Value} {RI : List Blk} (h : InC ps vs RI) {p : List Int} {A : Option Addr} {cap : Nat} {R : List Blk} (ho : OwnS 3 1 A p.length cap (p.flatMap encInt) R) : InC (ps ++ [p]) (vs ++ [.slice A p.length cap]) (RI ++ R) := by
  obtain ⟨T, rfl, rfl, rfl, h4⟩ := h
  refine ⟨T ++ [(p, A, cap, R)], by simp, by simp, by simp, fun t ht => ?_⟩
  rcases List.mem_append.1 ht with ht | ht
  · exact h4 t ht
  · rw [List.mem_singleton.1 ht]; exact ho
theorem InC.sl {ps : List (List Int)} {vs : List Value} {RI : List Blk} (h : InC ps vs RI) {ro' : Ro} (hR : ∀ q ∈ RI, ro'.cells q.1 = some q.2) {i : Nat} {p : List Int} (hp : ps[i]? = some p) : ∃ A cap, vs[i]? = some (.slice A p.length cap) ∧ Sl ro' 1 encInt A cap p := by
  obtain ⟨T, rfl, rfl, rfl, h4⟩ := h
  rw [List.getElem?_map, Option.map_eq_some_iff] at hp
  obtain ⟨t, ht, rfl⟩ := hp
  have htm := List.mem_of_getElem? ht
  exact ⟨t.2.1, t.2.2.1, by rw [List.getElem?_map, ht]; rfl, OwnS.sl (h4 t htm) (fun _ _ => rfl) (fun q hq => hR q (List.mem_flatMap.2 ⟨t, htm, hq⟩))⟩
theorem InC.len {ps : List (List Int)} {vs : List Value} {RI : List Blk} (h : InC ps vs RI) : vs.length = ps.length := by
  obtain ⟨T, rfl, rfl, _, _⟩ := h; simp
def PPd (E : List Ed) (N : List Int) (L : List (List Blk)) : Value → Ro → List (List Blk) → Prop := fun v ro' L' => ∃ ps vs A cap R RI, v = .slice A ps.length cap ∧ OwnS 23 1 A ps.length cap vs R ∧ InC ps vs RI ∧ ps = partsR (Ob E) N ∧ L' = R :: RI :: L
theorem filter_head {N : List Int} {M : Int → Bool} {i : Nat} {a : Int} (h : N[i]? = some a) (ha : M a = true) (hno : ∀ z ∈ N.take i, M z = false) : N.filter M = a :: (N.drop (i + 1)).filter M := by
  obtain ⟨hi, e⟩ := List.getElem?_eq_some_iff.1 h
  have hs : N = N.take i ++ a :: N.drop (i + 1) := by rw [← e]; simp
  conv => lhs; rw [hs]
  rw [List.filter_append, List.filter_cons, if_pos ha]
  have : (N.take i).filter M = [] := by
    rw [List.filter_eq_nil_iff]
    intro z hz
    rw [hno z hz]; simp
  rw [this]; rfl
theorem drop_take_snoc {N : List Int} {k i : Nat} {b : Int} (h : N[k]? = some b) (hi : i ≤ k) : (N.take (k + 1)).drop i = (N.take k).drop i ++ [b] := by
  rw [take_snoc' h, List.drop_append_of_le_length]
  rw [List.length_take]
  have := (List.getElem?_eq_some_iff.1 h).1
  omega

theorem GParts_c (N : List Int) (E : List Ed) (A : Option Addr) (cap : Nat) (B : Option Addr) (cap2 : Nat) (ro : Ro) (L : List (List Blk)) (hA : Sl ro 1 encInt A cap N) (hB : Sl ro 3 encEdge B cap2 E) (hn : N.length ≤ 1000) (hne : E.length ≤ 1000) (hNn : N.Nodup) (hNO : ∀ u w, w ∈ Ob E u → u ∈ N) :
    CT Try.prog 69 [gv A N.length cap B E.length cap2].toArray ro L (PPd E N L) := by
  have hcapn : N.length ≤ 9223372036854775807 := by omega
  have hcape : E.length ≤ 9223372036854775807 := by omega
  refine enter Try.func69 rfl Try.ntmps69 rfl ?_
  refine seq ?_
  refine region ?_
  refine op (e_box rfl rfl rfl fun b1 => ?_)
  refine op (y (x_assign rfl) rfl ?_)
  refine nil ?_
  refine n_then ?_
  refine seq ?_
  refine region ?_
  refine op (y (x_assign rfl) rfl ?_)
  refine nil ?_
  refine n_then ?_
  refine seq ?_
  refine region ?_
  refine op (y (x_assign rfl) rfl ?_)
  refine nil ?_
  refine n_then ?_
  refine seq ?_
  refine seq ?_
  refine region ?_
  refine op (y (x_assign rfl) rfl ?_)
  refine nil ?_
  refine n_then ?_
  refine block ?_
  refine emp ?_
  refine emp ?_
  refine emp ?_
  refine loop (fun m F ro' L' => ∃ (i : Nat) (ps : List (List Int)) (vs : List Value) (A3 : Option Addr) (cap3 : Nat) (R3 : List Blk) (RI : List Blk) (dn : List Int) (A4 : Option Addr) (cap4 : Nat) (R4 : List Blk), (m = N.length - i) ∧ (F = [(1, .pointer (some ⟨b1, 0, none⟩)), (3, .slice A3 ps.length cap3), (4, .slice A4 dn.length cap4), (5, .int .i64 (i : Nat))]) ∧ (L' = R3 :: RI :: R4 :: [(b1, .cells [.slice A N.length cap, .slice B E.length cap2].toArray 63 (0, 0))] :: L) ∧ (i ≤ N.length) ∧ (ro.le ro') ∧ (Sl ro' 1 encInt A cap N) ∧ (Sl ro' 3 encEdge B cap2 E) ∧ (OwnS 23 1 A3 ps.length cap3 vs R3) ∧ (InC ps vs RI) ∧ (OwnS 3 1 A4 dn.length cap4 (dn.flatMap encInt) R4) ∧ (partsR (Ob E) N = ps ++ pgo (mutu (Ob E) N) N (N.drop i) dn) ∧ (ps.length ≤ i) ∧ (∀ j : Nat, j < i → ∀ a, N[j]? = some a → a ∈ dn) ∧ (∀ z ∈ dn, ∀ w ∈ N, (mutu (Ob E) N) z w = true → w ∈ dn) ∧ (dn.Nodup) ∧ (∀ z ∈ dn, z ∈ N)) (N.length - 0) [(1, .pointer (some ⟨b1, 0, none⟩)), (3, .slice none (([] : List (List Int))).length 0), (4, .slice none (([] : List Int)).length 0), (5, .int .i64 (0 : Nat))] ⟨rfl, rfl, rfl, rfl, trivial⟩ ⟨0, ([] : List (List Int)), [], none, 0, _, _, ([] : List Int), none, 0, _, rfl, rfl, rfl, by omega, Ro.le.refl _, hA, hB, OwnS.none_ 23 1, InC.nil, OwnS.none_ 3 1, rfl, by simp, by intro j hj; omega, by simp, by simp, by simp⟩ ?_
  rintro m F ro' L' ⟨i, ps, vs, A3, cap3, R3, RI, dn, A4, cap4, R4, rfl, rfl, rfl, hi, hle, hA, hB, hO3, hIn, hO4, hpg, hpi, hin, hcl, hdn, hdN⟩
  refine seq ?_
  refine seq ?_
  refine region ?_
  refine op (y (x_move rfl) rfl ?_)
  refine op (y (x_fieldAddr fo_63_0 rfl) rfl ?_)
  refine op (y (x_load1 ag_23 rfl (by first | assumption | exact Cell.own 0 rfl rfl | exact Cell.own 1 rfl rfl | exact Cell.own 2 rfl rfl | exact Cell.own 3 rfl rfl | exact Cell.own 4 rfl rfl | exact Cell.own 5 rfl rfl | exact Cell.ofRo (by assumption))) rfl ?_)
  refine op (y (x_lenSl sz_23 rfl) rfl ?_)
  refine op (y (x_lss rfl rfl) rfl ?_)
  refine nil ?_
  refine n_then ?_
  refine cond rfl (fun h4 => ?_) (fun h4 => ?_)
  · try simp only [decide_eq_true_eq, decide_eq_false_iff_not, beq_iff_eq, bne_iff_ne, ne_eq, beq_eq_false_iff_ne, bne_eq_false_iff_eq, Bool.not_eq_true', Bool.not_eq_false', Bool.not_eq_true, Bool.not_eq_false, Decidable.not_not, Int.not_lt, Int.not_le] at h4
    refine skip ?_
    refine n_then ?_
    refine seqM (fun F roc' Lc' => ∃ (ps : List (List Int)) (vs : List Value) (A3 : Option Addr) (cap3 : Nat) (R3 : List Blk) (RI : List Blk) (dn : List Int) (A4 : Option Addr) (cap4 : Nat) (R4 : List Blk), (F = [(1, .pointer (some ⟨b1, 0, none⟩)), (3, .slice A3 ps.length cap3), (4, .slice A4 dn.length cap4), (5, .int .i64 (i : Nat))]) ∧ (Lc' = R3 :: RI :: R4 :: [(b1, .cells [.slice A N.length cap, .slice B E.length cap2].toArray 63 (0, 0))] :: L) ∧ (i < N.length) ∧ (ro.le roc') ∧ (Sl roc' 1 encInt A cap N) ∧ (Sl roc' 3 encEdge B cap2 E) ∧ (OwnS 23 1 A3 ps.length cap3 vs R3) ∧ (InC ps vs RI) ∧ (OwnS 3 1 A4 dn.length cap4 (dn.flatMap encInt) R4) ∧ (partsR (Ob E) N = ps ++ pgo (mutu (Ob E) N) N (N.drop (i + 1)) dn) ∧ (ps.length ≤ (i + 1)) ∧ (∀ j : Nat, j < i + 1 → ∀ a, N[j]? = some a → a ∈ dn) ∧ (∀ z ∈ dn, ∀ w ∈ N, (mutu (Ob E) N) z w = true → w ∈ dn) ∧ (dn.Nodup) ∧ (∀ z ∈ dn, z ∈ N)) ?_ ?_
    · skip
      refine block ?_
      refine seq ?_
      have hil : i < N.length := by omega
      obtain ⟨bbx, offx, rfl, hcx⟩ := hA.at_ (i := i) (by omega)
      have hx := List.getElem?_eq_getElem (show i < N.length from by omega)
      have cx0 := hcx i _ hx 0 _ rfl
      have hdr : N.drop i = N[i] :: N.drop (i + 1) := List.drop_eq_getElem_cons hil
      have hdnl : dn.length ≤ N.length := nodup_le hdn hdN
      refine region ?_
      refine op (y (x_fieldAddr fo_63_0 rfl) rfl ?_)
      refine op (y (x_load1 ag_23 rfl (by first | assumption | exact Cell.own 0 rfl rfl | exact Cell.own 1 rfl rfl | exact Cell.own 2 rfl rfl | exact Cell.own 3 rfl rfl | exact Cell.own 4 rfl rfl | exact Cell.own 5 rfl rfl | exact Cell.ofRo (by assumption))) rfl ?_)
      refine op (y (x_move rfl) rfl ?_)
      refine op (y (x_indexNat sz_23 rfl rfl (by omega)) rfl ?_)
      refine op (y (x_load1 ag_3 rfl (by first | assumption | exact Cell.own 0 rfl rfl | exact Cell.own 1 rfl rfl | exact Cell.own 2 rfl rfl | exact Cell.own 3 rfl rfl | exact Cell.own 4 rfl rfl | exact Cell.own 5 rfl rfl | exact Cell.ofRo (by assumption))) rfl ?_)
      refine op (y (x_assign rfl) rfl ?_)
      refine nil ?_
      refine n_then ?_
      refine seq ?_
      refine seq ?_
      refine region ?_
      refine op (y (x_move rfl) rfl ?_)
      refine op (y (x_move rfl) rfl ?_)
      refine op (e_call rfl fn_99 rfl rfl (GinO_c dn A4 cap4 R4 N[i] _ _ hO4 (fun z hz => mem1 (mem1 (mem0 hz))) (by omega)) fun v26 ro26 L26 hle26 hp26 => ?_)
      obtain ⟨rfl, rfl, rfl⟩ := hp26
      refine nil ?_
      refine n_then ?_
      refine cond rfl (fun h7 => ?_) (fun h7 => ?_)
      · try simp only [decide_eq_true_eq, decide_eq_false_iff_not, beq_iff_eq, bne_iff_ne, ne_eq, beq_eq_false_iff_ne, bne_eq_false_iff_eq, Bool.not_eq_true', Bool.not_eq_false', Bool.not_eq_true, Bool.not_eq_false, Decidable.not_not, Int.not_lt, Int.not_le] at h7
        refine exit ?_
        refine e_then ?_
        refine e_in ?_
        exact mid [(1, .pointer (some ⟨b1, 0, none⟩)), (3, .slice _ ps.length _), (4, .slice _ dn.length _), (5, .int .i64 (i : Nat))] ⟨rfl, rfl, rfl, rfl, trivial⟩ ⟨ps, vs, _, _, _, _, dn, _, _, _, rfl, rfl, hil, hle, hA, hB, hO3, hIn, hO4, (by rw [hpg, hdr]; simp only [pgo]; rw [if_pos (by assumption)]), by omega, upto (p := fun j => ∀ a, N[j]? = some a → a ∈ dn) hin (fun a e => by rw [hx] at e; cases e; assumption), hcl, hdn, hdN⟩
      · try simp only [decide_eq_true_eq, decide_eq_false_iff_not, beq_iff_eq, bne_iff_ne, ne_eq, beq_eq_false_iff_ne, bne_eq_false_iff_eq, Bool.not_eq_true', Bool.not_eq_false', Bool.not_eq_true, Bool.not_eq_false, Decidable.not_not, Int.not_lt, Int.not_le] at h7
        refine skip ?_
        refine n_then ?_
        refine seq ?_
        refine region ?_
        refine op (y (x_move rfl) rfl ?_)
        refine op (e_slice1 rfl Try.underlying23 ti_3 rfl rfl (by decide) (by decide) rfl rfl rfl fun b28 => ?_)
        refine op (y (x_assign rfl) rfl ?_)
        refine nil ?_
        refine n_then ?_
        refine seq ?_
        refine region ?_
        refine op (y (x_loadOwn 4 [.slice (some ⟨bbx, offx, none⟩) N.length cap, .slice B E.length cap2] ag_63 rfl rfl rfl rfl) rfl ?_)
        refine op (y (x_move rfl) rfl ?_)
        refine op (e_call rfl fn_66 rfl rfl (GReach_c N E _ cap B cap2 _ _ hA hB N[i] (by omega)) fun v31 ro31 L31 hle31 hp31 => ?_)
        obtain ⟨to, hRS, A31, cap31, rfl, hS31, hLL⟩ := hp31
        subst hLL
        have hto := RS.fin_ hRS hNO
        have hA1 := hA.mono hle31
        have hB1 := hB.mono hle31
        have hp0 : (((N.take (i + 1)).drop (i + 1)).filter ((mutu (Ob E) N) N[i])) = [] := by simp
        have hOO : OwnS 3 1 (some ⟨b28, 0, none⟩) 1 1 ((N[i] :: (((N.take (i + 1)).drop (i + 1)).filter ((mutu (Ob E) N) N[i]))).flatMap encInt) [(b28, .cells [.int .i64 N[i]].toArray 3 (0, 0))] := by rw [hp0]; exact OwnS.one
        refine op (y (x_assign rfl) rfl ?_)
        refine nil ?_
        refine n_then ?_
        refine seq ?_
        refine seq ?_
        refine region ?_
        refine op (y (x_move rfl) rfl ?_)
        refine op (y (x_add rfl rfl _ (wr (by omega) (by omega))) rfl ?_)
        refine op (y (x_assign rfl) rfl ?_)
        refine nil ?_
        refine n_then ?_
        refine block ?_
        refine loop (fun m F rob' Lb' => ∃ (k : Nat) (pl : Nat) (A7 : Option Addr) (cap7 : Nat) (R7 : List Blk), (m = N.length - k) ∧ (F = [(1, .pointer (some ⟨b1, 0, none⟩)), (3, .slice A3 ps.length cap3), (4, .slice A4 dn.length cap4), (5, .int .i64 (i : Nat)), (6, .int .i64 N[i]), (8, .slice A31 to.length cap31), (7, .slice A7 pl cap7), (9, .int .i64 (k : Nat))]) ∧ (Lb' = R7 :: R3 :: RI :: R4 :: [(b1, .cells [.slice (some ⟨bbx, offx, none⟩) N.length cap, .slice B E.length cap2].toArray 63 (0, 0))] :: L) ∧ (i + 1 ≤ k) ∧ (k ≤ N.length) ∧ (ro.le rob') ∧ (Sl rob' 1 encInt (some ⟨bbx, offx, none⟩) cap N) ∧ (Sl rob' 3 encEdge B cap2 E) ∧ (Sl rob' 1 encInt A31 cap31 to) ∧ (pl = (((N.take k).drop (i + 1)).filter ((mutu (Ob E) N) N[i])).length + 1) ∧ (OwnS 3 1 A7 pl cap7 ((N[i] :: (((N.take k).drop (i + 1)).filter ((mutu (Ob E) N) N[i]))).flatMap encInt) R7)) (N.length - ((i + 1))) [(1, .pointer (some ⟨b1, 0, none⟩)), (3, .slice A3 ps.length cap3), (4, .slice A4 dn.length cap4), (5, .int .i64 (i : Nat)), (6, .int .i64 N[i]), (8, .slice A31 to.length cap31), (7, .slice _ 1 1), (9, .int .i64 (((i + 1)) : Nat))] ⟨rfl, rfl, rfl, rfl, rfl, rfl, rfl, rfl, trivial⟩ ⟨(i + 1), 1, _, 1, _, rfl, rfl, rfl, Nat.le_refl _, by omega, hle.trans hle31, hA1, hB1, hS31, by rw [hp0]; rfl, hOO⟩ ?_
        rintro m F rob' Lb' ⟨k, pl, A7, cap7, R7, rfl, rfl, rfl, hk1, hk, hle, hA, hB, hTo, hpl, hO7⟩
        refine seq ?_
        refine seq ?_
        refine region ?_
        refine op (y (x_move rfl) rfl ?_)
        refine op (y (x_fieldAddr fo_63_0 rfl) rfl ?_)
        refine op (y (x_load1 ag_23 rfl (by first | assumption | exact Cell.own 0 rfl rfl | exact Cell.own 1 rfl rfl | exact Cell.own 2 rfl rfl | exact Cell.own 3 rfl rfl | exact Cell.own 4 rfl rfl | exact Cell.own 5 rfl rfl | exact Cell.ofRo (by assumption))) rfl ?_)
        refine op (y (x_lenSl sz_23 rfl) rfl ?_)
        refine op (y (x_lss rfl rfl) rfl ?_)
        refine nil ?_
        refine n_then ?_
        refine cond rfl (fun h11 => ?_) (fun h11 => ?_)
        · try simp only [decide_eq_true_eq, decide_eq_false_iff_not, beq_iff_eq, bne_iff_ne, ne_eq, beq_eq_false_iff_ne, bne_eq_false_iff_eq, Bool.not_eq_true', Bool.not_eq_false', Bool.not_eq_true, Bool.not_eq_false, Decidable.not_not, Int.not_lt, Int.not_le] at h11
          refine skip ?_
          refine n_then ?_
          refine seqM (fun F roc' Lc' => ∃ (pl : Nat) (A7 : Option Addr) (cap7 : Nat) (R7 : List Blk), (F = [(1, .pointer (some ⟨b1, 0, none⟩)), (3, .slice A3 ps.length cap3), (4, .slice A4 dn.length cap4), (5, .int .i64 (i : Nat)), (6, .int .i64 N[i]), (8, .slice A31 to.length cap31), (7, .slice A7 pl cap7), (9, .int .i64 (k : Nat))]) ∧ (Lc' = R7 :: R3 :: RI :: R4 :: [(b1, .cells [.slice (some ⟨bbx, offx, none⟩) N.length cap, .slice B E.length cap2].toArray 63 (0, 0))] :: L) ∧ (k < N.length) ∧ (ro.le roc') ∧ (Sl roc' 1 encInt (some ⟨bbx, offx, none⟩) cap N) ∧ (Sl roc' 3 encEdge B cap2 E) ∧ (Sl roc' 1 encInt A31 cap31 to) ∧ (pl = (((N.take (k + 1)).drop (i + 1)).filter ((mutu (Ob E) N) N[i])).length + 1) ∧ (OwnS 3 1 A7 pl cap7 ((N[i] :: (((N.take (k + 1)).drop (i + 1)).filter ((mutu (Ob E) N) N[i]))).flatMap encInt) R7)) ?_ ?_
          · skip
            refine block ?_
            refine seq ?_
            have hkl : k < N.length := by omega
            have hz := List.getElem?_eq_getElem hkl
            obtain ⟨_, _, hae, hcx2⟩ := hA.at_ (i := k) hkl
            obtain ⟨rfl, rfl⟩ : _ = bbx ∧ _ = offx := by simpa using hae.symm
            have cz0 := hcx2 k _ hz 0 _ rfl
            have hpkl : (((N.take k).drop (i + 1)).filter ((mutu (Ob E) N) N[i])).length ≤ 1000 := by
              have h1 := List.length_filter_le ((mutu (Ob E) N) N[i]) ((N.take k).drop (i + 1))
              rw [List.length_drop, List.length_take] at h1
              omega
            have hne : ¬ N[i] = N[k] := fun e => by
              have := nodup_get hNn hx (hz.trans (by rw [e]))
              omega
            have hMv : mutu (Ob E) N N[i] N[k] = ((fin (Ob E) N N[k] N[i]).isSome && (fin (Ob E) N N[i] N[k]).isSome) := by unfold mutu; simp [hne]
            refine region ?_
            refine op (y (x_fieldAddr fo_63_0 rfl) rfl ?_)
            refine op (y (x_load1 ag_23 rfl (by first | assumption | exact Cell.own 0 rfl rfl | exact Cell.own 1 rfl rfl | exact Cell.own 2 rfl rfl | exact Cell.own 3 rfl rfl | exact Cell.own 4 rfl rfl | exact Cell.own 5 rfl rfl | exact Cell.ofRo (by assumption))) rfl ?_)
            refine op (y (x_move rfl) rfl ?_)
            refine op (y (x_indexNat sz_23 rfl rfl (by omega)) rfl ?_)
            refine op (y (x_load1 ag_3 rfl (by first | assumption | exact Cell.own 0 rfl rfl | exact Cell.own 1 rfl rfl | exact Cell.own 2 rfl rfl | exact Cell.own 3 rfl rfl | exact Cell.own 4 rfl rfl | exact Cell.own 5 rfl rfl | exact Cell.ofRo (by assumption))) rfl ?_)
            refine op (y (x_assign rfl) rfl ?_)
            refine nil ?_
            refine n_then ?_
            refine seq ?_
            refine region ?_
            refine op (y (x_move rfl) rfl ?_)
            refine op (y (x_move rfl) rfl ?_)
            refine op (e_call rfl fn_99 rfl rfl (Gin_c to A31 cap31 N[k] _ _ hTo) fun v48 ro48 L48 hle48 hp48 => ?_)
            obtain ⟨rfl, rfl, rfl⟩ := hp48
            rw [hto]
            refine op (y (x_move rfl) rfl ?_)
            refine bsplit 49 rfl (fun g49 => ?_) (fun g49 => ?_)
            · try simp only [decide_eq_true_eq, decide_eq_false_iff_not, beq_iff_eq, bne_iff_ne, ne_eq, beq_eq_false_iff_ne, bne_eq_false_iff_eq, Bool.not_eq_true', Bool.not_eq_false', Bool.not_eq_true, Bool.not_eq_false, Decidable.not_not, Int.not_lt, Int.not_le] at g49
              refine opG rfl rfl (y (x_loadOwn 4 [.slice (some ⟨_, _, none⟩) N.length cap, .slice B E.length cap2] ag_63 rfl rfl rfl rfl) rfl ?_)
              refine opG rfl rfl (y (x_move rfl) rfl ?_)
              refine opG rfl rfl (e_call rfl fn_66 rfl rfl (GReach_c N E _ cap B cap2 _ _ hA hB N[k] (by omega)) fun v52 ro52 L52 hle52 hp52 => ?_)
              obtain ⟨to2, hRS2, A52, cap52, rfl, hS52, hLL⟩ := hp52
              subst hLL
              have hto2 := RS.fin_ hRS2 hNO
              refine opG rfl rfl (y (x_move rfl) rfl ?_)
              refine opG rfl rfl (e_call rfl fn_99 rfl rfl (Gin_c to2 A52 cap52 N[i] _ _ hS52) fun v54 ro54 L54 hle54 hp54 => ?_)
              obtain ⟨rfl, rfl, rfl⟩ := hp54
              rw [hto2]
              refine op (y (x_pickT rfl rfl) rfl ?_)
              refine nil ?_
              refine n_then ?_
              refine cond rfl (fun h14 => ?_) (fun h14 => ?_)
              · try simp only [decide_eq_true_eq, decide_eq_false_iff_not, beq_iff_eq, bne_iff_ne, ne_eq, beq_eq_false_iff_ne, bne_eq_false_iff_eq, Bool.not_eq_true', Bool.not_eq_false', Bool.not_eq_true, Bool.not_eq_false, Decidable.not_not, Int.not_lt, Int.not_le] at h14
                refine region ?_
                refine op (y (x_move rfl) rfl ?_)
                refine op (y (x_move rfl) rfl ?_)
                refine op (e_slice1 rfl Try.underlying23 ti_3 rfl rfl (by decide) (by decide) rfl rfl rfl fun b58 => ?_)
                refine op (e_append1 0 rfl st_23 rfl rfl rfl hO7 rfl rfl (by omega) (by omega) (fun _ => rfl) fun A59 cap59 R59 hO59 => ?_)
                refine op (y (x_assign rfl) rfl ?_)
                refine nil ?_
                refine n_in ?_
                have hMt : mutu (Ob E) N N[i] N[k] = true := by rw [hMv, Bool.and_eq_true]; exact ⟨by assumption, by assumption⟩
                have hpt : (((N.take (k + 1)).drop (i + 1)).filter ((mutu (Ob E) N) N[i])) = (((N.take k).drop (i + 1)).filter ((mutu (Ob E) N) N[i])) ++ [N[k]] := by rw [drop_take_snoc hz hk1, List.filter_append]; simp [hMt]
                exact mid [(1, .pointer (some ⟨b1, 0, none⟩)), (3, .slice A3 ps.length cap3), (4, .slice A4 dn.length cap4), (5, .int .i64 (i : Nat)), (6, .int .i64 N[i]), (8, .slice A31 to.length cap31), (7, .slice _ _ _), (9, .int .i64 (k : Nat))] ⟨rfl, rfl, rfl, rfl, rfl, rfl, rfl, rfl, trivial⟩ ⟨_, _, _, _, rfl, rfl, hkl, by first | exact hle.trans hle52 | exact hle, by first | exact hA.mono hle52 | exact hA, by first | exact hB.mono hle52 | exact hB, by first | exact hTo.mono hle52 | exact hTo, by rw [hpt, hpl]; simp, by rw [hpt, ← List.cons_append]; exact hO59.snoc⟩
              · try simp only [decide_eq_true_eq, decide_eq_false_iff_not, beq_iff_eq, bne_iff_ne, ne_eq, beq_eq_false_iff_ne, bne_eq_false_iff_eq, Bool.not_eq_true', Bool.not_eq_false', Bool.not_eq_true, Bool.not_eq_false, Decidable.not_not, Int.not_lt, Int.not_le] at h14
                refine skip ?_
                refine n_in ?_
                have hMf : mutu (Ob E) N N[i] N[k] = false := by
                  rw [hMv, Bool.and_eq_false_iff]
                  first
                  | exact .inr (by assumption)
                  | exact .inl (by assumption)
                have hpt : (((N.take (k + 1)).drop (i + 1)).filter ((mutu (Ob E) N) N[i])) = (((N.take k).drop (i + 1)).filter ((mutu (Ob E) N) N[i])) := by rw [drop_take_snoc hz hk1, List.filter_append]; simp [hMf]
                exact mid [(1, .pointer (some ⟨b1, 0, none⟩)), (3, .slice A3 ps.length cap3), (4, .slice A4 dn.length cap4), (5, .int .i64 (i : Nat)), (6, .int .i64 N[i]), (8, .slice A31 to.length cap31), (7, .slice _ _ _), (9, .int .i64 (k : Nat))] ⟨rfl, rfl, rfl, rfl, rfl, rfl, rfl, rfl, trivial⟩ ⟨_, _, _, _, rfl, rfl, hkl, by first | exact hle.trans hle52 | exact hle, by first | exact hA.mono hle52 | exact hA, by first | exact hB.mono hle52 | exact hB, by first | exact hTo.mono hle52 | exact hTo, by rw [hpt, hpl], by rw [hpt]; exact hO7⟩
            · try simp only [decide_eq_true_eq, decide_eq_false_iff_not, beq_iff_eq, bne_iff_ne, ne_eq, beq_eq_false_iff_ne, bne_eq_false_iff_eq, Bool.not_eq_true', Bool.not_eq_false', Bool.not_eq_true, Bool.not_eq_false, Decidable.not_not, Int.not_lt, Int.not_le] at g49
              refine opN rfl rfl rfl rfl ?_
              refine opN rfl rfl rfl rfl ?_
              refine opN rfl rfl rfl rfl ?_
              refine opN rfl rfl rfl rfl ?_
              refine opN rfl rfl rfl rfl ?_
              refine op (y (x_pickF rfl rfl) rfl ?_)
              refine nil ?_
              refine n_then ?_
              refine condF rfl ?_
              refine skip ?_
              refine n_in ?_
              have hMf : mutu (Ob E) N N[i] N[k] = false := by
                rw [hMv, Bool.and_eq_false_iff]
                first
                | exact .inr (by assumption)
                | exact .inl (by assumption)
              have hpt : (((N.take (k + 1)).drop (i + 1)).filter ((mutu (Ob E) N) N[i])) = (((N.take k).drop (i + 1)).filter ((mutu (Ob E) N) N[i])) := by rw [drop_take_snoc hz hk1, List.filter_append]; simp [hMf]
              exact mid [(1, .pointer (some ⟨b1, 0, none⟩)), (3, .slice A3 ps.length cap3), (4, .slice A4 dn.length cap4), (5, .int .i64 (i : Nat)), (6, .int .i64 N[i]), (8, .slice A31 to.length cap31), (7, .slice _ _ _), (9, .int .i64 (k : Nat))] ⟨rfl, rfl, rfl, rfl, rfl, rfl, rfl, rfl, trivial⟩ ⟨_, _, _, _, rfl, rfl, hkl, by first | exact hle.trans hle52 | exact hle, by first | exact hA.mono hle52 | exact hA, by first | exact hB.mono hle52 | exact hB, by first | exact hTo.mono hle52 | exact hTo, by rw [hpt, hpl], by rw [hpt]; exact hO7⟩
          · rintro F roc' Lc' ⟨pl, A7, cap7, R7, rfl, rfl, hkl, hle, hA, hB, hTo, hpl, hO7⟩
            refine region ?_
            refine op (y (x_move rfl) rfl ?_)
            refine op (y (x_add rfl rfl _ (wr (by omega) (by omega))) rfl ?_)
            refine op (y (x_assign rfl) rfl ?_)
            refine nil ?_
            exact round (N.length - (k + 1)) [(1, .pointer (some ⟨b1, 0, none⟩)), (3, .slice A3 ps.length cap3), (4, .slice A4 dn.length cap4), (5, .int .i64 (i : Nat)), (6, .int .i64 N[i]), (8, .slice A31 to.length cap31), (7, .slice _ _ _), (9, .int .i64 ((k + 1) : Nat))] (by omega) ⟨rfl, rfl, rfl, rfl, rfl, rfl, rfl, rfl, trivial⟩ ⟨k + 1, _, _, _, _, rfl, rfl, rfl, by omega, by omega, hle, hA, hB, hTo, hpl, hO7⟩
        · try simp only [decide_eq_true_eq, decide_eq_false_iff_not, beq_iff_eq, bne_iff_ne, ne_eq, beq_eq_false_iff_ne, bne_eq_false_iff_eq, Bool.not_eq_true', Bool.not_eq_false', Bool.not_eq_true, Bool.not_eq_false, Decidable.not_not, Int.not_lt, Int.not_le] at h11
          refine exit ?_
          refine e_then ?_
          refine e_then ?_
          refine e_in ?_
          refine n_then ?_
          refine seq ?_
          refine seq ?_
          refine region ?_
          refine op (y (x_assign rfl) rfl ?_)
          refine nil ?_
          refine n_then ?_
          refine block ?_
          obtain rfl : k = N.length := by omega
          have hfh : N.filter ((mutu (Ob E) N) N[i]) = N[i] :: (((N.take N.length).drop (i + 1)).filter ((mutu (Ob E) N) N[i])) := by
            rw [List.take_length]
            refine filter_head hx (mutu_refl _) (fun z hz => ?_)
            cases hm : (mutu (Ob E) N) N[i] z with
            | false => rfl
            | true =>
              obtain ⟨j, hj, e⟩ := List.getElem_of_mem hz
              rw [List.length_take] at hj
              rw [List.getElem_take] at e
              have h1 := hin j (by omega) z (by rw [List.getElem?_eq_getElem (by omega), e])
              have h2 := hcl z h1 N[i] (List.getElem_mem hil) (mutu_symm hm)
              exact absurd h2 (by assumption)
          have hpl2 : pl = (N.filter ((mutu (Ob E) N) N[i])).length := by rw [hpl, hfh]; rfl
          have hpqn : (N.filter ((mutu (Ob E) N) N[i])).length ≤ 1000 := by
            have := List.length_filter_le ((mutu (Ob E) N) N[i]) N
            omega
          rw [← hfh] at hO7
          subst hpl2
          generalize hpq : N.filter ((mutu (Ob E) N) N[i]) = pq at *
          refine loop (fun m F rod' Ld' => ∃ (q : Nat) (A4 : Option Addr) (cap4 : Nat) (R4 : List Blk), (m = pq.length - q) ∧ (F = [(1, .pointer (some ⟨b1, 0, none⟩)), (3, .slice A3 ps.length cap3), (5, .int .i64 (i : Nat)), (7, .slice A7 pq.length cap7), (4, .slice A4 (dn.length + q) cap4), (11, .int .i64 (q : Nat))]) ∧ (rob' = rod') ∧ (Ld' = R7 :: R3 :: RI :: R4 :: [(b1, .cells [.slice (some ⟨bbx, offx, none⟩) N.length cap, .slice B E.length cap2].toArray 63 (0, 0))] :: L) ∧ (q ≤ pq.length) ∧ (OwnS 3 1 A4 (dn.length + q) cap4 ((dn ++ pq.take q).flatMap encInt) R4)) (pq.length - 0) [(1, .pointer (some ⟨b1, 0, none⟩)), (3, .slice A3 ps.length cap3), (5, .int .i64 (i : Nat)), (7, .slice A7 pq.length cap7), (4, .slice _ (dn.length + 0) _), (11, .int .i64 (0 : Nat))] ⟨rfl, rfl, rfl, rfl, rfl, rfl, trivial⟩ ⟨0, _, _, _, rfl, rfl, rfl, rfl, by omega, by simpa using hO4⟩ ?_
          rintro m F rod' Ld' ⟨q, A4, cap4, R4, rfl, rfl, rfl, rfl, hq, hO4⟩
          refine seq ?_
          refine seq ?_
          refine region ?_
          refine op (y (x_move rfl) rfl ?_)
          refine op (y (x_move rfl) rfl ?_)
          refine op (y (x_lenSl sz_23 rfl) rfl ?_)
          refine op (y (x_lss rfl rfl) rfl ?_)
          refine nil ?_
          refine n_then ?_
          refine cond rfl (fun h17 => ?_) (fun h17 => ?_)
          · try simp only [decide_eq_true_eq, decide_eq_false_iff_not, beq_iff_eq, bne_iff_ne, ne_eq, beq_eq_false_iff_ne, bne_eq_false_iff_eq, Bool.not_eq_true', Bool.not_eq_false', Bool.not_eq_true, Bool.not_eq_false, Decidable.not_not, Int.not_lt, Int.not_le] at h17
            refine skip ?_
            refine n_then ?_
            refine seq ?_
            refine block ?_
            have hql : q < pq.length := by omega
            have hO7b := hO7
            obtain ⟨b6, off6, cur6, rfl, rfl, yq, hyq, hc6⟩ := OwnS.intAt hO7 hql rfl
            refine region ?_
            refine op (y (x_move rfl) rfl ?_)
            refine op (y (x_move rfl) rfl ?_)
            refine op (y (x_move rfl) rfl ?_)
            refine op (y (x_indexNat sz_23 rfl rfl (by omega)) rfl ?_)
            refine op (y (x_load1 ag_3 rfl (Cell.own 0 rfl hc6)) rfl ?_)
            refine op (e_slice1 rfl Try.underlying23 ti_3 rfl rfl (by decide) (by decide) rfl rfl rfl fun b71 => ?_)
            refine op (e_append1 3 rfl st_23 rfl rfl rfl hO4 rfl rfl (by omega) (by omega) (fun _ => rfl) fun A72 cap72 R72 hO72 => ?_)
            refine op (y (x_assign rfl) rfl ?_)
            refine nil ?_
            refine n_in ?_
            refine n_then ?_
            refine region ?_
            refine op (y (x_move rfl) rfl ?_)
            refine op (y (x_add rfl rfl _ (wr (by omega) (by omega))) rfl ?_)
            refine op (y (x_assign rfl) rfl ?_)
            refine nil ?_
            exact round (pq.length - (q + 1)) [(1, .pointer (some ⟨b1, 0, none⟩)), (3, .slice A3 ps.length cap3), (5, .int .i64 (i : Nat)), (7, .slice _ pq.length cap7), (4, .slice _ (dn.length + (q + 1)) _), (11, .int .i64 ((q + 1) : Nat))] (by omega) ⟨rfl, rfl, rfl, rfl, rfl, rfl, trivial⟩ ⟨q + 1, _, _, _, rfl, rfl, rfl, rfl, by omega, by rw [take_snoc' hyq, ← List.append_assoc]; exact hO72.snoc⟩
          · try simp only [decide_eq_true_eq, decide_eq_false_iff_not, beq_iff_eq, bne_iff_ne, ne_eq, beq_eq_false_iff_ne, bne_eq_false_iff_eq, Bool.not_eq_true', Bool.not_eq_false', Bool.not_eq_true, Bool.not_eq_false, Decidable.not_not, Int.not_lt, Int.not_le] at h17
            refine exit ?_
            refine e_then ?_
            refine e_then ?_
            refine e_in ?_
            refine n_then ?_
            obtain rfl : q = pq.length := by omega
            rw [List.take_length] at hO4
            have hdl : (dn ++ pq).length = dn.length + pq.length := by simp
            rw [← hdl] at hO4 ⊢
            refine region ?_
            refine op (y (x_move rfl) rfl ?_)
            refine op (y (x_move rfl) rfl ?_)
            refine op (e_slice1 rfl Try.underlying69 ti_23 rfl rfl (by decide) (by decide) rfl rfl rfl fun b75 => ?_)
            refine op (e_append1 1 rfl st_69 rfl rfl rfl hO3 rfl rfl (by omega) (by omega) (fun _ => rfl) fun A76 cap76 R76 hO76 => ?_)
            refine op (y (x_assign rfl) rfl ?_)
            refine nil ?_
            refine n_in ?_
            have hpsl : (ps ++ [pq]).length = ps.length + 1 := by simp
            rw [← hpsl] at hO76 ⊢
            have hpg3 : partsR (Ob E) N = (ps ++ [pq]) ++ pgo (mutu (Ob E) N) N (N.drop (i + 1)) (dn ++ pq) := by
              rw [hpg, hdr]; simp only [pgo]; rw [if_neg (by assumption), hpq]; simp
            refine subL (R76 :: (RI ++ R7) :: R4 :: [(b1, .cells [.slice (some ⟨bbx, offx, none⟩) N.length cap, .slice B E.length cap2].toArray 63 (0, 0))] :: L) ⟨_, by
              simp only [List.flatten_cons, List.append_assoc]
              exact ((List.perm_append_comm_assoc RI R7 _).append_left R76).trans (List.perm_append_comm_assoc R76 R7 _), .refl _⟩ ?_
            exact mid [(1, .pointer (some ⟨b1, 0, none⟩)), (3, .slice _ ((ps ++ [pq])).length _), (4, .slice _ ((dn ++ pq)).length _), (5, .int .i64 (i : Nat))] ⟨rfl, rfl, rfl, rfl, trivial⟩ ⟨(ps ++ [pq]), _, _, _, _, _, (dn ++ pq), _, _, _, rfl, rfl, hil, hle, hA, hB, hO76, InC.snoc hIn hO7, hO4, hpg3, by rw [hpsl]; omega, upto (p := fun j => ∀ a, N[j]? = some a → a ∈ dn ++ pq) (fun j hj a ha => List.mem_append_left _ (hin j hj a ha)) (fun a e => by
                  rw [hx] at e; cases e
                  refine List.mem_append_right _ ?_
                  rw [← hpq]; exact List.mem_filter.2 ⟨List.getElem_mem hil, mutu_refl _⟩), fun z hz w hw hzw => by
                  rcases List.mem_append.1 hz with hz | hz
                  · exact List.mem_append_left _ (hcl z hz w hw hzw)
                  · refine List.mem_append_right _ ?_
                    rw [← hpq] at hz ⊢
                    exact List.mem_filter.2 ⟨hw, mutu_trans hNO (List.mem_filter.1 hz).2 hzw⟩, by
                  rw [List.nodup_append]
                  refine ⟨hdn, by rw [← hpq]; exact List.Nodup.sublist List.filter_sublist hNn, fun u hu w hw e => ?_⟩
                  subst e
                  rw [← hpq] at hw
                  exact absurd (hcl u hu N[i] (List.getElem_mem hil) (mutu_symm (List.mem_filter.1 hw).2)) (by assumption), fun z hz => by
                  rcases List.mem_append.1 hz with hz | hz
                  · exact hdN z hz
                  · rw [← hpq] at hz; exact (List.mem_filter.1 hz).1⟩
    · rintro F roc' Lc' ⟨ps, vs, A3, cap3, R3, RI, dn, A4, cap4, R4, rfl, rfl, hil, hle, hA, hB, hO3, hIn, hO4, hpg, hpi, hin, hcl, hdn, hdN⟩
      refine region ?_
      refine op (y (x_move rfl) rfl ?_)
      refine op (y (x_add rfl rfl _ (wr (by omega) (by omega))) rfl ?_)
      refine op (y (x_assign rfl) rfl ?_)
      refine nil ?_
      exact round (N.length - (i + 1)) [(1, .pointer (some ⟨b1, 0, none⟩)), (3, .slice _ ps.length _), (4, .slice _ dn.length _), (5, .int .i64 ((i + 1) : Nat))] (by omega) ⟨rfl, rfl, rfl, rfl, trivial⟩ ⟨i + 1, ps, vs, _, _, _, _, dn, _, _, _, rfl, rfl, rfl, by omega, hle, hA, hB, hO3, hIn, hO4, hpg, hpi, hin, hcl, hdn, hdN⟩
  · try simp only [decide_eq_true_eq, decide_eq_false_iff_not, beq_iff_eq, bne_iff_ne, ne_eq, beq_eq_false_iff_ne, bne_eq_false_iff_eq, Bool.not_eq_true', Bool.not_eq_false', Bool.not_eq_true, Bool.not_eq_false, Decidable.not_not, Int.not_lt, Int.not_le] at h4
    refine exit ?_
    refine e_then ?_
    refine e_then ?_
    refine e_in ?_
    refine n_then ?_
    refine seq ?_
    refine region ?_
    refine op (y (x_move rfl) rfl ?_)
    refine op (y (x_assign rfl) rfl ?_)
    refine nil ?_
    refine n_then ?_
    refine ret ?_
    obtain rfl : i = N.length := by omega
    rw [List.drop_length] at hpg
    have hpe : ps = partsR (Ob E) N := by rw [hpg]; simp [pgo]
    exact done rfl (.tmp rfl (.nil)) (hle) (R3 :: RI :: L) (⟨_, .refl _, List.Sublist.append (.refl _) (List.Sublist.append (.refl _) (List.sublist_append_of_sublist_right (List.sublist_append_right _ _)))⟩) (⟨ps, vs, A3, cap3, R3, RI, rfl, hO3, hIn, hpe, rfl⟩)

end Go.Proofs.Ytlmeblhcipkgmaa
