/- The walks of relations of numbers, the third part. -/
import Derived.Test.YtlmeblhcipkgmaaS7
namespace Go.Proofs.Ytlmeblhcipkgmaa
open Go Go.U
set_option maxRecDepth 20000
set_option linter.unusedSimpArgs false
set_option linter.unusedVariables false

open Go.RowKit
def encPT (p : Fin 16 × Fin 16) : List Value := [encT p.1, encT p.2]
def ltT (x p : Fin 16 × Fin 16) : Bool := decide (x.1 < p.1) || (x.1 == p.1 && decide (x.2 < p.2))
def SPT (l : List (Fin 16 × Fin 16)) : Prop := l.Pairwise (fun x p => ltT x p = true)
theorem SPT.nodup {l : List (Fin 16 × Fin 16)} (h : SPT l) : l.Nodup := h.imp (fun h e => by subst e; simp [ltT] at h)
def pairsT (S : List (Fin 16 × Fin 16)) (ks : List (Fin 16)) : List (Fin 16 × Fin 16) := ks.flatMap (fun a => (BehF S a).map (fun b => (a, b)))
theorem mem_pairsT {S : List (Fin 16 × Fin 16)} {ks : List (Fin 16)} {p : Fin 16 × Fin 16} : p ∈ pairsT S ks ↔ p.1 ∈ ks ∧ p ∈ S := by
  obtain ⟨a, b⟩ := p
  unfold pairsT
  rw [List.mem_flatMap]
  constructor
  · rintro ⟨c, hc, hm⟩
    obtain ⟨d, hd, e⟩ := List.mem_map.1 hm
    cases e
    exact ⟨hc, ((BehF_spec S a).2 b).1 hd⟩
  · rintro ⟨h1, h2⟩
    exact ⟨a, h1, List.mem_map.2 ⟨b, ((BehF_spec S a).2 b).2 h2, rfl⟩⟩
theorem SPT_pairsT {S : List (Fin 16 × Fin 16)} : ∀ {ks : List (Fin 16)}, ks.Pairwise (· < ·) → SPT (pairsT S ks)
  | [], _ => by simp [pairsT, SPT]
  | a :: ks, h => by
    rw [List.pairwise_cons] at h
    have ih := SPT_pairsT (S := S) h.2
    show SPT ((BehF S a).map (fun b => (a, b)) ++ pairsT S ks)
    unfold SPT at *
    rw [List.pairwise_append]
    refine ⟨?_, ih, fun x hx y hy => ?_⟩
    · rw [List.pairwise_map]
      exact (BehF_spec S a).1.imp (fun h => by simp [ltT, h])
    · obtain ⟨b, _, rfl⟩ := List.mem_map.1 hx
      have h1 := h.1 _ (mem_pairsT.1 hy).1
      simp [ltT, h1]
theorem pairsT_snoc {S : List (Fin 16 × Fin 16)} {ks : List (Fin 16)} {a : Fin 16} : pairsT S (ks ++ [a]) = pairsT S ks ++ (BehF S a).map (fun b => (a, b)) := by simp [pairsT]
theorem pairsT_len {S : List (Fin 16 × Fin 16)} {ks : List (Fin 16)} (h : ks.Pairwise (· < ·)) : (pairsT S ks).length ≤ S.length := nodup_le (SPT.nodup (SPT_pairsT h)) (fun p hp => (mem_pairsT.1 hp).2)

theorem SPairs_c (x : Nat) (S : List (Fin 16 × Fin 16)) (R : List Blk) (ro : Ro) (L : List (List Blk)) (hR : RelS x S R) (hL : R ∈ L) (hn : S.length ≤ 1000000) :
    CT Try.prog 29 [.pointer (some ⟨x, 0, none⟩)].toArray ro L (fun v ro' L' => ∃ p : List (Fin 16 × Fin 16), SPT p ∧ p.Perm S ∧ PO 45 2 encPT p L v ro' L') := by
  refine enter Try.func29 rfl Try.ntmps29 rfl ?_
  have hRP := hR
  obtain ⟨G, mo, es, clk, I, hRB, hA, hS, hGl⟩ := hR
  have hroot := relB_root hRB hL
  have hmap := relB_map hRB hL
  have hin := relB_in hRB hL
  have hnd := hA.nodup
  have hkl : (om G).length ≤ 1000000 := by
    simp [om]; omega
  refine seq ?_
  refine region ?_
  refine op (y (x_assign rfl) rfl ?_)
  refine nil ?_
  refine n_then ?_
  refine seq ?_
  refine region ?_
  refine op (y (x_assign rfl) rfl ?_)
  refine nil ?_
  refine n_then ?_
  refine seq ?_
  refine seq ?_
  refine region ?_
  refine op (y (x_move rfl) rfl ?_)
  refine op (y (x_nilPtr rfl) rfl ?_)
  refine op (y (x_fieldAddr fo_103_0 rfl) rfl ?_)
  refine op (y (x_load1 ag_101 rfl (Cell.blk hroot rfl)) rfl ?_)
  refine op (e_call rfl fn_81 rfl rfl (KeysOs_c _ _ _) fun v12 ro12 L12 hle12 hp12 => ?_)
  obtain ⟨bx, rfl, rfl, rfl⟩ := hp12
  refine op (e_call rfl fn_80 rfl rfl (SortedOs_c txt16 (om G) es clk bx mo _ _ hA.outer hkl (List.mem_cons_self) (List.mem_cons_of_mem _ hmap)) fun v13 ro13 L13 hle13 hp13 => ?_)
  obtain ⟨A13, cap13, R13, rfl, hO13, rfl, rfl⟩ := hp13
  refine ufreeze fun ro2 hle2 hR2 => ?_
  refine drop0 ?_
  rw [om_keys] at *
  have hks : (srtF (G.map (·.1))).Pairwise (· < ·) := srtF_sorted hnd
  have hkm : ∀ y, y ∈ srtF (G.map (·.1)) ↔ y ∈ G.map (·.1) := fun y => mem_srtF
  have hkl2 : (srtF (G.map (·.1))).length ≤ 1000000 := by rw [srtF_length]; simpa [om] using hkl
  have hK := OwnS.sl hO13 (fun _ _ => rfl) hR2
  generalize srtF (G.map (·.1)) = ks at *
  refine op (y (x_lenSl sz_91 rfl) rfl ?_)
  refine op (y (x_move rfl) rfl ?_)
  refine nil ?_
  refine n_then ?_
  refine block ?_
  refine emp ?_
  refine loop (fun m F ro' L' => ∃ (i : Nat) (A3 : Option Addr) (cap3 : Nat) (R3 : List Blk), (m = ks.length - i) ∧ (F = [(0, .pointer (some ⟨x, 0, none⟩)), (13, .slice A13 ks.length cap13), (14, .int .i64 (ks.length : Nat)), (15, .int .i64 (i : Nat)), (3, .slice A3 (pairsT S (ks.take i)).length cap3)]) ∧ (L' = R3 :: L) ∧ (i ≤ ks.length) ∧ (ro.le ro') ∧ (Sl ro' 1 encFT A13 cap13 ks) ∧ (OwnS 45 2 A3 (pairsT S (ks.take i)).length cap3 ((pairsT S (ks.take i)).flatMap encPT) R3)) (ks.length - 0) [(0, .pointer (some ⟨x, 0, none⟩)), (13, .slice A13 ks.length cap13), (14, .int .i64 (ks.length : Nat)), (15, .int .i64 (0 : Nat)), (3, .slice none (pairsT S (ks.take 0)).length 0)] ⟨rfl, rfl, rfl, rfl, rfl, trivial⟩ ⟨0, none, 0, [], rfl, rfl, rfl, by omega, hle2, hK, OwnS.none_ 45 2⟩ ?_
  rintro m F ro' L' ⟨i, A3, cap3, R3, rfl, rfl, rfl, hi, hle, hK, hT⟩
  refine seq ?_
  refine region ?_
  refine op (y (x_lss rfl rfl) rfl ?_)
  refine nil ?_
  refine n_then ?_
  refine seq ?_
  refine cond rfl (fun h3 => ?_) (fun h3 => ?_)
  · try simp only [decide_eq_true_eq, decide_eq_false_iff_not, beq_iff_eq, bne_iff_ne, ne_eq, beq_eq_false_iff_ne, bne_eq_false_iff_eq, Bool.not_eq_true', Bool.not_eq_false', Bool.not_eq_true, Bool.not_eq_false, Decidable.not_not, Int.not_lt, Int.not_le] at h3
    refine skip ?_
    refine n_then ?_
    refine seq ?_
    refine block ?_
    refine seq ?_
    obtain ⟨bbx, offx, rfl, hcx⟩ := hK.at_ (i := i) (by omega)
    have hx := List.getElem?_eq_getElem (show i < ks.length from by omega)
    have cx0 := hcx i _ hx 0 _ rfl
    have hpre : (ks.take i).Pairwise (· < ·) := hks.sublist (List.take_sublist _ _)
    have hpl := pairsT_len (S := S) (hks.sublist (List.take_sublist (i + 1) _))
    rw [take_snoc' hx, pairsT_snoc] at hpl
    simp only [List.length_append, List.length_map] at hpl
    refine region ?_
    refine op (y (x_indexNat sz_91 rfl rfl (by omega)) rfl ?_)
    refine op (y (x_load1 ag_9 rfl (by first | assumption | exact Cell.own 0 rfl rfl | exact Cell.own 1 rfl rfl | exact Cell.own 2 rfl rfl | exact Cell.own 3 rfl rfl | exact Cell.own 4 rfl rfl | exact Cell.own 5 rfl rfl | exact Cell.ofRo (by assumption))) rfl ?_)
    refine op (y (x_assign rfl) rfl ?_)
    refine nil ?_
    refine n_then ?_
    refine seq ?_
    refine region ?_
    refine op (y (x_move rfl) rfl ?_)
    refine op (y (x_move rfl) rfl ?_)
    refine op (e_call rfl fn_79 rfl rfl (SBehind_c x S R _ _ hRP (List.mem_cons_of_mem _ hL) (by omega) _) fun v21 ro21 L21 hle21 hp21 => ?_)
    obtain ⟨A21, cap21, R21, rfl, hO21, rfl, rfl⟩ := hp21
    refine ufreeze fun ro4 hle4 hR4 => ?_
    have hB := OwnS.sl hO21 (fun _ _ => rfl) hR4
    refine op (y (x_lenSl sz_91 rfl) rfl ?_)
    refine op (y (x_move rfl) rfl ?_)
    refine nil ?_
    refine n_then ?_
    refine block ?_
    refine loop (fun m F ro' L' => ∃ (k : Nat) (A3 : Option Addr) (cap3 : Nat) (R3 : List Blk), (m = (BehF S ks[i]).length - k) ∧ (F = [(0, .pointer (some ⟨x, 0, none⟩)), (13, .slice (some ⟨bbx, offx, none⟩) ks.length cap13), (14, .int .i64 (ks.length : Nat)), (15, .int .i64 (i : Nat)), (5, encT (ks[i])), (21, .slice A21 (BehF S ks[i]).length cap21), (22, .int .i64 ((BehF S ks[i]).length : Nat)), (23, .int .i64 (k : Nat)), (3, .slice A3 ((pairsT S (ks.take i)).length + k) cap3)]) ∧ (ro4 = ro') ∧ (L' = R3 :: L) ∧ (k ≤ (BehF S ks[i]).length) ∧ (OwnS 45 2 A3 ((pairsT S (ks.take i)).length + k) cap3 ((pairsT S (ks.take i) ++ ((BehF S ks[i]).take k).map (fun b => (ks[i], b))).flatMap encPT) R3)) ((BehF S ks[i]).length - 0) [(0, .pointer (some ⟨x, 0, none⟩)), (13, .slice (some ⟨bbx, offx, none⟩) ks.length cap13), (14, .int .i64 (ks.length : Nat)), (15, .int .i64 (i : Nat)), (5, encT (ks[i])), (21, .slice A21 (BehF S ks[i]).length cap21), (22, .int .i64 ((BehF S ks[i]).length : Nat)), (23, .int .i64 (0 : Nat)), (3, .slice _ ((pairsT S (ks.take i)).length + 0) _)] ⟨rfl, rfl, rfl, rfl, rfl, rfl, rfl, rfl, rfl, trivial⟩ ⟨0, _, _, _, rfl, rfl, rfl, rfl, by omega, by simpa using hT⟩ ?_
    rintro m F ro' L' ⟨k, A3, cap3, R3, rfl, rfl, rfl, rfl, hk, hT⟩
    refine seq ?_
    refine region ?_
    refine op (y (x_lss rfl rfl) rfl ?_)
    refine nil ?_
    refine n_then ?_
    refine seq ?_
    refine cond rfl (fun h6 => ?_) (fun h6 => ?_)
    · try simp only [decide_eq_true_eq, decide_eq_false_iff_not, beq_iff_eq, bne_iff_ne, ne_eq, beq_eq_false_iff_ne, bne_eq_false_iff_eq, Bool.not_eq_true', Bool.not_eq_false', Bool.not_eq_true, Bool.not_eq_false, Decidable.not_not, Int.not_lt, Int.not_le] at h6
      refine skip ?_
      refine n_then ?_
      refine seq ?_
      refine block ?_
      refine seq ?_
      obtain ⟨bbz, offz, rfl, hcz⟩ := hB.at_ (i := k) (by omega)
      have hz := List.getElem?_eq_getElem (show k < (BehF S ks[i]).length from by omega)
      have cz0 := hcz k _ hz 0 _ rfl
      refine region ?_
      refine op (y (x_indexNat sz_91 rfl rfl (by omega)) rfl ?_)
      refine op (y (x_load1 ag_9 rfl (by first | assumption | exact Cell.own 0 rfl rfl | exact Cell.own 1 rfl rfl | exact Cell.own 2 rfl rfl | exact Cell.own 3 rfl rfl | exact Cell.own 4 rfl rfl | exact Cell.own 5 rfl rfl | exact Cell.ofRo (by assumption))) rfl ?_)
      refine op (y (x_assign rfl) rfl ?_)
      refine nil ?_
      refine n_then ?_
      refine region ?_
      refine op (y (x_move rfl) rfl ?_)
      refine op (y (x_move rfl) rfl ?_)
      refine op (y (x_move rfl) rfl ?_)
      refine op (y (x_buildArr ba_45 rfl rfl) rfl ?_)
      refine op (e_slice1 rfl Try.underlying43 ti_45 rfl rfl (by decide) (by decide) rfl rfl rfl fun b31 => ?_)
      refine op (e_append1 0 rfl st_43 rfl rfl rfl hT rfl rfl (by omega) (by omega) (fun _ => rfl) fun A32 cap32 R32 hO32 => ?_)
      refine op (y (x_assign rfl) rfl ?_)
      refine nil ?_
      refine n_in ?_
      refine n_then ?_
      refine region ?_
      refine op (y (x_add rfl rfl _ (wr (by omega) (by omega))) rfl ?_)
      refine op (y (x_move rfl) rfl ?_)
      refine nil ?_
      exact round ((BehF S ks[i]).length - (k + 1)) [(0, .pointer (some ⟨x, 0, none⟩)), (13, .slice (some ⟨bbx, offx, none⟩) ks.length cap13), (14, .int .i64 (ks.length : Nat)), (15, .int .i64 (i : Nat)), (5, encT (ks[i])), (21, .slice _ (BehF S ks[i]).length cap21), (22, .int .i64 ((BehF S ks[i]).length : Nat)), (23, .int .i64 ((k + 1) : Nat)), (3, .slice _ ((pairsT S (ks.take i)).length + (k + 1)) _)] (by omega) ⟨rfl, rfl, rfl, rfl, rfl, rfl, rfl, rfl, rfl, trivial⟩ ⟨k + 1, _, _, _, rfl, rfl, rfl, rfl, by omega, by
          have e : ((BehF S ks[i]).take (k + 1)).map (fun b => (ks[i], b)) = ((BehF S ks[i]).take k).map (fun b => (ks[i], b)) ++ [(ks[i], (BehF S ks[i])[k])] := by rw [take_snoc' hz, List.map_append]; rfl
          rw [e, ← List.append_assoc]
          exact hO32.snoc⟩
    · try simp only [decide_eq_true_eq, decide_eq_false_iff_not, beq_iff_eq, bne_iff_ne, ne_eq, beq_eq_false_iff_ne, bne_eq_false_iff_eq, Bool.not_eq_true', Bool.not_eq_false', Bool.not_eq_true, Bool.not_eq_false, Decidable.not_not, Int.not_lt, Int.not_le] at h6
      refine exit ?_
      refine e_then ?_
      refine e_then ?_
      refine e_in ?_
      refine n_in ?_
      refine n_then ?_
      refine region ?_
      refine op (y (x_add rfl rfl _ (wr (by omega) (by omega))) rfl ?_)
      refine op (y (x_move rfl) rfl ?_)
      refine nil ?_
      have hkk : k = (BehF S ks[i]).length := by omega
      rw [hkk] at hT
      rw [hkk]
      have e7 : pairsT S (ks.take (i + 1)) = pairsT S (ks.take i) ++ (BehF S ks[i]).map (fun b => (ks[i], b)) := by rw [take_snoc' hx, pairsT_snoc]
      have e8 : (pairsT S (ks.take (i + 1))).length = (pairsT S (ks.take i)).length + (BehF S ks[i]).length := by rw [e7]; simp
      rw [List.take_length, ← e7] at hT
      rw [← e8] at hT ⊢
      exact round (ks.length - (i + 1)) [(0, .pointer (some ⟨x, 0, none⟩)), (13, .slice _ ks.length cap13), (14, .int .i64 (ks.length : Nat)), (15, .int .i64 ((i + 1) : Nat)), (3, .slice _ (pairsT S (ks.take (i + 1))).length _)] (by omega) ⟨rfl, rfl, rfl, rfl, rfl, trivial⟩ ⟨i + 1, _, _, _, rfl, rfl, rfl, by omega, hle.trans hle4, hK.mono hle4, hT⟩
  · try simp only [decide_eq_true_eq, decide_eq_false_iff_not, beq_iff_eq, bne_iff_ne, ne_eq, beq_eq_false_iff_ne, bne_eq_false_iff_eq, Bool.not_eq_true', Bool.not_eq_false', Bool.not_eq_true, Bool.not_eq_false, Decidable.not_not, Int.not_lt, Int.not_le] at h3
    refine exit ?_
    refine e_then ?_
    refine e_then ?_
    refine e_in ?_
    refine n_then ?_
    refine seq ?_
    refine region ?_
    refine op (y (x_move rfl) rfl ?_)
    refine op (y (x_assign rfl) rfl ?_)
    refine nil ?_
    refine n_then ?_
    refine ret ?_
    obtain rfl : i = ks.length := by omega
    rw [List.take_length] at hT ⊢
    refine done rfl (.tmp rfl (.nil)) (hle) (_) (⟨_, .refl _, .refl _⟩) (⟨pairsT S ks, SPT_pairsT hks, ?_, _, _, _, rfl, hT, rfl⟩)
    refine (List.perm_ext_iff_of_nodup (SPT.nodup (SPT_pairsT hks)) hRP.nodup).2 fun p => ?_
    rw [mem_pairsT]
    refine ⟨fun h => h.2, fun h => ⟨?_, h⟩⟩
    rw [hkm]
    obtain ⟨q, l, h1, _⟩ := mem_prs.1 (hS.mem_iff.1 h)
    exact List.mem_map.2 ⟨_, h1, rfl⟩

end Go.Proofs.Ytlmeblhcipkgmaa
