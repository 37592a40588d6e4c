/- The walks of relations of numbers, the third part. -/
import Derived.Test.YtlmeblhcipkgmaaR7
namespace Go.Proofs.Ytlmeblhcipkgmaa
open Go Go.U
set_option maxRecDepth 20000
set_option linter.unusedSimpArgs false
set_option linter.unusedVariables false

open Go.RowKit
def pairsL (S : List (Int × Int)) (ks : List Int) : List (Int × Int) := ks.flatMap (fun a => (BehindR S a).map (fun b => (a, b)))
theorem mem_pairsL {S : List (Int × Int)} {ks : List Int} {p : Int × Int} : p ∈ pairsL S ks ↔ p.1 ∈ ks ∧ p ∈ S := by
  obtain ⟨a, b⟩ := p
  unfold pairsL
  rw [List.mem_flatMap]
  constructor
  · rintro ⟨c, hc, hm⟩
    obtain ⟨d, hd, e⟩ := List.mem_map.1 hm
    cases e
    exact ⟨hc, ((BehindR_spec S a).2 b).1 hd⟩
  · rintro ⟨h1, h2⟩
    exact ⟨a, h1, List.mem_map.2 ⟨b, ((BehindR_spec S a).2 b).2 h2, rfl⟩⟩
theorem SP_pairsL {S : List (Int × Int)} : ∀ {ks : List Int}, ks.Pairwise (· < ·) → SP (pairsL S ks)
  | [], _ => by simp [pairsL, SP]
  | a :: ks, h => by
    rw [List.pairwise_cons] at h
    have ih := SP_pairsL (S := S) h.2
    show SP ((BehindR S a).map (fun b => (a, b)) ++ pairsL S ks)
    unfold SP at *
    rw [List.pairwise_append]
    refine ⟨?_, ih, fun x hx y hy => ?_⟩
    · rw [List.pairwise_map]
      exact (BehindR_spec S a).1.imp (fun h => by simp [ltP, h])
    · obtain ⟨b, _, rfl⟩ := List.mem_map.1 hx
      have h1 := h.1 _ (mem_pairsL.1 hy).1
      simp [ltP, h1]
theorem pairsL_snoc {S : List (Int × Int)} {ks : List Int} {a : Int} : pairsL S (ks ++ [a]) = pairsL S ks ++ (BehindR S a).map (fun b => (a, b)) := by simp [pairsL]
theorem pairsL_len {S : List (Int × Int)} {ks : List Int} (h : ks.Pairwise (· < ·)) : (pairsL S ks).length ≤ S.length := nodup_le (SP.nodup (SP_pairsL h)) (fun p hp => (mem_pairsL.1 hp).2)
theorem keys_len {S : List (Int × Int)} {G : List (Int × Nat × List Int)} : True := trivial

theorem RPairs_c (x : Nat) (S : List (Int × Int)) (R : List Blk) (ro : Ro) (L : List (List Blk)) (hR : RelI x S R) (hL : R ∈ L) (hn : S.length ≤ 1000000) :
    CT Try.prog 32 [.pointer (some ⟨x, 0, none⟩)].toArray ro L (fun v ro' L' => ∃ p : List (Int × Int), SP p ∧ p.Perm S ∧ PO 51 2 encPair p L v ro' L') := by
  refine enter Try.func32 rfl Try.ntmps32 rfl ?_
  have hRP := hR
  obtain ⟨G, mo, es, clk, I, hRB, hA, hS, hGl⟩ := hR
  have hroot := relB_root hRB hL
  have hmap := relB_map hRB hL
  have hin := relB_in hRB hL
  have hnd := hA.nodup
  have hkl : (om G).length ≤ 1000000 := by
    simp [om]; omega
  refine seq ?_
  refine region ?_
  refine op (y (x_assign rfl) rfl ?_)
  refine nil ?_
  refine n_then ?_
  refine seq ?_
  refine region ?_
  refine op (y (x_assign rfl) rfl ?_)
  refine nil ?_
  refine n_then ?_
  refine seq ?_
  refine seq ?_
  refine region ?_
  refine op (y (x_move rfl) rfl ?_)
  refine op (y (x_nilPtr rfl) rfl ?_)
  refine op (y (x_fieldAddr fo_100_0 rfl) rfl ?_)
  refine op (y (x_load1 ag_98 rfl (Cell.blk hroot rfl)) rfl ?_)
  refine op (e_call rfl fn_84 rfl rfl (KeysO_c _ _ _) fun v12 ro12 L12 hle12 hp12 => ?_)
  obtain ⟨bx, rfl, rfl, rfl⟩ := hp12
  refine op (e_call rfl fn_83 rfl rfl (SortedO_c (om G) es clk bx mo _ _ hA.outer (fun p hp => by obtain ⟨g, hg, rfl⟩ := List.mem_map.1 hp; exact (hA.okk g hg).1) hkl (List.mem_cons_self) (List.mem_cons_of_mem _ hmap)) fun v13 ro13 L13 hle13 hp13 => ?_)
  obtain ⟨A13, cap13, R13, rfl, hO13, rfl, rfl⟩ := hp13
  refine ufreeze fun ro2 hle2 hR2 => ?_
  refine drop0 ?_
  rw [om_keys] at *
  have hks : (srt (G.map (·.1))).Pairwise (· < ·) := srt_sorted hnd
  have hkm : ∀ y, y ∈ srt (G.map (·.1)) ↔ y ∈ G.map (·.1) := fun y => mem_srt
  have hkl2 : (srt (G.map (·.1))).length ≤ 1000000 := by rw [srt_length]; simpa [om] using hkl
  have hK := OwnS.sl hO13 (fun _ _ => rfl) hR2
  generalize srt (G.map (·.1)) = ks at *
  refine op (y (x_lenSl sz_23 rfl) rfl ?_)
  refine op (y (x_move rfl) rfl ?_)
  refine nil ?_
  refine n_then ?_
  refine block ?_
  refine emp ?_
  refine loop (fun m F ro' L' => ∃ (i : Nat) (A3 : Option Addr) (cap3 : Nat) (R3 : List Blk), (m = ks.length - i) ∧ (F = [(0, .pointer (some ⟨x, 0, none⟩)), (13, .slice A13 ks.length cap13), (14, .int .i64 (ks.length : Nat)), (15, .int .i64 (i : Nat)), (3, .slice A3 (pairsL S (ks.take i)).length cap3)]) ∧ (L' = R3 :: L) ∧ (i ≤ ks.length) ∧ (ro.le ro') ∧ (Sl ro' 1 encInt A13 cap13 ks) ∧ (OwnS 51 2 A3 (pairsL S (ks.take i)).length cap3 ((pairsL S (ks.take i)).flatMap encPair) R3)) (ks.length - 0) [(0, .pointer (some ⟨x, 0, none⟩)), (13, .slice A13 ks.length cap13), (14, .int .i64 (ks.length : Nat)), (15, .int .i64 (0 : Nat)), (3, .slice none (pairsL S (ks.take 0)).length 0)] ⟨rfl, rfl, rfl, rfl, rfl, trivial⟩ ⟨0, none, 0, [], rfl, rfl, rfl, by omega, hle2, hK, OwnS.none_ 51 2⟩ ?_
  rintro m F ro' L' ⟨i, A3, cap3, R3, rfl, rfl, rfl, hi, hle, hK, hT⟩
  refine seq ?_
  refine region ?_
  refine op (y (x_lss rfl rfl) rfl ?_)
  refine nil ?_
  refine n_then ?_
  refine seq ?_
  refine cond rfl (fun h3 => ?_) (fun h3 => ?_)
  · try simp only [decide_eq_true_eq, decide_eq_false_iff_not, beq_iff_eq, bne_iff_ne, ne_eq, beq_eq_false_iff_ne, bne_eq_false_iff_eq, Bool.not_eq_true', Bool.not_eq_false', Bool.not_eq_true, Bool.not_eq_false, Decidable.not_not, Int.not_lt, Int.not_le] at h3
    refine skip ?_
    refine n_then ?_
    refine seq ?_
    refine block ?_
    refine seq ?_
    obtain ⟨bbx, offx, rfl, hcx⟩ := hK.at_ (i := i) (by omega)
    have hx := List.getElem?_eq_getElem (show i < ks.length from by omega)
    have cx0 := hcx i _ hx 0 _ rfl
    have hpre : (ks.take i).Pairwise (· < ·) := hks.sublist (List.take_sublist _ _)
    have hpl := pairsL_len (S := S) (hks.sublist (List.take_sublist (i + 1) _))
    rw [take_snoc' hx, pairsL_snoc] at hpl
    simp only [List.length_append, List.length_map] at hpl
    refine region ?_
    refine op (y (x_indexNat sz_23 rfl rfl (by omega)) rfl ?_)
    refine op (y (x_load1 ag_3 rfl (by first | assumption | exact Cell.own 0 rfl rfl | exact Cell.own 1 rfl rfl | exact Cell.own 2 rfl rfl | exact Cell.own 3 rfl rfl | exact Cell.own 4 rfl rfl | exact Cell.own 5 rfl rfl | exact Cell.ofRo (by assumption))) rfl ?_)
    refine op (y (x_assign rfl) rfl ?_)
    refine nil ?_
    refine n_then ?_
    refine seq ?_
    refine region ?_
    refine op (y (x_move rfl) rfl ?_)
    refine op (y (x_move rfl) rfl ?_)
    refine op (e_call rfl fn_42 rfl rfl (RBehind_c x S R _ _ hRP (List.mem_cons_of_mem _ hL) (by omega) _) fun v21 ro21 L21 hle21 hp21 => ?_)
    obtain ⟨A21, cap21, R21, rfl, hO21, rfl, rfl⟩ := hp21
    refine ufreeze fun ro4 hle4 hR4 => ?_
    have hB := OwnS.sl hO21 (fun _ _ => rfl) hR4
    refine op (y (x_lenSl sz_23 rfl) rfl ?_)
    refine op (y (x_move rfl) rfl ?_)
    refine nil ?_
    refine n_then ?_
    refine block ?_
    refine loop (fun m F ro' L' => ∃ (k : Nat) (A3 : Option Addr) (cap3 : Nat) (R3 : List Blk), (m = (BehindR S ks[i]).length - k) ∧ (F = [(0, .pointer (some ⟨x, 0, none⟩)), (13, .slice (some ⟨bbx, offx, none⟩) ks.length cap13), (14, .int .i64 (ks.length : Nat)), (15, .int .i64 (i : Nat)), (5, .int .i64 ks[i]), (21, .slice A21 (BehindR S ks[i]).length cap21), (22, .int .i64 ((BehindR S ks[i]).length : Nat)), (23, .int .i64 (k : Nat)), (3, .slice A3 ((pairsL S (ks.take i)).length + k) cap3)]) ∧ (ro4 = ro') ∧ (L' = R3 :: L) ∧ (k ≤ (BehindR S ks[i]).length) ∧ (OwnS 51 2 A3 ((pairsL S (ks.take i)).length + k) cap3 ((pairsL S (ks.take i) ++ ((BehindR S ks[i]).take k).map (fun b => (ks[i], b))).flatMap encPair) R3)) ((BehindR S ks[i]).length - 0) [(0, .pointer (some ⟨x, 0, none⟩)), (13, .slice (some ⟨bbx, offx, none⟩) ks.length cap13), (14, .int .i64 (ks.length : Nat)), (15, .int .i64 (i : Nat)), (5, .int .i64 ks[i]), (21, .slice A21 (BehindR S ks[i]).length cap21), (22, .int .i64 ((BehindR S ks[i]).length : Nat)), (23, .int .i64 (0 : Nat)), (3, .slice _ ((pairsL S (ks.take i)).length + 0) _)] ⟨rfl, rfl, rfl, rfl, rfl, rfl, rfl, rfl, rfl, trivial⟩ ⟨0, _, _, _, rfl, rfl, rfl, rfl, by omega, by simpa using hT⟩ ?_
    rintro m F ro' L' ⟨k, A3, cap3, R3, rfl, rfl, rfl, rfl, hk, hT⟩
    refine seq ?_
    refine region ?_
    refine op (y (x_lss rfl rfl) rfl ?_)
    refine nil ?_
    refine n_then ?_
    refine seq ?_
    refine cond rfl (fun h6 => ?_) (fun h6 => ?_)
    · try simp only [decide_eq_true_eq, decide_eq_false_iff_not, beq_iff_eq, bne_iff_ne, ne_eq, beq_eq_false_iff_ne, bne_eq_false_iff_eq, Bool.not_eq_true', Bool.not_eq_false', Bool.not_eq_true, Bool.not_eq_false, Decidable.not_not, Int.not_lt, Int.not_le] at h6
      refine skip ?_
      refine n_then ?_
      refine seq ?_
      refine block ?_
      refine seq ?_
      obtain ⟨bbz, offz, rfl, hcz⟩ := hB.at_ (i := k) (by omega)
      have hz := List.getElem?_eq_getElem (show k < (BehindR S ks[i]).length from by omega)
      have cz0 := hcz k _ hz 0 _ rfl
      refine region ?_
      refine op (y (x_indexNat sz_23 rfl rfl (by omega)) rfl ?_)
      refine op (y (x_load1 ag_3 rfl (by first | assumption | exact Cell.own 0 rfl rfl | exact Cell.own 1 rfl rfl | exact Cell.own 2 rfl rfl | exact Cell.own 3 rfl rfl | exact Cell.own 4 rfl rfl | exact Cell.own 5 rfl rfl | exact Cell.ofRo (by assumption))) rfl ?_)
      refine op (y (x_assign rfl) rfl ?_)
      refine nil ?_
      refine n_then ?_
      refine region ?_
      refine op (y (x_move rfl) rfl ?_)
      refine op (y (x_move rfl) rfl ?_)
      refine op (y (x_move rfl) rfl ?_)
      refine op (y (x_buildArr ba_51 rfl rfl) rfl ?_)
      refine op (e_slice1 rfl Try.underlying48 ti_51 rfl rfl (by decide) (by decide) rfl rfl rfl fun b31 => ?_)
      refine op (e_append1 0 rfl st_48 rfl rfl rfl hT rfl rfl (by omega) (by omega) (fun _ => rfl) fun A32 cap32 R32 hO32 => ?_)
      refine op (y (x_assign rfl) rfl ?_)
      refine nil ?_
      refine n_in ?_
      refine n_then ?_
      refine region ?_
      refine op (y (x_add rfl rfl _ (wr (by omega) (by omega))) rfl ?_)
      refine op (y (x_move rfl) rfl ?_)
      refine nil ?_
      exact round ((BehindR S ks[i]).length - (k + 1)) [(0, .pointer (some ⟨x, 0, none⟩)), (13, .slice (some ⟨bbx, offx, none⟩) ks.length cap13), (14, .int .i64 (ks.length : Nat)), (15, .int .i64 (i : Nat)), (5, .int .i64 ks[i]), (21, .slice _ (BehindR S ks[i]).length cap21), (22, .int .i64 ((BehindR S ks[i]).length : Nat)), (23, .int .i64 ((k + 1) : Nat)), (3, .slice _ ((pairsL S (ks.take i)).length + (k + 1)) _)] (by omega) ⟨rfl, rfl, rfl, rfl, rfl, rfl, rfl, rfl, rfl, trivial⟩ ⟨k + 1, _, _, _, rfl, rfl, rfl, rfl, by omega, by
          have e : ((BehindR S ks[i]).take (k + 1)).map (fun b => (ks[i], b)) = ((BehindR S ks[i]).take k).map (fun b => (ks[i], b)) ++ [(ks[i], (BehindR S ks[i])[k])] := by rw [take_snoc' hz, List.map_append]; rfl
          rw [e, ← List.append_assoc]
          exact hO32.snoc⟩
    · try simp only [decide_eq_true_eq, decide_eq_false_iff_not, beq_iff_eq, bne_iff_ne, ne_eq, beq_eq_false_iff_ne, bne_eq_false_iff_eq, Bool.not_eq_true', Bool.not_eq_false', Bool.not_eq_true, Bool.not_eq_false, Decidable.not_not, Int.not_lt, Int.not_le] at h6
      refine exit ?_
      refine e_then ?_
      refine e_then ?_
      refine e_in ?_
      refine n_in ?_
      refine n_then ?_
      refine region ?_
      refine op (y (x_add rfl rfl _ (wr (by omega) (by omega))) rfl ?_)
      refine op (y (x_move rfl) rfl ?_)
      refine nil ?_
      have hkk : k = (BehindR S ks[i]).length := by omega
      rw [hkk] at hT
      rw [hkk]
      have e7 : pairsL S (ks.take (i + 1)) = pairsL S (ks.take i) ++ (BehindR S ks[i]).map (fun b => (ks[i], b)) := by rw [take_snoc' hx, pairsL_snoc]
      have e8 : (pairsL S (ks.take (i + 1))).length = (pairsL S (ks.take i)).length + (BehindR S ks[i]).length := by rw [e7]; simp
      rw [List.take_length, ← e7] at hT
      rw [← e8] at hT ⊢
      exact round (ks.length - (i + 1)) [(0, .pointer (some ⟨x, 0, none⟩)), (13, .slice _ ks.length cap13), (14, .int .i64 (ks.length : Nat)), (15, .int .i64 ((i + 1) : Nat)), (3, .slice _ (pairsL S (ks.take (i + 1))).length _)] (by omega) ⟨rfl, rfl, rfl, rfl, rfl, trivial⟩ ⟨i + 1, _, _, _, rfl, rfl, rfl, by omega, hle.trans hle4, hK.mono hle4, hT⟩
  · try simp only [decide_eq_true_eq, decide_eq_false_iff_not, beq_iff_eq, bne_iff_ne, ne_eq, beq_eq_false_iff_ne, bne_eq_false_iff_eq, Bool.not_eq_true', Bool.not_eq_false', Bool.not_eq_true, Bool.not_eq_false, Decidable.not_not, Int.not_lt, Int.not_le] at h3
    refine exit ?_
    refine e_then ?_
    refine e_then ?_
    refine e_in ?_
    refine n_then ?_
    refine seq ?_
    refine region ?_
    refine op (y (x_move rfl) rfl ?_)
    refine op (y (x_assign rfl) rfl ?_)
    refine nil ?_
    refine n_then ?_
    refine ret ?_
    obtain rfl : i = ks.length := by omega
    rw [List.take_length] at hT ⊢
    refine done rfl (.tmp rfl (.nil)) (hle) (_) (⟨_, .refl _, .refl _⟩) (⟨pairsL S ks, SP_pairsL hks, ?_, _, _, _, rfl, hT, rfl⟩)
    refine (List.perm_ext_iff_of_nodup (SP.nodup (SP_pairsL hks)) hRP.nodup).2 fun p => ?_
    rw [mem_pairsL]
    refine ⟨fun h => h.2, fun h => ⟨?_, h⟩⟩
    rw [hkm]
    obtain ⟨q, l, h1, _⟩ := mem_prs.1 (hS.mem_iff.1 h)
    exact List.mem_map.2 ⟨_, h1, rfl⟩

end Go.Proofs.Ytlmeblhcipkgmaa
