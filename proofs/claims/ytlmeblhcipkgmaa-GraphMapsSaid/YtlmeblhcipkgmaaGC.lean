/- The walks of graphs of numbers, the fourth part: all edges. -/
import Derived.Test.YtlmeblhcipkgmaaGB
import Derived.Test.YtlmeblhcipkgmaaU23
namespace Go.Proofs.Ytlmeblhcipkgmaa
open Go Go.U
set_option maxRecDepth 20000
set_option linter.unusedSimpArgs false
set_option linter.unusedVariables false

open Go.RowKit
def SE (l : List Ed) : Prop := l.Pairwise (fun x z => lessE x z = true)
theorem SE.nodup {l : List Ed} (h : SE l) : l.Nodup := h.imp (fun h e => by subst e; simp [lessE] at h)
def edL (E : List Ed) (a b : Int) : List Ed := (kindsR E a b).map (fun c => (a, b, c))
def edM (E : List Ed) (a : Int) (bs : List Int) : List Ed := bs.flatMap (edL E a)
def edN (E : List Ed) (aa : List Int) : List Ed := aa.flatMap (fun a => edM E a (BehindR (prE E) a))
theorem RelG.fstE {x : Nat} {N : List Int} {E : List Ed} {R : List Blk} (h : RelG x N E R) {e : Ed} (he : e ∈ E) : e.1 ∈ N := by
  obtain ⟨G, mo, es, clk, I, h1, h2, h3, h4, h5, h6⟩ := h
  obtain ⟨a, b, c⟩ := e
  obtain ⟨p, M, q, ks, h7, _⟩ := mem_edg.1 (h4.mem_iff.1 he)
  exact h3.mem_iff.2 (List.mem_map.2 ⟨_, h7, rfl⟩)
theorem flatMap_nodup {α β : Type} {f : α → List β} : ∀ {l : List α}, l.Nodup → (∀ x ∈ l, (f x).Nodup) → (∀ x ∈ l, ∀ z ∈ l, ∀ w, w ∈ f x → w ∈ f z → x = z) → (l.flatMap f).Nodup
  | [], _, _, _ => by simp
  | a :: l, hn, h1, h2 => by
    rw [List.nodup_cons] at hn
    rw [List.flatMap_cons, List.nodup_append]
    refine ⟨h1 a (by simp), flatMap_nodup hn.2 (fun x hx => h1 x (by simp [hx])) (fun x hx z hz => h2 x (by simp [hx]) z (by simp [hz])), fun w hw w' hw' e => ?_⟩
    subst e
    obtain ⟨z, hz, hz2⟩ := List.mem_flatMap.1 hw'
    have := h2 a (by simp) z (by simp [hz]) w hw hz2
    subst this
    exact hn.1 hz
theorem RelG.nodupE {x : Nat} {N : List Int} {E : List Ed} {R : List Blk} (h : RelG x N E R) : E.Nodup := by
  obtain ⟨G, mo, es, clk, I, h1, h2, h3, h4, h5, h6⟩ := h
  refine h4.nodup_iff.2 ?_
  have hG : G.Nodup := by
    have := h2.nodup
    rw [List.Nodup, List.pairwise_map] at this
    exact this.imp (fun h e => h (by rw [e]))
  refine flatMap_nodup hG (fun g hg => ?_) (fun g hg g' hg' w hw hw' => ?_)
  · have hM := h2.inner.mnodup _ hg
    have hMn : g.2.2.Nodup := by
      have := hM.1
      rw [List.Nodup, List.pairwise_map] at this
      exact this.imp (fun h e => h (by rw [e]))
    refine flatMap_nodup hMn (fun k hk => ?_) (fun k hk k' hk' w hw hw' => ?_)
    · rw [List.Nodup, List.pairwise_map]
      exact (hM.2 _ hk).imp (fun h e => h (by simpa using e))
    · obtain ⟨c, _, rfl⟩ := List.mem_map.1 hw
      obtain ⟨c', _, e⟩ := List.mem_map.1 hw'
      simp only [Prod.mk.injEq] at e
      obtain ⟨b1, q1, k1⟩ := k
      obtain ⟨b2, q2, k2⟩ := k'
      simp only at e
      obtain rfl : b2 = b1 := e.2.1
      obtain ⟨rfl, rfl⟩ := keyg_uniq hM.1 hk hk'
      rfl
  · obtain ⟨k, _, hw⟩ := List.mem_flatMap.1 hw
    obtain ⟨k', _, hw'⟩ := List.mem_flatMap.1 hw'
    obtain ⟨c, _, rfl⟩ := List.mem_map.1 hw
    obtain ⟨c', _, e⟩ := List.mem_map.1 hw'
    simp only [Prod.mk.injEq] at e
    obtain ⟨b1, q1, k1⟩ := g
    obtain ⟨b2, q2, k2⟩ := g'
    simp only at e
    obtain rfl : b2 = b1 := e.1
    obtain ⟨rfl, rfl⟩ := keyg_uniq h2.nodup hg hg'
    rfl
theorem mem_edL {E : List Ed} {a b : Int} {e : Ed} : e ∈ edL E a b ↔ e.1 = a ∧ e.2.1 = b ∧ e ∈ E := by
  obtain ⟨x, z, c⟩ := e
  unfold edL
  rw [List.mem_map]
  constructor
  · rintro ⟨d, hd, e⟩
    cases e
    exact ⟨rfl, rfl, ((kindsR_spec E a b).2 _).1 hd⟩
  · rintro ⟨rfl, rfl, h⟩
    exact ⟨c, ((kindsR_spec E _ _).2 c).2 h, rfl⟩
theorem mem_edM {E : List Ed} {a : Int} {bs : List Int} {e : Ed} : e ∈ edM E a bs ↔ e.1 = a ∧ e.2.1 ∈ bs ∧ e ∈ E := by
  unfold edM
  rw [List.mem_flatMap]
  constructor
  · rintro ⟨b, hb, h⟩
    obtain ⟨h1, h2, h3⟩ := mem_edL.1 h
    exact ⟨h1, by rw [h2]; exact hb, h3⟩
  · rintro ⟨h1, h2, h3⟩
    exact ⟨e.2.1, h2, mem_edL.2 ⟨h1, rfl, h3⟩⟩
theorem mem_edN {E : List Ed} {aa : List Int} {e : Ed} : e ∈ edN E aa ↔ e.1 ∈ aa ∧ e ∈ E := by
  unfold edN
  rw [List.mem_flatMap]
  constructor
  · rintro ⟨a, ha, h⟩
    obtain ⟨h1, h2, h3⟩ := mem_edM.1 h
    exact ⟨by rw [h1]; exact ha, h3⟩
  · rintro ⟨h1, h2⟩
    exact ⟨e.1, h1, mem_edM.2 ⟨rfl, ((BehindR_spec _ _).2 _).2 (((prE_spec E).2.2 _ _).2 ⟨e.2.2, h2⟩), h2⟩⟩
theorem SE_edL (E : List Ed) (a b : Int) : SE (edL E a b) := by
  unfold SE edL
  rw [List.pairwise_map]
  exact (kindsR_spec E a b).1.imp (fun h => by simp [lessE, h])
theorem SE_edM (E : List Ed) (a : Int) : ∀ {bs : List Int}, bs.Pairwise (· < ·) → SE (edM E a bs)
  | [], _ => by simp [edM, SE]
  | b :: bs, h => by
    rw [List.pairwise_cons] at h
    have ih := SE_edM E a h.2
    show SE (edL E a b ++ edM E a bs)
    have h1 := SE_edL E a b
    unfold SE at *
    rw [List.pairwise_append]
    refine ⟨h1, ih, fun x hx z hz => ?_⟩
    obtain ⟨e1, e2, _⟩ := mem_edL.1 hx
    obtain ⟨e3, e4, _⟩ := mem_edM.1 hz
    have h5 := h.1 _ e4
    simp [lessE, e1, e3, e2, h5]
theorem SE_edN (E : List Ed) : ∀ {aa : List Int}, aa.Pairwise (· < ·) → SE (edN E aa)
  | [], _ => by simp [edN, SE]
  | a :: aa, h => by
    rw [List.pairwise_cons] at h
    have ih := SE_edN E h.2
    show SE (edM E a (BehindR (prE E) a) ++ edN E aa)
    have h1 := SE_edM E a (BehindR_spec (prE E) a).1
    unfold SE at *
    rw [List.pairwise_append]
    refine ⟨h1, ih, fun x hx z hz => ?_⟩
    obtain ⟨e1, _, _⟩ := mem_edM.1 hx
    obtain ⟨e3, _⟩ := mem_edN.1 hz
    have h5 := h.1 _ e3
    simp [lessE, e1, h5]
theorem edM_snoc {E : List Ed} {a b : Int} {bs : List Int} : edM E a (bs ++ [b]) = edM E a bs ++ edL E a b := by simp [edM]
theorem edN_snoc {E : List Ed} {a : Int} {aa : List Int} : edN E (aa ++ [a]) = edN E aa ++ edM E a (BehindR (prE E) a) := by simp [edN]
theorem edN_len {E : List Ed} {aa : List Int} (h : aa.Pairwise (· < ·)) : (edN E aa).length ≤ E.length := nodup_le (SE.nodup (SE_edN E h)) (fun p hp => (mem_edN.1 hp).2)
theorem edM_len {E : List Ed} {a : Int} {bs : List Int} (h : bs.Pairwise (· < ·)) : (edM E a bs).length ≤ E.length := nodup_le (SE.nodup (SE_edM E a h)) (fun p hp => (mem_edM.1 hp).2.2)

set_option maxHeartbeats 2000000 in
theorem GrEdges_c (x : Nat) (N : List Int) (E : List Ed) (R : List Blk) (ro : Ro) (L : List (List Blk)) (hR : RelG x N E R) (hL : R ∈ L) (hnN : N.length ≤ 100000) (hnE : E.length ≤ 100000) :
    CT Try.prog 76 [.pointer (some ⟨x, 0, none⟩)].toArray ro L (fun v ro' L' => ∃ p : List Ed, SE p ∧ p.Perm E ∧ PO 96 3 encEdge p L v ro' L') := by
  refine enter Try.func76 rfl Try.ntmps76 rfl ?_
  refine seq ?_
  refine region ?_
  refine op (y (x_assign rfl) rfl ?_)
  refine nil ?_
  refine n_then ?_
  refine seq ?_
  refine region ?_
  refine op (y (x_assign rfl) rfl ?_)
  refine nil ?_
  refine n_then ?_
  refine seq ?_
  refine seq ?_
  refine region ?_
  refine op (y (x_move rfl) rfl ?_)
  refine op (e_call rfl fn_50 rfl rfl (GrNodes_c x N E R _ _ hR hL hnN hnE) fun v11 ro11 L11 hle11 hp11 => ?_)
  obtain ⟨A11, cap11, R11, rfl, hO11, rfl, rfl⟩ := hp11
  refine ufreeze fun ro2 hle2 hR2 => ?_
  have hks : (srt N).Pairwise (· < ·) := srt_sorted hR.nodupN
  have hkm : ∀ y, y ∈ srt N ↔ y ∈ N := fun y => mem_srt
  have hkl2 : (srt N).length ≤ 100000 := by rw [srt_length]; exact hnN
  have hK := OwnS.sl hO11 (fun _ _ => rfl) hR2
  generalize srt N = ns at *
  refine op (y (x_lenSl sz_23 rfl) rfl ?_)
  refine op (y (x_move rfl) rfl ?_)
  refine nil ?_
  refine n_then ?_
  refine block ?_
  refine emp ?_
  refine loop (fun m F ro' L' => ∃ (i : Nat) (A3 : Option Addr) (cap3 : Nat) (R3 : List Blk), (m = ns.length - i) ∧ (F = [(0, .pointer (some ⟨x, 0, none⟩)), (11, .slice A11 ns.length cap11), (12, .int .i64 (ns.length : Nat)), (13, .int .i64 (i : Nat)), (3, .slice A3 (edN E (ns.take i)).length cap3)]) ∧ (L' = R3 :: L) ∧ (i ≤ ns.length) ∧ (ro.le ro') ∧ (Sl ro' 1 encInt A11 cap11 ns) ∧ (OwnS 96 3 A3 (edN E (ns.take i)).length cap3 ((edN E (ns.take i)).flatMap encEdge) R3)) (ns.length - 0) [(0, .pointer (some ⟨x, 0, none⟩)), (11, .slice A11 ns.length cap11), (12, .int .i64 (ns.length : Nat)), (13, .int .i64 (0 : Nat)), (3, .slice none (edN E (ns.take 0)).length 0)] ⟨rfl, rfl, rfl, rfl, rfl, trivial⟩ ⟨0, none, 0, [], rfl, rfl, rfl, by omega, hle2, hK, OwnS.none_ 96 3⟩ ?_
  rintro m F ro' L' ⟨i, A3, cap3, R3, rfl, rfl, rfl, hi, hle, hK, hT⟩
  refine seq ?_
  refine region ?_
  refine op (y (x_lss rfl rfl) rfl ?_)
  refine nil ?_
  refine n_then ?_
  refine seq ?_
  refine cond rfl (fun h3 => ?_) (fun h3 => ?_)
  · try simp only [decide_eq_true_eq, decide_eq_false_iff_not, beq_iff_eq, bne_iff_ne, ne_eq, beq_eq_false_iff_ne, bne_eq_false_iff_eq, Bool.not_eq_true', Bool.not_eq_false', Bool.not_eq_true, Bool.not_eq_false, Decidable.not_not, Int.not_lt, Int.not_le] at h3
    refine skip ?_
    refine n_then ?_
    refine seq ?_
    refine block ?_
    refine seq ?_
    obtain ⟨bbx, offx, rfl, hcx⟩ := hK.at_ (i := i) (by omega)
    have hx := List.getElem?_eq_getElem (show i < ns.length from by omega)
    have cx0 := hcx i _ hx 0 _ rfl
    have hpl := edN_len (E := E) (hks.sublist (List.take_sublist (i + 1) _))
    rw [take_snoc' hx, edN_snoc] at hpl
    simp only [List.length_append] at hpl
    refine region ?_
    refine op (y (x_indexNat sz_23 rfl rfl (by omega)) rfl ?_)
    refine op (y (x_load1 ag_3 rfl (by first | assumption | exact Cell.own 0 rfl rfl | exact Cell.own 1 rfl rfl | exact Cell.own 2 rfl rfl | exact Cell.own 3 rfl rfl | exact Cell.own 4 rfl rfl | exact Cell.own 5 rfl rfl | exact Cell.ofRo (by assumption))) rfl ?_)
    refine op (y (x_assign rfl) rfl ?_)
    refine nil ?_
    refine n_then ?_
    refine seq ?_
    refine region ?_
    refine op (y (x_move rfl) rfl ?_)
    refine op (y (x_move rfl) rfl ?_)
    refine op (e_call rfl fn_54 rfl rfl (GrOut_c x N E R _ _ hR (List.mem_cons_of_mem _ hL) hnN hnE _) fun v19 ro19 L19 hle19 hp19 => ?_)
    obtain ⟨A19, cap19, R19, rfl, hO19, rfl, rfl⟩ := hp19
    refine ufreeze fun ro4 hle4 hR4 => ?_
    have hB := OwnS.sl hO19 (fun _ _ => rfl) hR4
    have hbl : (BehindR (prE E) ns[i]).length ≤ E.length := by
      have h1 := len_prs (nodup_lt (BehindR_spec (prE E) ns[i]).1) (fun b hb => ((BehindR_spec (prE E) ns[i]).2 b).1 hb)
      have h2 := (prE_spec E).2.1
      omega
    refine op (y (x_lenSl sz_23 rfl) rfl ?_)
    refine op (y (x_move rfl) rfl ?_)
    refine nil ?_
    refine n_then ?_
    refine block ?_
    have e0 : edN E (ns.take i) ++ edM E ns[i] ((BehindR (prE E) ns[i]).take 0) = edN E (ns.take i) := by simp [edM]
    rw [← e0] at hT ⊢
    refine loop (fun m F ro2' L2' => ∃ (j : Nat) (A3 : Option Addr) (cap3 : Nat) (R3 : List Blk), (m = (BehindR (prE E) ns[i]).length - j) ∧ (F = [(0, .pointer (some ⟨x, 0, none⟩)), (11, .slice (some ⟨bbx, offx, none⟩) ns.length cap11), (12, .int .i64 (ns.length : Nat)), (13, .int .i64 (i : Nat)), (5, .int .i64 ns[i]), (19, .slice A19 (BehindR (prE E) ns[i]).length cap19), (20, .int .i64 ((BehindR (prE E) ns[i]).length : Nat)), (21, .int .i64 (j : Nat)), (3, .slice A3 (edN E (ns.take i) ++ edM E ns[i] ((BehindR (prE E) ns[i]).take j)).length cap3)]) ∧ (L2' = R3 :: L) ∧ (j ≤ (BehindR (prE E) ns[i]).length) ∧ (ro4.le ro2') ∧ (Sl ro2' 1 encInt A19 cap19 (BehindR (prE E) ns[i])) ∧ (OwnS 96 3 A3 (edN E (ns.take i) ++ edM E ns[i] ((BehindR (prE E) ns[i]).take j)).length cap3 ((edN E (ns.take i) ++ edM E ns[i] ((BehindR (prE E) ns[i]).take j)).flatMap encEdge) R3)) ((BehindR (prE E) ns[i]).length - 0) [(0, .pointer (some ⟨x, 0, none⟩)), (11, .slice (some ⟨bbx, offx, none⟩) ns.length cap11), (12, .int .i64 (ns.length : Nat)), (13, .int .i64 (i : Nat)), (5, .int .i64 ns[i]), (19, .slice A19 (BehindR (prE E) ns[i]).length cap19), (20, .int .i64 ((BehindR (prE E) ns[i]).length : Nat)), (21, .int .i64 (0 : Nat)), (3, .slice _ (edN E (ns.take i) ++ edM E ns[i] ((BehindR (prE E) ns[i]).take 0)).length _)] ⟨rfl, rfl, rfl, rfl, rfl, rfl, rfl, rfl, rfl, trivial⟩ ⟨0, _, _, _, rfl, rfl, rfl, by omega, Ro.le.refl _, hB, hT⟩ ?_
    rintro m F ro2' L2' ⟨j, A3, cap3, R3, rfl, rfl, rfl, hj, hle2, hBs, hT⟩
    refine seq ?_
    refine region ?_
    refine op (y (x_lss rfl rfl) rfl ?_)
    refine nil ?_
    refine n_then ?_
    refine seq ?_
    refine cond rfl (fun h6 => ?_) (fun h6 => ?_)
    · try simp only [decide_eq_true_eq, decide_eq_false_iff_not, beq_iff_eq, bne_iff_ne, ne_eq, beq_eq_false_iff_ne, bne_eq_false_iff_eq, Bool.not_eq_true', Bool.not_eq_false', Bool.not_eq_true, Bool.not_eq_false, Decidable.not_not, Int.not_lt, Int.not_le] at h6
      refine skip ?_
      refine n_then ?_
      refine seq ?_
      refine block ?_
      refine seq ?_
      obtain ⟨bbz, offz, rfl, hcz⟩ := hBs.at_ (i := j) (by omega)
      have hz := List.getElem?_eq_getElem (show j < (BehindR (prE E) ns[i]).length from by omega)
      have cz0 := hcz j _ hz 0 _ rfl
      have hpm := edM_len (E := E) (a := ns[i]) ((BehindR_spec (prE E) ns[i]).1.sublist (List.take_sublist (j + 1) _))
      have hem : edM E ns[i] ((BehindR (prE E) ns[i]).take (j + 1)) = edM E ns[i] ((BehindR (prE E) ns[i]).take j) ++ edL E ns[i] (BehindR (prE E) ns[i])[j] := by rw [take_snoc' hz, edM_snoc]
      rw [hem] at hpm
      simp only [List.length_append] at hpm
      have hpe := edN_len (E := E) (hks.sublist (List.take_sublist i _))
      refine region ?_
      refine op (y (x_indexNat sz_23 rfl rfl (by omega)) rfl ?_)
      refine op (y (x_load1 ag_3 rfl (by first | assumption | exact Cell.own 0 rfl rfl | exact Cell.own 1 rfl rfl | exact Cell.own 2 rfl rfl | exact Cell.own 3 rfl rfl | exact Cell.own 4 rfl rfl | exact Cell.own 5 rfl rfl | exact Cell.ofRo (by assumption))) rfl ?_)
      refine op (y (x_assign rfl) rfl ?_)
      refine nil ?_
      refine n_then ?_
      refine seq ?_
      refine region ?_
      refine op (y (x_move rfl) rfl ?_)
      refine op (y (x_move rfl) rfl ?_)
      refine op (y (x_move rfl) rfl ?_)
      refine op (e_call rfl fn_49 rfl rfl (GrKinds_c x N E R _ _ hR (List.mem_cons_of_mem _ hL) hnN hnE _ _) fun v28 ro28 L28 hle28 hp28 => ?_)
      obtain ⟨A28, cap28, R28, rfl, hO28, rfl, rfl⟩ := hp28
      refine ufreeze fun ro6 hle6 hR6 => ?_
      have hD := OwnS.sl hO28 (fun _ _ => rfl) hR6
      have hkl3 := kindsR_len E ns[i] (BehindR (prE E) ns[i])[j]
      refine op (y (x_lenSl sz_23 rfl) rfl ?_)
      refine op (y (x_move rfl) rfl ?_)
      refine nil ?_
      refine n_then ?_
      refine block ?_
      refine loop (fun m F ro' L' => ∃ (k : Nat) (A3 : Option Addr) (cap3 : Nat) (R3 : List Blk), (m = (kindsR E ns[i] (BehindR (prE E) ns[i])[j]).length - k) ∧ (F = [(0, .pointer (some ⟨x, 0, none⟩)), (11, .slice (some ⟨bbx, offx, none⟩) ns.length cap11), (12, .int .i64 (ns.length : Nat)), (13, .int .i64 (i : Nat)), (5, .int .i64 ns[i]), (19, .slice (some ⟨bbz, offz, none⟩) (BehindR (prE E) ns[i]).length cap19), (20, .int .i64 ((BehindR (prE E) ns[i]).length : Nat)), (21, .int .i64 (j : Nat)), (7, .int .i64 (BehindR (prE E) ns[i])[j]), (28, .slice A28 (kindsR E ns[i] (BehindR (prE E) ns[i])[j]).length cap28), (29, .int .i64 ((kindsR E ns[i] (BehindR (prE E) ns[i])[j]).length : Nat)), (30, .int .i64 (k : Nat)), (3, .slice A3 ((edN E (ns.take i) ++ edM E ns[i] ((BehindR (prE E) ns[i]).take j)).length + k) cap3)]) ∧ (ro6 = ro') ∧ (L' = R3 :: L) ∧ (k ≤ (kindsR E ns[i] (BehindR (prE E) ns[i])[j]).length) ∧ (OwnS 96 3 A3 ((edN E (ns.take i) ++ edM E ns[i] ((BehindR (prE E) ns[i]).take j)).length + k) cap3 (((edN E (ns.take i) ++ edM E ns[i] ((BehindR (prE E) ns[i]).take j)) ++ ((kindsR E ns[i] (BehindR (prE E) ns[i])[j]).take k).map (fun c => (ns[i], (BehindR (prE E) ns[i])[j], c))).flatMap encEdge) R3)) ((kindsR E ns[i] (BehindR (prE E) ns[i])[j]).length - 0) [(0, .pointer (some ⟨x, 0, none⟩)), (11, .slice (some ⟨bbx, offx, none⟩) ns.length cap11), (12, .int .i64 (ns.length : Nat)), (13, .int .i64 (i : Nat)), (5, .int .i64 ns[i]), (19, .slice (some ⟨bbz, offz, none⟩) (BehindR (prE E) ns[i]).length cap19), (20, .int .i64 ((BehindR (prE E) ns[i]).length : Nat)), (21, .int .i64 (j : Nat)), (7, .int .i64 (BehindR (prE E) ns[i])[j]), (28, .slice A28 (kindsR E ns[i] (BehindR (prE E) ns[i])[j]).length cap28), (29, .int .i64 ((kindsR E ns[i] (BehindR (prE E) ns[i])[j]).length : Nat)), (30, .int .i64 (0 : Nat)), (3, .slice _ ((edN E (ns.take i) ++ edM E ns[i] ((BehindR (prE E) ns[i]).take j)).length + 0) _)] ⟨rfl, rfl, rfl, rfl, rfl, rfl, rfl, rfl, rfl, rfl, rfl, rfl, rfl, trivial⟩ ⟨0, _, _, _, rfl, rfl, rfl, rfl, by omega, by simpa using hT⟩ ?_
      rintro m F ro' L' ⟨k, A3, cap3, R3, rfl, rfl, rfl, rfl, hk, hT⟩
      refine seq ?_
      refine region ?_
      refine op (y (x_lss rfl rfl) rfl ?_)
      refine nil ?_
      refine n_then ?_
      refine seq ?_
      refine cond rfl (fun h9 => ?_) (fun h9 => ?_)
      · try simp only [decide_eq_true_eq, decide_eq_false_iff_not, beq_iff_eq, bne_iff_ne, ne_eq, beq_eq_false_iff_ne, bne_eq_false_iff_eq, Bool.not_eq_true', Bool.not_eq_false', Bool.not_eq_true, Bool.not_eq_false, Decidable.not_not, Int.not_lt, Int.not_le] at h9
        refine skip ?_
        refine n_then ?_
        refine seq ?_
        refine block ?_
        refine seq ?_
        obtain ⟨bbv, offv, rfl, hcv⟩ := hD.at_ (i := k) (by omega)
        have hv := List.getElem?_eq_getElem (show k < (kindsR E ns[i] (BehindR (prE E) ns[i])[j]).length from by omega)
        have cv0 := hcv k _ hv 0 _ rfl
        refine region ?_
        refine op (y (x_indexNat sz_23 rfl rfl (by omega)) rfl ?_)
        refine op (y (x_load1 ag_3 rfl (by first | assumption | exact Cell.own 0 rfl rfl | exact Cell.own 1 rfl rfl | exact Cell.own 2 rfl rfl | exact Cell.own 3 rfl rfl | exact Cell.own 4 rfl rfl | exact Cell.own 5 rfl rfl | exact Cell.ofRo (by assumption))) rfl ?_)
        refine op (y (x_assign rfl) rfl ?_)
        refine nil ?_
        refine n_then ?_
        refine region ?_
        refine op (y (x_move rfl) rfl ?_)
        refine op (y (x_move rfl) rfl ?_)
        refine op (y (x_move rfl) rfl ?_)
        refine op (y (x_move rfl) rfl ?_)
        refine op (y (x_build bu_96 rfl rfl) rfl ?_)
        refine op (e_slice1 rfl Try.underlying93 ti_96 rfl rfl (by decide) (by decide) rfl rfl rfl fun b39 => ?_)
        have hal : (edN E (ns.take i) ++ edM E ns[i] ((BehindR (prE E) ns[i]).take j)).length ≤ 300000 := by simp only [List.length_append]; omega
        refine op (e_append1 0 rfl st_93 rfl rfl rfl hT rfl rfl (by omega) (by omega) (fun _ => rfl) fun A40 cap40 R40 hO40 => ?_)
        refine op (y (x_assign rfl) rfl ?_)
        refine nil ?_
        refine n_in ?_
        refine n_then ?_
        refine region ?_
        refine op (y (x_add rfl rfl _ (wr (by omega) (by omega))) rfl ?_)
        refine op (y (x_move rfl) rfl ?_)
        refine nil ?_
        exact round ((kindsR E ns[i] (BehindR (prE E) ns[i])[j]).length - (k + 1)) [(0, .pointer (some ⟨x, 0, none⟩)), (11, .slice (some ⟨bbx, offx, none⟩) ns.length cap11), (12, .int .i64 (ns.length : Nat)), (13, .int .i64 (i : Nat)), (5, .int .i64 ns[i]), (19, .slice (some ⟨bbz, offz, none⟩) (BehindR (prE E) ns[i]).length cap19), (20, .int .i64 ((BehindR (prE E) ns[i]).length : Nat)), (21, .int .i64 (j : Nat)), (7, .int .i64 (BehindR (prE E) ns[i])[j]), (28, .slice _ (kindsR E ns[i] (BehindR (prE E) ns[i])[j]).length cap28), (29, .int .i64 ((kindsR E ns[i] (BehindR (prE E) ns[i])[j]).length : Nat)), (30, .int .i64 ((k + 1) : Nat)), (3, .slice _ ((edN E (ns.take i) ++ edM E ns[i] ((BehindR (prE E) ns[i]).take j)).length + (k + 1)) _)] (by omega) ⟨rfl, rfl, rfl, rfl, rfl, rfl, rfl, rfl, rfl, rfl, rfl, rfl, rfl, trivial⟩ ⟨k + 1, _, _, _, rfl, rfl, rfl, rfl, by omega, by
            have e : ((kindsR E ns[i] (BehindR (prE E) ns[i])[j]).take (k + 1)).map (fun c => (ns[i], (BehindR (prE E) ns[i])[j], c)) = ((kindsR E ns[i] (BehindR (prE E) ns[i])[j]).take k).map (fun c => (ns[i], (BehindR (prE E) ns[i])[j], c)) ++ [(ns[i], (BehindR (prE E) ns[i])[j], (kindsR E ns[i] (BehindR (prE E) ns[i])[j])[k])] := by rw [take_snoc' hv, List.map_append]; rfl
            rw [e, ← List.append_assoc]
            exact hO40.snoc (x := (ns[i], (BehindR (prE E) ns[i])[j], (kindsR E ns[i] (BehindR (prE E) ns[i])[j])[k]))⟩
      · try simp only [decide_eq_true_eq, decide_eq_false_iff_not, beq_iff_eq, bne_iff_ne, ne_eq, beq_eq_false_iff_ne, bne_eq_false_iff_eq, Bool.not_eq_true', Bool.not_eq_false', Bool.not_eq_true, Bool.not_eq_false, Decidable.not_not, Int.not_lt, Int.not_le] at h9
        refine exit ?_
        refine e_then ?_
        refine e_then ?_
        refine e_in ?_
        refine n_in ?_
        refine n_then ?_
        refine region ?_
        refine op (y (x_add rfl rfl _ (wr (by omega) (by omega))) rfl ?_)
        refine op (y (x_move rfl) rfl ?_)
        refine nil ?_
        have hkk : k = (kindsR E ns[i] (BehindR (prE E) ns[i])[j]).length := by omega
        rw [hkk] at hT
        rw [hkk]
        have e7 : (edN E (ns.take i) ++ edM E ns[i] ((BehindR (prE E) ns[i]).take j)) ++ ((kindsR E ns[i] (BehindR (prE E) ns[i])[j]).take (kindsR E ns[i] (BehindR (prE E) ns[i])[j]).length).map (fun c => (ns[i], (BehindR (prE E) ns[i])[j], c)) = edN E (ns.take i) ++ edM E ns[i] ((BehindR (prE E) ns[i]).take (j + 1)) := by rw [hem, List.take_length, List.append_assoc]; rfl
        have e8 : (edN E (ns.take i) ++ edM E ns[i] ((BehindR (prE E) ns[i]).take (j + 1))).length = (edN E (ns.take i) ++ edM E ns[i] ((BehindR (prE E) ns[i]).take j)).length + (kindsR E ns[i] (BehindR (prE E) ns[i])[j]).length := by rw [hem, ← List.append_assoc, List.length_append]; simp [edL]
        rw [e7, ← e8] at hT
        rw [← e8]
        exact round ((BehindR (prE E) ns[i]).length - (j + 1)) [(0, .pointer (some ⟨x, 0, none⟩)), (11, .slice (some ⟨bbx, offx, none⟩) ns.length cap11), (12, .int .i64 (ns.length : Nat)), (13, .int .i64 (i : Nat)), (5, .int .i64 ns[i]), (19, .slice _ (BehindR (prE E) ns[i]).length cap19), (20, .int .i64 ((BehindR (prE E) ns[i]).length : Nat)), (21, .int .i64 ((j + 1) : Nat)), (3, .slice _ (edN E (ns.take i) ++ edM E ns[i] ((BehindR (prE E) ns[i]).take (j + 1))).length _)] (by omega) ⟨rfl, rfl, rfl, rfl, rfl, rfl, rfl, rfl, rfl, trivial⟩ ⟨j + 1, _, _, _, rfl, rfl, rfl, by omega, hle2.trans hle6, hBs.mono hle6, hT⟩
    · try simp only [decide_eq_true_eq, decide_eq_false_iff_not, beq_iff_eq, bne_iff_ne, ne_eq, beq_eq_false_iff_ne, bne_eq_false_iff_eq, Bool.not_eq_true', Bool.not_eq_false', Bool.not_eq_true, Bool.not_eq_false, Decidable.not_not, Int.not_lt, Int.not_le] at h6
      refine exit ?_
      refine e_then ?_
      refine e_then ?_
      refine e_in ?_
      refine n_in ?_
      refine n_then ?_
      refine region ?_
      refine op (y (x_add rfl rfl _ (wr (by omega) (by omega))) rfl ?_)
      refine op (y (x_move rfl) rfl ?_)
      refine nil ?_
      have hjj : j = (BehindR (prE E) ns[i]).length := by omega
      rw [hjj, List.take_length] at hT
      rw [hjj, List.take_length]
      have e9 : edN E (ns.take i) ++ edM E ns[i] (BehindR (prE E) ns[i]) = edN E (ns.take (i + 1)) := by rw [take_snoc' hx, edN_snoc]
      rw [e9] at hT ⊢
      exact round (ns.length - (i + 1)) [(0, .pointer (some ⟨x, 0, none⟩)), (11, .slice _ ns.length cap11), (12, .int .i64 (ns.length : Nat)), (13, .int .i64 ((i + 1) : Nat)), (3, .slice _ (edN E (ns.take (i + 1))).length _)] (by omega) ⟨rfl, rfl, rfl, rfl, rfl, trivial⟩ ⟨i + 1, _, _, _, rfl, rfl, rfl, by omega, (hle.trans hle4).trans hle2, (hK.mono hle4).mono hle2, hT⟩
  · try simp only [decide_eq_true_eq, decide_eq_false_iff_not, beq_iff_eq, bne_iff_ne, ne_eq, beq_eq_false_iff_ne, bne_eq_false_iff_eq, Bool.not_eq_true', Bool.not_eq_false', Bool.not_eq_true, Bool.not_eq_false, Decidable.not_not, Int.not_lt, Int.not_le] at h3
    refine exit ?_
    refine e_then ?_
    refine e_then ?_
    refine e_in ?_
    refine n_then ?_
    refine seq ?_
    refine region ?_
    refine op (y (x_move rfl) rfl ?_)
    refine op (y (x_assign rfl) rfl ?_)
    refine nil ?_
    refine n_then ?_
    refine ret ?_
    obtain rfl : i = ns.length := by omega
    rw [List.take_length] at hT ⊢
    refine done rfl (.tmp rfl (.nil)) (hle) (_) (⟨_, .refl _, .refl _⟩) (⟨edN E ns, SE_edN E hks, ?_, _, _, _, rfl, hT, rfl⟩)
    have hEn : E.Nodup := hR.nodupE
    refine (List.perm_ext_iff_of_nodup (SE.nodup (SE_edN E hks)) hEn).2 fun p => ?_
    rw [mem_edN]
    exact ⟨fun h => h.2, fun h => ⟨(hkm _).2 (hR.fstE h), h⟩⟩

end Go.Proofs.Ytlmeblhcipkgmaa
namespace Go.Proofs.Ytlmeblhcipkgmaa
open Go Go.U
set_option maxRecDepth 20000
set_option linter.unusedSimpArgs false
set_option linter.unusedVariables false

def finE (x : Ed) (s : List Ed × Bool) : List Ed := if s.2 then s.1 else s.1 ++ [x]
theorem finE_step (x : Ed) (s : List Ed × Bool) (e : Ed) : (finE x (stE x s e)).Perm (finE x s ++ [e]) := by
  unfold stE
  split
  · rename_i h
    have h2 : s.2 = false := by
      cases hs : s.2 with
      | false => rfl
      | true => rw [hs] at h; simp at h
    simp [finE, h2]
  · cases hs : s.2 with
    | true => simp [finE, hs]
    | false =>
      simp only [finE, hs, Bool.false_eq_true, if_false, List.append_assoc]
      exact (List.Perm.swap x e []).append_left s.1
theorem finE_fold (x : Ed) : ∀ (l : List Ed) (s : List Ed × Bool), (finE x (l.foldl (stE x) s)).Perm (finE x s ++ l)
  | [], s => by simp
  | e :: l, s => by
    rw [List.foldl_cons]
    have h1 := finE_fold x l (stE x s e)
    have h2 := (finE_step x s e).append_right l
    rw [List.append_assoc] at h2
    exact h1.trans h2
theorem insE_perm (x : Ed) (l : List Ed) : (insE x l).Perm (x :: l) := finE_fold x l ([], false)
theorem putE_perm (l : List Ed) (x : Ed) : (putE l x).Perm (addE l x) := by
  unfold putE addE
  split
  · exact .refl _
  · exact insE_perm x l
theorem lessE_trans {a b c : Ed} (h : lessE a b = true) (k : lessE b c = true) : lessE a c = true := by
  simp [lessE] at *; omega
theorem lessE_total {a b : Ed} (h : lessE a b = false) (hne : a ≠ b) : lessE b a = true := by
  obtain ⟨a1, a2, a3⟩ := a
  obtain ⟨b1, b2, b3⟩ := b
  have h2 : ¬ (a1 = b1 ∧ a2 = b2 ∧ a3 = b3) := fun ⟨e1, e2, e3⟩ => hne (by rw [e1, e2, e3])
  simp [lessE] at *
  omega
theorem foE_inv {x : Ed} {l : List Ed} (hs : SE l) (hx0 : x ∉ l) : ∀ k, k ≤ l.length → ((foE x (l.take k)).2 = false → (foE x (l.take k)).1 = l.take k ∧ ∀ e ∈ l.take k, lessE x e = false) ∧ ((foE x (l.take k)).2 = true → SE (foE x (l.take k)).1 ∧ (∃ e ∈ l.take k, lessE x e = true) ∧ ∀ z ∈ (foE x (l.take k)).1, z = x ∨ z ∈ l.take k) := by
  intro k
  induction k with
  | zero => intro _; simp [foE]
  | succ k ih =>
    intro hk
    obtain ⟨h1, h2⟩ := ih (by omega)
    have hx := List.getElem?_eq_getElem (show k < l.length by omega)
    have hlt : ∀ e ∈ l.take k, lessE e l[k] = true := fun e he => by
      have h3 : (l.take (k + 1)).Pairwise (fun x z => lessE x z = true) := List.Pairwise.sublist (List.take_sublist _ _) hs
      rw [take_snoc' hx, List.pairwise_append] at h3
      exact h3.2.2 e he _ (by simp)
    rw [foE_take hx, take_snoc' hx]
    generalize foE x (l.take k) = s at *
    unfold stE
    split
    · rename_i hc
      have hs2 : s.2 = false := by
        cases hs : s.2 with
        | false => rfl
        | true => rw [hs] at hc; simp at hc
      have hxe : lessE x l[k] = true := by simp [hs2] at hc; exact hc
      obtain ⟨h3, h4⟩ := h1 hs2
      refine ⟨fun h => by simp at h, fun _ => ⟨?_, ⟨l[k], List.mem_append_right _ (List.mem_singleton.2 rfl), hxe⟩, fun z hz => ?_⟩⟩
      · simp only
        rw [h3]
        unfold SE
        rw [List.append_assoc, List.pairwise_append]
        refine ⟨List.Pairwise.sublist (List.take_sublist _ _) hs, by rw [List.singleton_append, List.pairwise_cons]; exact ⟨fun z hz => by rw [List.mem_singleton.1 hz]; exact hxe, by simp⟩, fun e he z hz => ?_⟩
        simp at hz
        rcases hz with rfl | rfl
        · exact lessE_total (h4 e he) (fun e2 => by subst e2; exact hx0 (List.mem_of_mem_take he))
        · exact hlt e he
      · simp only [h3, List.mem_append, List.mem_singleton] at hz ⊢
        grind
    · rename_i hc
      refine ⟨fun h => ?_, fun h => ?_⟩
      · simp only at h ⊢
        obtain ⟨h3, h4⟩ := h1 h
        refine ⟨by rw [h3], fun e he => ?_⟩
        rcases List.mem_append.1 he with he | he
        · exact h4 e he
        · rw [List.mem_singleton.1 he]
          simp [h] at hc
          exact hc
      · simp only at h ⊢
        obtain ⟨h3, ⟨e0, h4, h5⟩, h6⟩ := h2 h
        refine ⟨?_, ⟨e0, List.mem_append_left _ h4, h5⟩, fun z hz => ?_⟩
        · unfold SE at *
          rw [List.pairwise_append]
          refine ⟨h3, by simp, fun z hz w hw => ?_⟩
          rw [List.mem_singleton.1 hw]
          rcases h6 z hz with rfl | hz2
          · exact lessE_trans h5 (hlt e0 h4)
          · exact hlt z hz2
        · rcases List.mem_append.1 hz with hz | hz
          · rcases h6 z hz with h7 | h7
            · exact .inl h7
            · exact .inr (List.mem_append_left _ h7)
          · exact .inr (List.mem_append_right _ hz)
theorem SE_putE {l : List Ed} {x : Ed} (hs : SE l) : SE (putE l x) := by
  unfold putE
  split
  · exact hs
  · rename_i hx
    obtain ⟨h1, h2⟩ := foE_inv hs hx l.length (Nat.le_refl _)
    rw [List.take_length] at h1 h2
    unfold insE
    split
    · rename_i h; exact (h2 h).1
    · rename_i h
      obtain ⟨h3, h4⟩ := h1 (by simpa using h)
      rw [h3]
      unfold SE at *
      rw [List.pairwise_append]
      refine ⟨hs, by simp, fun z hz w hw => ?_⟩
      rw [List.mem_singleton.1 hw]
      exact lessE_total (h4 z hz) (fun e => by subst e; exact hx hz)
theorem mem_putE {l : List Ed} {x e : Ed} : e ∈ putE l x ↔ e = x ∨ e ∈ l := by
  rw [(putE_perm l x).mem_iff]; unfold addE; split <;> simp <;> grind
theorem putE_len (l : List Ed) (x : Ed) : (putE l x).length ≤ l.length + 1 := by
  rw [(putE_perm l x).length_eq]; unfold addE; split <;> simp
theorem mem_addN {N : List Int} {a x : Int} : x ∈ addN N a ↔ x = a ∨ x ∈ N := by
  unfold addN; split <;> simp <;> grind
theorem addN_nodup {N : List Int} {a : Int} (h : N.Nodup) : (addN N a).Nodup := by
  unfold addN; split
  · exact h
  · rename_i h2; exact List.nodup_cons.2 ⟨h2, h⟩
theorem putI_perm {l : List Int} (h : l.Pairwise (· < ·)) (a : Int) : (putI l a).Perm (addN l a) :=
  (List.perm_ext_iff_of_nodup (nodup_lt (putI_sorted h)) (addN_nodup (nodup_lt h))).2 (fun x => by rw [mem_putI, mem_addN])
theorem addN_perm {l m : List Int} (h : l.Perm m) (a : Int) : (addN l a).Perm (addN m a) := by
  unfold addN
  by_cases h1 : a ∈ l
  · rw [if_pos h1, if_pos (h.mem_iff.1 h1)]; exact h
  · rw [if_neg h1, if_neg (fun h2 => h1 (h.mem_iff.2 h2))]; exact h.cons a
theorem addE_perm {l m : List Ed} (h : l.Perm m) (a : Ed) : (addE l a).Perm (addE m a) := by
  unfold addE
  by_cases h1 : a ∈ l
  · rw [if_pos h1, if_pos (h.mem_iff.1 h1)]; exact h
  · rw [if_neg h1, if_neg (fun h2 => h1 (h.mem_iff.2 h2))]; exact h.cons a
/-- the graph that edges and nodes make -/
def mkE (es : List Ed) : List Ed := es.foldl putE []
def mkNE (es : List Ed) : List Int := es.foldl (fun N e => putI (putI N e.1) e.2.1) []
def mkN (es : List Ed) (ns : List Int) : List Int := ns.foldl putI (mkNE es)
theorem mkE_take {l : List Ed} {k : Nat} {p : Ed} (h : l[k]? = some p) : mkE (l.take (k + 1)) = putE (mkE (l.take k)) p := by rw [take_snoc' h]; simp [mkE]
theorem mkNE_take {l : List Ed} {k : Nat} {p : Ed} (h : l[k]? = some p) : mkNE (l.take (k + 1)) = putI (putI (mkNE (l.take k)) p.1) p.2.1 := by rw [take_snoc' h]; simp [mkNE]
theorem mkN_take {es : List Ed} {l : List Int} {k : Nat} {p : Int} (h : l[k]? = some p) : mkN es (l.take (k + 1)) = putI (mkN es (l.take k)) p := by rw [take_snoc' h]; simp [mkN]
theorem mkE_spec (l : List Ed) : ∀ k, k ≤ l.length → SE (mkE (l.take k)) ∧ (mkE (l.take k)).length ≤ k ∧ ∀ e, e ∈ mkE (l.take k) ↔ e ∈ l.take k := by
  intro k
  induction k with
  | zero => intro _; simp [mkE, SE]
  | succ k ih =>
    intro hk
    obtain ⟨h1, h2, h3⟩ := ih (by omega)
    have hx := List.getElem?_eq_getElem (show k < l.length by omega)
    rw [mkE_take hx]
    refine ⟨SE_putE h1, ?_, fun p => ?_⟩
    · have := putE_len (mkE (l.take k)) l[k]; omega
    · rw [mem_putE, h3, take_snoc' hx, List.mem_append, List.mem_singleton]; exact Or.comm
theorem mkNE_spec (l : List Ed) : ∀ k, k ≤ l.length → (mkNE (l.take k)).Pairwise (· < ·) ∧ (mkNE (l.take k)).length ≤ 2 * k ∧ ∀ x, x ∈ mkNE (l.take k) ↔ ∃ e ∈ l.take k, x = e.1 ∨ x = e.2.1 := by
  intro k
  induction k with
  | zero => intro _; simp [mkNE]
  | succ k ih =>
    intro hk
    obtain ⟨h1, h2, h3⟩ := ih (by omega)
    have hx := List.getElem?_eq_getElem (show k < l.length by omega)
    rw [mkNE_take hx]
    refine ⟨putI_sorted (putI_sorted h1), ?_, fun x => ?_⟩
    · have := putI_le (putI (mkNE (l.take k)) l[k].1) l[k].2.1
      have := putI_le (mkNE (l.take k)) l[k].1
      omega
    · rw [mem_putI, mem_putI, h3, take_snoc' hx]
      simp only [List.mem_append, List.mem_singleton]
      constructor
      · rintro (h | h | ⟨e, he, h⟩)
        · exact ⟨_, .inr rfl, .inr h⟩
        · exact ⟨_, .inr rfl, .inl h⟩
        · exact ⟨e, .inl he, h⟩
      · rintro ⟨e, he | rfl, h⟩
        · exact .inr (.inr ⟨e, he, h⟩)
        · rcases h with h | h
          · exact .inr (.inl h)
          · exact .inl h
theorem mkN_spec (es : List Ed) (l : List Int) : ∀ k, k ≤ l.length → (mkN es (l.take k)).Pairwise (· < ·) ∧ (mkN es (l.take k)).length ≤ 2 * es.length + k ∧ ∀ x, x ∈ mkN es (l.take k) ↔ x ∈ l.take k ∨ ∃ e ∈ es, x = e.1 ∨ x = e.2.1 := by
  intro k
  induction k with
  | zero =>
    intro _
    obtain ⟨h1, h2, h3⟩ := mkNE_spec es es.length (Nat.le_refl _)
    rw [List.take_length] at h1 h2 h3
    simp only [mkN, List.take_zero, List.foldl_nil]
    exact ⟨h1, by omega, fun x => by rw [h3]; simp⟩
  | succ k ih =>
    intro hk
    obtain ⟨h1, h2, h3⟩ := ih (by omega)
    have hx := List.getElem?_eq_getElem (show k < l.length by omega)
    rw [mkN_take hx]
    refine ⟨putI_sorted h1, ?_, fun x => ?_⟩
    · have := putI_le (mkN es (l.take k)) l[k]; omega
    · rw [mem_putI, h3, take_snoc' hx, List.mem_append, List.mem_singleton]; grind

end Go.Proofs.Ytlmeblhcipkgmaa
namespace Go.Proofs.Ytlmeblhcipkgmaa
open Go Go.U
set_option maxRecDepth 20000
set_option linter.unusedSimpArgs false
set_option linter.unusedVariables false

open Go.RowKit
/-- what made gives -/
def PGM (N : List Int) (E : List Ed) (L : List (List Blk)) : Value → Ro → List (List Blk) → Prop := fun v ro' L' => ∃ x R A cap B cap2, v = .tuple #[.pointer (some ⟨x, 0, none⟩), gv A N.length cap B E.length cap2] ∧ RelG x N E R ∧ Sl ro' 1 encInt A cap N ∧ Sl ro' 3 encEdge B cap2 E ∧ L' = R :: L

theorem GMade_c (l : List Ed) (A : Option Addr) (cap : Nat) (o : List Int) (B : Option Addr) (capo : Nat) (ro : Ro) (L : List (List Blk)) (hl : Sl ro 3 encEdge A cap l) (ho : Sl ro 1 encInt B capo o) (hn : l.length ≤ 100) (hno : o.length ≤ 100) (h64 : ∀ e ∈ l, I64 e.1 ∧ I64 e.2.1 ∧ I64 e.2.2) (ho64 : ∀ e ∈ o, I64 e) :
    CT Try.prog 45 [.slice A l.length cap, .slice B o.length capo].toArray ro L (PGM (mkN l o) (mkE l) L) := by
  have hcap : l.length ≤ 9223372036854775807 := by omega
  have hcapo : o.length ≤ 9223372036854775807 := by omega
  refine enter Try.func45 rfl Try.ntmps45 rfl ?_
  refine seq ?_
  refine region ?_
  refine op (y (x_assign rfl) rfl ?_)
  refine op (e_alloc rfl zc_63 rfl fun b5 => ?_)
  refine nil ?_
  refine n_then ?_
  refine seq ?_
  refine region ?_
  refine op (e_call rfl fn_55 rfl rfl (GNew_c _ _) fun v10 ro10 L10 hle10 hp10 => ?_)
  obtain ⟨x, R, rfl, hR, rfl, rfl⟩ := hp10
  refine op (y (x_assign rfl) rfl ?_)
  refine nil ?_
  refine n_then ?_
  refine seq ?_
  refine region ?_
  refine op (e_alloc rfl zc_63 rfl fun b7 => ?_)
  refine nil ?_
  refine n_then ?_
  refine seq ?_
  refine seq ?_
  refine region ?_
  refine op (y (x_assign rfl) rfl ?_)
  refine nil ?_
  refine n_then ?_
  refine block ?_
  refine loop (fun m F ro' L' => ∃ (k : Nat) (R : List Blk) (A2 : Option Addr) (cap2 : Nat) (B2 : Option Addr) (cap3 : Nat), (m = l.length - k) ∧ (F = [(0, .slice A l.length cap), (1, .slice B o.length capo), (5, .pointer (some ⟨b5, 0, none⟩)), (6, .pointer (some ⟨x, 0, none⟩)), (7, .pointer (some ⟨b7, 0, none⟩)), (8, .int .i64 (k : Nat))]) ∧ (L' = [(b7, .cells [.slice A2 (mkNE (l.take k)).length cap2, .slice B2 (mkE (l.take k)).length cap3].toArray 63 (0, 0))] :: R :: [(b5, .cells [.slice none 0 0, .slice none 0 0].toArray 63 (0, 0))] :: L) ∧ (k ≤ l.length) ∧ (ro.le ro') ∧ (Sl ro' 3 encEdge A cap l) ∧ (Sl ro' 1 encInt B capo o) ∧ (RelG x (mkNE (l.take k)) (mkE (l.take k)) R) ∧ (Sl ro' 1 encInt A2 cap2 (mkNE (l.take k))) ∧ (Sl ro' 3 encEdge B2 cap3 (mkE (l.take k)))) (l.length - 0) [(0, .slice A l.length cap), (1, .slice B o.length capo), (5, .pointer (some ⟨b5, 0, none⟩)), (6, .pointer (some ⟨x, 0, none⟩)), (7, .pointer (some ⟨b7, 0, none⟩)), (8, .int .i64 (0 : Nat))] ⟨rfl, rfl, rfl, rfl, rfl, rfl, trivial⟩ ⟨0, _, none, 0, none, 0, rfl, rfl, rfl, by omega, Ro.le.refl _, hl, ho, hR, ⟨by simp [mkNE], by simp [maxLen], by simp [mkNE], fun h => absurd rfl h⟩, ⟨by simp [mkE], by simp [maxLen], by simp [mkE], fun h => absurd rfl h⟩⟩ ?_
  rintro m F ro' L' ⟨k, R, A2, cap2, B2, cap3, rfl, rfl, rfl, hk, hle, hl, ho, hR, hA2, hB2⟩
  refine seq ?_
  refine seq ?_
  refine region ?_
  refine op (y (x_move rfl) rfl ?_)
  refine op (y (x_move rfl) rfl ?_)
  refine op (y (x_lenSl sz_59 rfl) rfl ?_)
  refine op (y (x_lss rfl rfl) rfl ?_)
  refine nil ?_
  refine n_then ?_
  refine cond rfl (fun h4 => ?_) (fun h4 => ?_)
  · try simp only [decide_eq_true_eq, decide_eq_false_iff_not, beq_iff_eq, bne_iff_ne, ne_eq, beq_eq_false_iff_ne, bne_eq_false_iff_eq, Bool.not_eq_true', Bool.not_eq_false', Bool.not_eq_true, Bool.not_eq_false, Decidable.not_not, Int.not_lt, Int.not_le] at h4
    refine skip ?_
    refine n_then ?_
    refine seq ?_
    refine block ?_
    refine seq ?_
    refine seq ?_
    obtain ⟨bbx, offx, rfl, hcx⟩ := hl.at_ (i := k) (by omega)
    have hx := List.getElem?_eq_getElem (show k < l.length from by omega)
    have cx0 := hcx k _ hx 0 _ rfl
    have cx1 := hcx k _ hx 1 _ rfl
    have cx2 := hcx k _ hx 2 _ rfl
    have h64x := h64 _ (List.mem_of_getElem? hx)
    obtain ⟨hs1, hs2, hs3⟩ := mkE_spec l k hk
    obtain ⟨hq1, hq2, hq3⟩ := mkNE_spec l k hk
    have hmt := mkE_take hx
    have hmn := mkNE_take hx
    refine region ?_
    refine op (y (x_move rfl) rfl ?_)
    refine op (y (x_ptrNeNil Try.underlying60 rfl rfl) rfl ?_)
    refine nil ?_
    refine n_then ?_
    refine condT rfl ?_
    refine swap0 ?_
    refine draw ([]) (by kernel_rfl) ?_
    refine d_take 0 rfl (by kernel_rfl) (by kernel_rfl) (by kernel_rfl) (fun _ _ _ h => h) rfl (.inl rfl) (x_move rfl) (fun w hi => J.of_le (Ro.le.refl _) (by simp) hi) ?_
    refine d_take 1 rfl (by kernel_rfl) (by kernel_rfl) (by kernel_rfl) (fun _ _ _ h => h) rfl (.inl rfl) (x_move rfl) (fun w hi => J.of_le (Ro.le.refl _) (by simp) hi) ?_
    refine d_take 2 rfl (by kernel_rfl) (by kernel_rfl) (by kernel_rfl) (fun _ _ _ h => h) rfl (.inl rfl) (x_move rfl) (fun w hi => J.of_le (Ro.le.refl _) (by simp) hi) ?_
    refine d_take 3 rfl (by kernel_rfl) (by kernel_rfl) (by kernel_rfl) (fun _ _ _ h => h) rfl (.inl rfl) (x_indexNat sz_59 rfl rfl (by omega)) (fun w hi => J.of_le (Ro.le.refl _) (by simp) hi) ?_
    refine d_take 4 rfl (by kernel_rfl) (by kernel_rfl) (by kernel_rfl) (fun _ _ _ h => h) rfl (.inl rfl) (x_fieldAddr fo_75_0 rfl) (fun w hi => J.of_le (Ro.le.refl _) (by simp) hi) ?_
    refine d_take 5 rfl (by kernel_rfl) (by kernel_rfl) (by kernel_rfl) (fun _ _ _ h => h) rfl (.inl rfl) (x_load1 ag_3 rfl (by first | assumption | exact Cell.own 0 rfl rfl | exact Cell.own 1 rfl rfl | exact Cell.own 2 rfl rfl | exact Cell.own 3 rfl rfl | exact Cell.own 4 rfl rfl | exact Cell.own 5 rfl rfl | exact Cell.ofRo (by assumption))) (fun w hi => J.of_le (Ro.le.refl _) (by simp) hi) ?_
    refine d_take 6 rfl (by kernel_rfl) (by kernel_rfl) (by kernel_rfl) (fun _ _ _ h => h) rfl (.inl rfl) (x_move rfl) (fun w hi => J.of_le (Ro.le.refl _) (by simp) hi) ?_
    refine d_take 7 rfl (by kernel_rfl) (by kernel_rfl) (by kernel_rfl) (fun _ _ _ h => h) rfl (.inl rfl) (x_move rfl) (fun w hi => J.of_le (Ro.le.refl _) (by simp) hi) ?_
    refine d_take 8 rfl (by kernel_rfl) (by kernel_rfl) (by kernel_rfl) (fun _ _ _ h => h) rfl (.inl rfl) (x_indexNat sz_59 rfl rfl (by omega)) (fun w hi => J.of_le (Ro.le.refl _) (by simp) hi) ?_
    refine d_take 9 rfl (by kernel_rfl) (by kernel_rfl) (by kernel_rfl) (fun _ _ _ h => h) rfl (.inl rfl) (x_fieldAddr fo_75_1 rfl) (fun w hi => J.of_le (Ro.le.refl _) (by simp) hi) ?_
    refine d_take 10 rfl (by kernel_rfl) (by kernel_rfl) (by kernel_rfl) (fun _ _ _ h => h) rfl (.inl rfl) (x_load1 ag_3 rfl (by first | assumption | exact Cell.own 0 rfl rfl | exact Cell.own 1 rfl rfl | exact Cell.own 2 rfl rfl | exact Cell.own 3 rfl rfl | exact Cell.own 4 rfl rfl | exact Cell.own 5 rfl rfl | exact Cell.ofRo (by assumption))) (fun w hi => J.of_le (Ro.le.refl _) (by simp) hi) ?_
    refine d_take 11 rfl (by kernel_rfl) (by kernel_rfl) (by kernel_rfl) (fun _ _ _ h => h) rfl (.inl rfl) (x_move rfl) (fun w hi => J.of_le (Ro.le.refl _) (by simp) hi) ?_
    refine d_take 12 rfl (by kernel_rfl) (by kernel_rfl) (by kernel_rfl) (fun _ _ _ h => h) rfl (.inl rfl) (x_move rfl) (fun w hi => J.of_le (Ro.le.refl _) (by simp) hi) ?_
    refine d_take 13 rfl (by kernel_rfl) (by kernel_rfl) (by kernel_rfl) (fun _ _ _ h => h) rfl (.inl rfl) (x_indexNat sz_59 rfl rfl (by omega)) (fun w hi => J.of_le (Ro.le.refl _) (by simp) hi) ?_
    refine d_take 14 rfl (by kernel_rfl) (by kernel_rfl) (by kernel_rfl) (fun _ _ _ h => h) rfl (.inl rfl) (x_fieldAddr fo_75_2 rfl) (fun w hi => J.of_le (Ro.le.refl _) (by simp) hi) ?_
    refine d_take 15 rfl (by kernel_rfl) (by kernel_rfl) (by kernel_rfl) (fun _ _ _ h => h) rfl (.inl rfl) (x_load1 ag_3 rfl (by first | assumption | exact Cell.own 0 rfl rfl | exact Cell.own 1 rfl rfl | exact Cell.own 2 rfl rfl | exact Cell.own 3 rfl rfl | exact Cell.own 4 rfl rfl | exact Cell.own 5 rfl rfl | exact Cell.ofRo (by assumption))) (fun w hi => J.of_le (Ro.le.refl _) (by simp) hi) ?_
    refine d_one 16 rfl (by kernel_rfl) (.inl rfl) (e_call rfl fn_58 rfl rfl (GrEdge_c x _ _ _ _ _ hR _ _ _ h64x.1 h64x.2.1 h64x.2.2) fun v35 ro35 L35 hle35 hp35 => ?_)
    obtain ⟨rfl, R2, hR2, rfl, rfl⟩ := hp35
    have hR3 := hR2.perm (N' := mkNE (l.take (k + 1))) (E' := mkE (l.take (k + 1))) (by rw [hmn]; exact (putI_perm (putI_sorted hq1) _).trans (addN_perm (putI_perm hq1 _) _)) (by rw [hmt]; exact putE_perm _ _)
    refine d_next (fun w hi => J.of_le (Ro.le.refl _) (by simp) hi) ?_
    refine d_end (by kernel_rfl) ?_
    refine n_then ?_
    refine swap0 ?_
    refine draw ([]) (by kernel_rfl) ?_
    refine d_take 1 rfl (by kernel_rfl) (by kernel_rfl) (by kernel_rfl) (fun _ _ _ h => h) rfl (.inl rfl) (x_move rfl) (fun w hi => J.of_le (by first | exact Ro.le.refl _ | assumption) (by simp) hi) ?_
    refine d_take 2 rfl (by kernel_rfl) (by kernel_rfl) (by kernel_rfl) (fun _ _ _ h => h) rfl (.inl rfl) (x_move rfl) (fun w hi => J.of_le (by first | exact Ro.le.refl _ | assumption) (by simp) hi) ?_
    refine d_take 3 rfl (by kernel_rfl) (by kernel_rfl) (by kernel_rfl) (fun _ _ _ h => h) rfl (.inl rfl) (x_indexNat sz_59 rfl rfl (by omega)) (fun w hi => J.of_le (by first | exact Ro.le.refl _ | assumption) (by simp) hi) ?_
    refine d_take 4 rfl (by kernel_rfl) (by kernel_rfl) (by kernel_rfl) (fun _ _ _ h => h) rfl (.inl rfl) (x_fieldAddr fo_75_0 rfl) (fun w hi => J.of_le (by first | exact Ro.le.refl _ | assumption) (by simp) hi) ?_
    refine d_take 5 rfl (by kernel_rfl) (by kernel_rfl) (by kernel_rfl) (fun _ _ _ h => h) rfl (.inl rfl) (x_load1 ag_3 rfl (by first | assumption | exact Cell.own 0 rfl rfl | exact Cell.own 1 rfl rfl | exact Cell.own 2 rfl rfl | exact Cell.own 3 rfl rfl | exact Cell.own 4 rfl rfl | exact Cell.own 5 rfl rfl | exact Cell.ofRo (by assumption))) (fun w hi => J.of_le (by first | exact Ro.le.refl _ | assumption) (by simp) hi) ?_
    refine d_take 6 rfl (by kernel_rfl) (by kernel_rfl) (by kernel_rfl) (fun _ _ _ h => h) rfl (.inl rfl) (x_move rfl) (fun w hi => J.of_le (by first | exact Ro.le.refl _ | assumption) (by simp) hi) ?_
    refine d_take 7 rfl (by kernel_rfl) (by kernel_rfl) (by kernel_rfl) (fun _ _ _ h => h) rfl (.inl rfl) (x_move rfl) (fun w hi => J.of_le (by first | exact Ro.le.refl _ | assumption) (by simp) hi) ?_
    refine d_take 8 rfl (by kernel_rfl) (by kernel_rfl) (by kernel_rfl) (fun _ _ _ h => h) rfl (.inl rfl) (x_indexNat sz_59 rfl rfl (by omega)) (fun w hi => J.of_le (by first | exact Ro.le.refl _ | assumption) (by simp) hi) ?_
    refine d_take 9 rfl (by kernel_rfl) (by kernel_rfl) (by kernel_rfl) (fun _ _ _ h => h) rfl (.inl rfl) (x_fieldAddr fo_75_1 rfl) (fun w hi => J.of_le (by first | exact Ro.le.refl _ | assumption) (by simp) hi) ?_
    refine d_take 10 rfl (by kernel_rfl) (by kernel_rfl) (by kernel_rfl) (fun _ _ _ h => h) rfl (.inl rfl) (x_load1 ag_3 rfl (by first | assumption | exact Cell.own 0 rfl rfl | exact Cell.own 1 rfl rfl | exact Cell.own 2 rfl rfl | exact Cell.own 3 rfl rfl | exact Cell.own 4 rfl rfl | exact Cell.own 5 rfl rfl | exact Cell.ofRo (by assumption))) (fun w hi => J.of_le (by first | exact Ro.le.refl _ | assumption) (by simp) hi) ?_
    refine d_take 11 rfl (by kernel_rfl) (by kernel_rfl) (by kernel_rfl) (fun _ _ _ h => h) rfl (.inl rfl) (x_move rfl) (fun w hi => J.of_le (by first | exact Ro.le.refl _ | assumption) (by simp) hi) ?_
    refine d_take 12 rfl (by kernel_rfl) (by kernel_rfl) (by kernel_rfl) (fun _ _ _ h => h) rfl (.inl rfl) (x_move rfl) (fun w hi => J.of_le (by first | exact Ro.le.refl _ | assumption) (by simp) hi) ?_
    refine d_take 13 rfl (by kernel_rfl) (by kernel_rfl) (by kernel_rfl) (fun _ _ _ h => h) rfl (.inl rfl) (x_indexNat sz_59 rfl rfl (by omega)) (fun w hi => J.of_le (by first | exact Ro.le.refl _ | assumption) (by simp) hi) ?_
    refine d_take 14 rfl (by kernel_rfl) (by kernel_rfl) (by kernel_rfl) (fun _ _ _ h => h) rfl (.inl rfl) (x_fieldAddr fo_75_2 rfl) (fun w hi => J.of_le (by first | exact Ro.le.refl _ | assumption) (by simp) hi) ?_
    refine d_take 15 rfl (by kernel_rfl) (by kernel_rfl) (by kernel_rfl) (fun _ _ _ h => h) rfl (.inl rfl) (x_load1 ag_3 rfl (by first | assumption | exact Cell.own 0 rfl rfl | exact Cell.own 1 rfl rfl | exact Cell.own 2 rfl rfl | exact Cell.own 3 rfl rfl | exact Cell.own 4 rfl rfl | exact Cell.own 5 rfl rfl | exact Cell.ofRo (by assumption))) (fun w hi => J.of_le (by first | exact Ro.le.refl _ | assumption) (by simp) hi) ?_
    refine d_one 0 rfl (by kernel_rfl) (.inl rfl) (y (x_loadOwn 0 [.slice A2 (mkNE (l.take k)).length cap2, .slice B2 (mkE (l.take k)).length cap3] ag_63 rfl rfl rfl rfl) rfl ?_)
    refine d_next (fun w hi => J.of_le (by first | exact Ro.le.refl _ | assumption) (by simp) hi) ?_
    refine d_one 16 rfl (by kernel_rfl) (.inl rfl) (e_call rfl fn_59 rfl rfl (GEdge_c _ _ A2 cap2 B2 cap3 _ _ hA2 hB2 _ _ _ (by omega) (by omega)) fun v52 ro52 L52 hle52 hp52 => ?_)
    obtain ⟨A4, cap4, B4, cap5, rfl, hA4, hB4, hLL⟩ := hp52
    subst hLL
    rw [← hmn] at hA4 ⊢
    rw [← hmt] at hB4 ⊢
    refine d_next (fun w hi => J.of_le (by first | exact Ro.le.refl _ | assumption) (by simp) hi) ?_
    first | refine d_one 17 rfl (by kernel_rfl) (.inl rfl) (e_store 0 rfl rfl ts_63 rfl rfl rfl rfl rfl rfl ?_) | refine d_one 17 rfl (by kernel_rfl) (.inl rfl) (e_store 1 rfl rfl ts_63 rfl rfl rfl rfl rfl rfl ?_) | refine d_one 17 rfl (by kernel_rfl) (.inl rfl) (e_store 2 rfl rfl ts_63 rfl rfl rfl rfl rfl rfl ?_) | refine d_one 17 rfl (by kernel_rfl) (.inl rfl) (e_store 3 rfl rfl ts_63 rfl rfl rfl rfl rfl rfl ?_) | refine d_one 17 rfl (by kernel_rfl) (.inl rfl) (e_store 4 rfl rfl ts_63 rfl rfl rfl rfl rfl rfl ?_) | refine d_one 17 rfl (by kernel_rfl) (.inl rfl) (e_store 5 rfl rfl ts_63 rfl rfl rfl rfl rfl rfl ?_)
    refine d_next (fun w hi => J.of_le (by first | exact Ro.le.refl _ | assumption) (by simp) hi) ?_
    refine d_end (by kernel_rfl) ?_
    refine n_in ?_
    refine n_then ?_
    refine region ?_
    refine op (y (x_move rfl) rfl ?_)
    refine op (y (x_add rfl rfl _ (wr (by omega) (by omega))) rfl ?_)
    refine op (y (x_assign rfl) rfl ?_)
    refine nil ?_
    exact round (l.length - (k + 1)) [(0, .slice _ l.length cap), (1, .slice B o.length capo), (5, .pointer (some ⟨b5, 0, none⟩)), (6, .pointer (some ⟨x, 0, none⟩)), (7, .pointer (some ⟨b7, 0, none⟩)), (8, .int .i64 ((k + 1) : Nat))] (by omega) ⟨rfl, rfl, rfl, rfl, rfl, rfl, trivial⟩ ⟨k + 1, _, _, _, _, _, rfl, rfl, rfl, by omega, hle.trans hle52, hl.mono hle52, ho.mono hle52, hR3, hA4, hB4⟩
  · try simp only [decide_eq_true_eq, decide_eq_false_iff_not, beq_iff_eq, bne_iff_ne, ne_eq, beq_eq_false_iff_ne, bne_eq_false_iff_eq, Bool.not_eq_true', Bool.not_eq_false', Bool.not_eq_true, Bool.not_eq_false, Decidable.not_not, Int.not_lt, Int.not_le] at h4
    refine exit ?_
    refine e_then ?_
    refine e_then ?_
    refine e_in ?_
    refine n_then ?_
    refine seq ?_
    refine seq ?_
    refine region ?_
    refine op (y (x_assign rfl) rfl ?_)
    refine nil ?_
    refine n_then ?_
    refine block ?_
    obtain rfl : k = l.length := by omega
    rw [List.take_length] at *
    refine loop (fun m F ro' L' => ∃ (k : Nat) (R : List Blk) (A2 : Option Addr) (cap2 : Nat) (B2 : Option Addr) (cap3 : Nat), (m = o.length - k) ∧ (F = [(0, .slice A l.length cap), (1, .slice B o.length capo), (5, .pointer (some ⟨b5, 0, none⟩)), (6, .pointer (some ⟨x, 0, none⟩)), (7, .pointer (some ⟨b7, 0, none⟩)), (9, .int .i64 (k : Nat))]) ∧ (L' = [(b7, .cells [.slice A2 (mkN l (o.take k)).length cap2, .slice B2 (mkE l).length cap3].toArray 63 (0, 0))] :: R :: [(b5, .cells [.slice none 0 0, .slice none 0 0].toArray 63 (0, 0))] :: L) ∧ (k ≤ o.length) ∧ (ro.le ro') ∧ (Sl ro' 3 encEdge A cap l) ∧ (Sl ro' 1 encInt B capo o) ∧ (RelG x (mkN l (o.take k)) (mkE l) R) ∧ (Sl ro' 1 encInt A2 cap2 (mkN l (o.take k))) ∧ (Sl ro' 3 encEdge B2 cap3 (mkE l))) (o.length - 0) [(0, .slice _ l.length cap), (1, .slice B o.length capo), (5, .pointer (some ⟨b5, 0, none⟩)), (6, .pointer (some ⟨x, 0, none⟩)), (7, .pointer (some ⟨b7, 0, none⟩)), (9, .int .i64 (0 : Nat))] ⟨rfl, rfl, rfl, rfl, rfl, rfl, trivial⟩ ⟨0, _, A2, cap2, B2, cap3, rfl, rfl, rfl, by omega, hle, hl, ho, by exact hR, by exact hA2, hB2⟩ ?_
    rintro m F ro' L' ⟨k, R, A2, cap2, B2, cap3, rfl, rfl, rfl, hk, hle, hl, ho, hR, hA2, hB2⟩
    refine seq ?_
    refine seq ?_
    refine region ?_
    refine op (y (x_move rfl) rfl ?_)
    refine op (y (x_move rfl) rfl ?_)
    refine op (y (x_lenSl sz_23 rfl) rfl ?_)
    refine op (y (x_lss rfl rfl) rfl ?_)
    refine nil ?_
    refine n_then ?_
    refine cond rfl (fun h10 => ?_) (fun h10 => ?_)
    · try simp only [decide_eq_true_eq, decide_eq_false_iff_not, beq_iff_eq, bne_iff_ne, ne_eq, beq_eq_false_iff_ne, bne_eq_false_iff_eq, Bool.not_eq_true', Bool.not_eq_false', Bool.not_eq_true, Bool.not_eq_false, Decidable.not_not, Int.not_lt, Int.not_le] at h10
      refine skip ?_
      refine n_then ?_
      refine seq ?_
      refine block ?_
      refine seq ?_
      refine seq ?_
      obtain ⟨bbx, offx, rfl, hcx⟩ := ho.at_ (i := k) (by omega)
      have hx := List.getElem?_eq_getElem (show k < o.length from by omega)
      have cx0 := hcx k _ hx 0 _ rfl
      have h64y := ho64 _ (List.mem_of_getElem? hx)
      obtain ⟨hs1, hs2, hs3⟩ := mkE_spec l l.length (Nat.le_refl _)
      rw [List.take_length] at hs1 hs2 hs3
      obtain ⟨hq1, hq2, hq3⟩ := mkN_spec l o k hk
      have hmn := mkN_take (es := l) hx
      refine region ?_
      refine op (y (x_move rfl) rfl ?_)
      refine op (y (x_ptrNeNil Try.underlying60 rfl rfl) rfl ?_)
      refine nil ?_
      refine n_then ?_
      refine condT rfl ?_
      refine swap0 ?_
      refine region ?_
      refine op (y (x_move rfl) rfl ?_)
      refine op (y (x_move rfl) rfl ?_)
      refine op (y (x_move rfl) rfl ?_)
      refine op (y (x_indexNat sz_23 rfl rfl (by omega)) rfl ?_)
      refine op (y (x_load1 ag_3 rfl (by first | assumption | exact Cell.own 0 rfl rfl | exact Cell.own 1 rfl rfl | exact Cell.own 2 rfl rfl | exact Cell.own 3 rfl rfl | exact Cell.own 4 rfl rfl | exact Cell.own 5 rfl rfl | exact Cell.ofRo (by assumption))) rfl ?_)
      refine op (e_call rfl fn_61 rfl rfl (GrNode_c x _ _ _ _ _ hR _ h64y) fun v66 ro66 L66 hle66 hp66 => ?_)
      obtain ⟨rfl, R2, hR2, rfl, rfl⟩ := hp66
      have hR3 := hR2.perm (N' := mkN l (o.take (k + 1))) (by rw [hmn]; exact putI_perm hq1 _) (.refl _)
      refine nil ?_
      refine n_then ?_
      refine swap0 ?_
      refine draw ([]) (by kernel_rfl) ?_
      refine d_take 1 rfl (by kernel_rfl) (by kernel_rfl) (by kernel_rfl) (fun _ _ _ h => h) rfl (.inl rfl) (x_move rfl) (fun w hi => J.of_le (by first | exact Ro.le.refl _ | assumption) (by simp) hi) ?_
      refine d_take 2 rfl (by kernel_rfl) (by kernel_rfl) (by kernel_rfl) (fun _ _ _ h => h) rfl (.inl rfl) (x_move rfl) (fun w hi => J.of_le (by first | exact Ro.le.refl _ | assumption) (by simp) hi) ?_
      refine d_take 3 rfl (by kernel_rfl) (by kernel_rfl) (by kernel_rfl) (fun _ _ _ h => h) rfl (.inl rfl) (x_indexNat sz_23 rfl rfl (by omega)) (fun w hi => J.of_le (by first | exact Ro.le.refl _ | assumption) (by simp) hi) ?_
      refine d_take 4 rfl (by kernel_rfl) (by kernel_rfl) (by kernel_rfl) (fun _ _ _ h => h) rfl (.inl rfl) (x_load1 ag_3 rfl (by first | assumption | exact Cell.own 0 rfl rfl | exact Cell.own 1 rfl rfl | exact Cell.own 2 rfl rfl | exact Cell.own 3 rfl rfl | exact Cell.own 4 rfl rfl | exact Cell.own 5 rfl rfl | exact Cell.ofRo (by assumption))) (fun w hi => J.of_le (by first | exact Ro.le.refl _ | assumption) (by simp) hi) ?_
      refine d_one 0 rfl (by kernel_rfl) (.inl rfl) (y (x_loadOwn 0 [.slice A2 (mkN l (o.take k)).length cap2, .slice B2 (mkE l).length cap3] ag_63 rfl rfl rfl rfl) rfl ?_)
      refine d_next (fun w hi => J.of_le (by first | exact Ro.le.refl _ | assumption) (by simp) hi) ?_
      refine d_one 5 rfl (by kernel_rfl) (.inl rfl) (e_call rfl fn_62 rfl rfl (GNode_c _ _ A2 cap2 B2 cap3 _ _ hA2 hB2 _ (by omega)) fun v72 ro72 L72 hle72 hp72 => ?_)
      obtain ⟨A4, cap4, B4, cap5, rfl, hA4, hB4, hLL⟩ := hp72
      subst hLL
      rw [← hmn] at hA4 ⊢
      refine d_next (fun w hi => J.of_le (by first | exact Ro.le.refl _ | assumption) (by simp) hi) ?_
      first | refine d_one 6 rfl (by kernel_rfl) (.inl rfl) (e_store 0 rfl rfl ts_63 rfl rfl rfl rfl rfl rfl ?_) | refine d_one 6 rfl (by kernel_rfl) (.inl rfl) (e_store 1 rfl rfl ts_63 rfl rfl rfl rfl rfl rfl ?_) | refine d_one 6 rfl (by kernel_rfl) (.inl rfl) (e_store 2 rfl rfl ts_63 rfl rfl rfl rfl rfl rfl ?_) | refine d_one 6 rfl (by kernel_rfl) (.inl rfl) (e_store 3 rfl rfl ts_63 rfl rfl rfl rfl rfl rfl ?_) | refine d_one 6 rfl (by kernel_rfl) (.inl rfl) (e_store 4 rfl rfl ts_63 rfl rfl rfl rfl rfl rfl ?_) | refine d_one 6 rfl (by kernel_rfl) (.inl rfl) (e_store 5 rfl rfl ts_63 rfl rfl rfl rfl rfl rfl ?_)
      refine d_next (fun w hi => J.of_le (by first | exact Ro.le.refl _ | assumption) (by simp) hi) ?_
      refine d_end (by kernel_rfl) ?_
      refine n_in ?_
      refine n_then ?_
      refine region ?_
      refine op (y (x_move rfl) rfl ?_)
      refine op (y (x_add rfl rfl _ (wr (by omega) (by omega))) rfl ?_)
      refine op (y (x_assign rfl) rfl ?_)
      refine nil ?_
      exact round (o.length - (k + 1)) [(0, .slice A l.length cap), (1, .slice _ o.length capo), (5, .pointer (some ⟨b5, 0, none⟩)), (6, .pointer (some ⟨x, 0, none⟩)), (7, .pointer (some ⟨b7, 0, none⟩)), (9, .int .i64 ((k + 1) : Nat))] (by omega) ⟨rfl, rfl, rfl, rfl, rfl, rfl, trivial⟩ ⟨k + 1, _, _, _, _, _, rfl, rfl, rfl, by omega, hle.trans hle72, hl.mono hle72, ho.mono hle72, hR3, hA4, hB4⟩
    · try simp only [decide_eq_true_eq, decide_eq_false_iff_not, beq_iff_eq, bne_iff_ne, ne_eq, beq_eq_false_iff_ne, bne_eq_false_iff_eq, Bool.not_eq_true', Bool.not_eq_false', Bool.not_eq_true, Bool.not_eq_false, Decidable.not_not, Int.not_lt, Int.not_le] at h10
      refine exit ?_
      refine e_then ?_
      refine e_then ?_
      refine e_in ?_
      refine n_then ?_
      refine seq ?_
      obtain rfl : k = o.length := by omega
      rw [List.take_length] at *
      refine draw ([]) (by kernel_rfl) ?_
      refine d_take 0 rfl (by kernel_rfl) (by kernel_rfl) (by kernel_rfl) (fun _ _ _ h => h) rfl (.inl rfl) (x_move rfl) (fun w hi => J.of_le (by first | exact Ro.le.refl _ | assumption) (by simp) hi) ?_
      refine d_take 2 rfl (by kernel_rfl) (by kernel_rfl) (by kernel_rfl) (fun _ _ _ h => h) rfl (.inl rfl) (x_assign rfl) (fun w hi => J.of_le (by first | exact Ro.le.refl _ | assumption) (by simp) hi) ?_
      refine d_one 1 rfl (by kernel_rfl) (.inl rfl) (y (x_loadOwn 0 [.slice A2 (mkN l o).length cap2, .slice B2 (mkE l).length cap3] ag_63 rfl rfl rfl rfl) rfl ?_)
      refine d_next (fun w hi => J.of_le (by first | exact Ro.le.refl _ | assumption) (by simp) hi) ?_
      first | refine d_one 3 rfl (by kernel_rfl) (.inl rfl) (e_store 0 rfl rfl ts_63 rfl rfl rfl rfl rfl rfl ?_) | refine d_one 3 rfl (by kernel_rfl) (.inl rfl) (e_store 1 rfl rfl ts_63 rfl rfl rfl rfl rfl rfl ?_) | refine d_one 3 rfl (by kernel_rfl) (.inl rfl) (e_store 2 rfl rfl ts_63 rfl rfl rfl rfl rfl rfl ?_) | refine d_one 3 rfl (by kernel_rfl) (.inl rfl) (e_store 3 rfl rfl ts_63 rfl rfl rfl rfl rfl rfl ?_) | refine d_one 3 rfl (by kernel_rfl) (.inl rfl) (e_store 4 rfl rfl ts_63 rfl rfl rfl rfl rfl rfl ?_) | refine d_one 3 rfl (by kernel_rfl) (.inl rfl) (e_store 5 rfl rfl ts_63 rfl rfl rfl rfl rfl rfl ?_)
      refine d_next (fun w hi => J.of_le (by first | exact Ro.le.refl _ | assumption) (by simp) hi) ?_
      refine d_end (by kernel_rfl) ?_
      refine n_then ?_
      refine ret ?_
      refine drop0 ?_
      exact done rfl (.tmp rfl (.cellN ag_63 rfl rfl (CellsAt.own 1 0 2 _ rfl rfl) (.nil))) (hle) (R :: L) (⟨_, .refl _, List.Sublist.append (.refl _) (List.sublist_append_right _ _)⟩) (⟨x, R, A2, cap2, B2, cap3, rfl, hR, hA2, hB2, rfl⟩)

theorem SE_ext {l m : List Ed} (hl : SE l) (hm : SE m) (h : ∀ x, x ∈ l ↔ x ∈ m) : l = m := by
  refine List.Perm.eq_of_pairwise (le := fun a b : Ed => lessE a b = true) (fun a b _ _ h1 h2 => ?_) hl hm ((List.perm_ext_iff_of_nodup hl.nodup hm.nodup).2 h)
  have := lessE_trans h1 h2
  simp [lessE] at this
theorem srt_id {l : List Int} (h : l.Pairwise (· < ·)) : srt l = l := srt_eq (nodup_lt h) h (fun _ => Iff.rfl)

theorem GIs_c (x : Nat) (N : List Int) (E : List Ed) (R : List Blk) (A : Option Addr) (cap : Nat) (B : Option Addr) (cap2 : Nat) (ro : Ro) (L : List (List Blk)) (hR : RelG x N E R) (hL : R ∈ L) (hNs : N.Pairwise (· < ·)) (hEs : SE E) (hA : Sl ro 1 encInt A cap N) (hB : Sl ro 3 encEdge B cap2 E) (hnN : N.length ≤ 100000) (hnE : E.length ≤ 100000) :
    CT Try.prog 65 [.pointer (some ⟨x, 0, none⟩), gv A N.length cap B E.length cap2].toArray ro L (PV (.bool true) L) := by
  have hcape : E.length ≤ 9223372036854775807 := by omega
  have hcapn : N.length ≤ 9223372036854775807 := by omega
  refine enter Try.func65 rfl Try.ntmps65 rfl ?_
  refine seq ?_
  refine region ?_
  refine op (e_box rfl rfl rfl fun b3 => ?_)
  refine op (y (x_assign rfl) rfl ?_)
  refine nil ?_
  refine n_then ?_
  refine seq ?_
  refine seq ?_
  refine region ?_
  refine op (y (x_move rfl) rfl ?_)
  refine op (y (x_ptrEqNil Try.underlying60 rfl rfl) rfl ?_)
  refine nil ?_
  refine n_then ?_
  refine condF rfl ?_
  refine skip ?_
  refine n_then ?_
  refine seq ?_
  refine drawL (by kernel_rfl) ?_
  refine d_take 0 rfl (by kernel_rfl) (by kernel_rfl) (by kernel_rfl) (fun _ _ _ h => h) rfl (.inl rfl) (x_move rfl) (fun w hi => J.of_le (by first | exact Ro.le.refl _ | assumption) (fun x hx => hx) hi) ?_
  refine d_take 2 rfl (by kernel_rfl) (by kernel_rfl) (by kernel_rfl) (fun _ _ _ h => h) rfl (.inl rfl) (x_fieldAddr fo_63_0 rfl) (fun w hi => J.of_le (by first | exact Ro.le.refl _ | assumption) (fun x hx => hx) hi) ?_
  refine d_take 3 rfl (by kernel_rfl) (by kernel_rfl) (by kernel_rfl) (fun _ _ _ h => h) rfl (.inl rfl) (x_load1 ag_23 rfl (Cell.own 0 rfl rfl)) (fun w hi => J.of_le (by first | exact Ro.le.refl _ | assumption) (fun x hx => hx) hi) ?_
  refine d_one 1 rfl (by kernel_rfl) (.inl rfl) (e_call rfl fn_50 rfl rfl (GrNodes_c x N E R _ _ hR (List.mem_cons_of_mem _ hL) hnN hnE) fun v11 ro11 L11 hle11 hp11 => ?_)
  obtain ⟨A11, cap11, R11, rfl, hO11, rfl, rfl⟩ := hp11
  refine ufreeze fun ro2 hle2 hR2 => ?_
  rw [srt_id hNs] at hO11 ⊢
  have hK := OwnS.sl hO11 (fun _ _ => rfl) hR2
  have hA1 := hA.mono hle2
  have hB1 := hB.mono hle2
  refine d_next (fun w hi => J.of_le (by first | exact Ro.le.refl _ | assumption) (fun x hx => hx) hi) ?_
  refine d_one 4 rfl (by kernel_rfl) (.inl rfl) (e_call rfl fn_39 rfl rfl (SameInts_c _ A11 cap11 _ A cap _ _ hK hA1) fun v14 ro14 L14 hle14 hp14 => ?_)
  obtain ⟨rfl, rfl, rfl⟩ := hp14
  rw [decide_eq_true rfl]
  refine d_next (fun w hi => J.of_le (by first | exact Ro.le.refl _ | assumption) (fun x hx => hx) hi) ?_
  refine d_take 5 rfl (by kernel_rfl) (by kernel_rfl) (by kernel_rfl) (fun _ _ _ h => h) rfl (.inl rfl) (x_assign rfl) (fun w hi => J.of_le (by first | exact Ro.le.refl _ | assumption) (fun x hx => hx) hi) ?_
  refine d_end (by kernel_rfl) ?_
  refine n_then ?_
  refine seq ?_
  refine region ?_
  refine op (y (x_move rfl) rfl ?_)
  refine op (e_call rfl fn_76 rfl rfl (GrEdges_c x N E R _ _ hR (List.mem_cons_of_mem _ hL) hnN hnE) fun v16 ro16 L16 hle16 hp16 => ?_)
  obtain ⟨pl, hps, hpp, A6, cap6, R16, rfl, hO16, hLL⟩ := hp16
  subst hLL
  obtain rfl : E = pl := (SE_ext hps hEs (fun q => hpp.mem_iff)).symm
  refine ufreeze fun ro3 hle3 hR3 => ?_
  have hE1 := OwnS.sl hO16 (fun _ _ => rfl) hR3
  have hB2 := (hB1.mono hle16).mono hle3
  refine op (y (x_assign rfl) rfl ?_)
  refine nil ?_
  refine n_then ?_
  refine seq ?_
  refine seq ?_
  refine region ?_
  refine op (y (x_move rfl) rfl ?_)
  refine op (y ((x_not rfl).as (v' := .bool false) rfl) rfl ?_)
  refine op (y (x_move rfl) rfl ?_)
  refine opG rfl rfl (y (x_move rfl) rfl ?_)
  refine opG rfl rfl (y (x_lenSl sz_93 rfl) rfl ?_)
  refine opG rfl rfl (y (x_fieldAddr fo_63_1 rfl) rfl ?_)
  refine opG rfl rfl (y (x_load1 ag_61 rfl (Cell.own 0 rfl rfl)) rfl ?_)
  refine opG rfl rfl (y (x_lenSl sz_61 rfl) rfl ?_)
  refine opG rfl rfl (y ((x_neq rfl rfl).as (v' := .bool false) (by simp)) rfl ?_)
  refine op (y (x_pickF rfl rfl) rfl ?_)
  refine nil ?_
  refine n_then ?_
  refine condF rfl ?_
  refine skip ?_
  refine n_then ?_
  refine seq ?_
  refine seq ?_
  refine region ?_
  refine op (y (x_assign rfl) rfl ?_)
  refine nil ?_
  refine n_then ?_
  refine block ?_
  refine loop (fun m F ro' L' => ∃ (k : Nat), (m = E.length - k) ∧ (F = [(3, .pointer (some ⟨b3, 0, none⟩)), (6, .slice A6 E.length cap6), (7, .int .i64 (k : Nat))]) ∧ (ro3 = ro') ∧ (L' = [(b3, .cells [.slice A N.length cap, .slice B E.length cap2].toArray 63 (0, 0))] :: L) ∧ (k ≤ E.length)) (E.length - 0) [(3, .pointer (some ⟨b3, 0, none⟩)), (6, .slice A6 E.length cap6), (7, .int .i64 (0 : Nat))] ⟨rfl, rfl, rfl, trivial⟩ ⟨0, rfl, rfl, rfl, rfl, by omega⟩ ?_
  rintro m F ro' L' ⟨k, rfl, rfl, rfl, rfl, hk⟩
  refine seq ?_
  refine seq ?_
  refine region ?_
  refine op (y (x_move rfl) rfl ?_)
  refine op (y (x_move rfl) rfl ?_)
  refine op (y (x_lenSl sz_93 rfl) rfl ?_)
  refine op (y (x_lss rfl rfl) rfl ?_)
  refine nil ?_
  refine n_then ?_
  refine cond rfl (fun h8 => ?_) (fun h8 => ?_)
  · try simp only [decide_eq_true_eq, decide_eq_false_iff_not, beq_iff_eq, bne_iff_ne, ne_eq, beq_eq_false_iff_ne, bne_eq_false_iff_eq, Bool.not_eq_true', Bool.not_eq_false', Bool.not_eq_true, Bool.not_eq_false, Decidable.not_not, Int.not_lt, Int.not_le] at h8
    refine skip ?_
    refine n_then ?_
    refine seq ?_
    refine block ?_
    refine seq ?_
    obtain ⟨bbx, offx, rfl, hcx⟩ := hE1.at_ (i := k) (by omega)
    have hx := List.getElem?_eq_getElem (show k < E.length from by omega)
    have cx0 := hcx k _ hx 0 _ rfl
    have cx1 := hcx k _ hx 1 _ rfl
    have cx2 := hcx k _ hx 2 _ rfl
    obtain ⟨bbz, offz, rfl, hcz⟩ := hB2.at_ (i := k) (by omega)
    have hz := List.getElem?_eq_getElem (show k < E.length from by omega)
    have cz0 := hcz k _ hz 0 _ rfl
    have cz1 := hcz k _ hz 1 _ rfl
    have cz2 := hcz k _ hz 2 _ rfl
    refine drawL (by kernel_rfl) ?_
    refine d_take 0 rfl (by kernel_rfl) (by kernel_rfl) (by kernel_rfl) (fun _ _ _ h => h) rfl (.inl rfl) (x_move rfl) (fun w hi => by first | exact hi.j | exact J.of_le (Ro.le.refl _) (fun x hx => List.mem_append_right _ hx) hi | exact J.of_le (Ro.le.refl _) (fun x hx => List.mem_append_right _ (List.mem_append_right _ hx)) hi | exact J.of_le (Ro.le.refl _) (fun x hx => absurd hx (by simp)) hi | exact J.of_le (by assumption) (fun x hx => absurd hx (by simp)) hi) ?_
    refine d_take 1 rfl (by kernel_rfl) (by kernel_rfl) (by kernel_rfl) (fun _ _ _ h => h) rfl (.inl rfl) (x_move rfl) (fun w hi => by first | exact hi.j | exact J.of_le (Ro.le.refl _) (fun x hx => List.mem_append_right _ hx) hi | exact J.of_le (Ro.le.refl _) (fun x hx => List.mem_append_right _ (List.mem_append_right _ hx)) hi | exact J.of_le (Ro.le.refl _) (fun x hx => absurd hx (by simp)) hi | exact J.of_le (by assumption) (fun x hx => absurd hx (by simp)) hi) ?_
    refine d_take 2 rfl (by kernel_rfl) (by kernel_rfl) (by kernel_rfl) (fun _ _ _ h => h) rfl (.inl rfl) (x_indexNat sz_93 rfl rfl (by omega)) (fun w hi => by first | exact hi.j | exact J.of_le (Ro.le.refl _) (fun x hx => List.mem_append_right _ hx) hi | exact J.of_le (Ro.le.refl _) (fun x hx => List.mem_append_right _ (List.mem_append_right _ hx)) hi | exact J.of_le (Ro.le.refl _) (fun x hx => absurd hx (by simp)) hi | exact J.of_le (by assumption) (fun x hx => absurd hx (by simp)) hi) ?_
    refine d_take 3 rfl (by kernel_rfl) (by kernel_rfl) (by kernel_rfl) (fun _ _ _ h => h) rfl (.inl rfl) (x_fieldAddr fo_96_0 rfl) (fun w hi => by first | exact hi.j | exact J.of_le (Ro.le.refl _) (fun x hx => List.mem_append_right _ hx) hi | exact J.of_le (Ro.le.refl _) (fun x hx => List.mem_append_right _ (List.mem_append_right _ hx)) hi | exact J.of_le (Ro.le.refl _) (fun x hx => absurd hx (by simp)) hi | exact J.of_le (by assumption) (fun x hx => absurd hx (by simp)) hi) ?_
    refine d_take 4 rfl (by kernel_rfl) (by kernel_rfl) (by kernel_rfl) (fun _ _ _ h => h) rfl (.inl rfl) (x_load1 ag_3 rfl (by first | assumption | exact Cell.own 0 rfl rfl | exact Cell.own 1 rfl rfl | exact Cell.own 2 rfl rfl | exact Cell.own 3 rfl rfl | exact Cell.own 4 rfl rfl | exact Cell.own 5 rfl rfl | exact Cell.ofRo (by assumption))) (fun w hi => by first | exact hi.j | exact J.of_le (Ro.le.refl _) (fun x hx => List.mem_append_right _ hx) hi | exact J.of_le (Ro.le.refl _) (fun x hx => List.mem_append_right _ (List.mem_append_right _ hx)) hi | exact J.of_le (Ro.le.refl _) (fun x hx => absurd hx (by simp)) hi | exact J.of_le (by assumption) (fun x hx => absurd hx (by simp)) hi) ?_
    refine d_take 5 rfl (by kernel_rfl) (by kernel_rfl) (by kernel_rfl) (fun _ _ _ h => h) rfl (.inl rfl) (x_fieldAddr fo_63_1 rfl) (fun w hi => by first | exact hi.j | exact J.of_le (Ro.le.refl _) (fun x hx => List.mem_append_right _ hx) hi | exact J.of_le (Ro.le.refl _) (fun x hx => List.mem_append_right _ (List.mem_append_right _ hx)) hi | exact J.of_le (Ro.le.refl _) (fun x hx => absurd hx (by simp)) hi | exact J.of_le (by assumption) (fun x hx => absurd hx (by simp)) hi) ?_
    refine d_take 6 rfl (by kernel_rfl) (by kernel_rfl) (by kernel_rfl) (fun _ _ _ h => h) rfl (.inl rfl) (x_load1 ag_61 rfl (Cell.own 0 rfl rfl)) (fun w hi => by first | exact hi.j | exact J.of_le (Ro.le.refl _) (fun x hx => List.mem_append_right _ hx) hi | exact J.of_le (Ro.le.refl _) (fun x hx => List.mem_append_right _ (List.mem_append_right _ hx)) hi | exact J.of_le (Ro.le.refl _) (fun x hx => absurd hx (by simp)) hi | exact J.of_le (by assumption) (fun x hx => absurd hx (by simp)) hi) ?_
    refine d_take 7 rfl (by kernel_rfl) (by kernel_rfl) (by kernel_rfl) (fun _ _ _ h => h) rfl (.inl rfl) (x_move rfl) (fun w hi => by first | exact hi.j | exact J.of_le (Ro.le.refl _) (fun x hx => List.mem_append_right _ hx) hi | exact J.of_le (Ro.le.refl _) (fun x hx => List.mem_append_right _ (List.mem_append_right _ hx)) hi | exact J.of_le (Ro.le.refl _) (fun x hx => absurd hx (by simp)) hi | exact J.of_le (by assumption) (fun x hx => absurd hx (by simp)) hi) ?_
    refine d_take 8 rfl (by kernel_rfl) (by kernel_rfl) (by kernel_rfl) (fun _ _ _ h => h) rfl (.inl rfl) (x_indexNat sz_61 rfl rfl (by omega)) (fun w hi => by first | exact hi.j | exact J.of_le (Ro.le.refl _) (fun x hx => List.mem_append_right _ hx) hi | exact J.of_le (Ro.le.refl _) (fun x hx => List.mem_append_right _ (List.mem_append_right _ hx)) hi | exact J.of_le (Ro.le.refl _) (fun x hx => absurd hx (by simp)) hi | exact J.of_le (by assumption) (fun x hx => absurd hx (by simp)) hi) ?_
    refine d_take 9 rfl (by kernel_rfl) (by kernel_rfl) (by kernel_rfl) (fun _ _ _ h => h) rfl (.inl rfl) (x_fieldAddr fo_87_0 rfl) (fun w hi => by first | exact hi.j | exact J.of_le (Ro.le.refl _) (fun x hx => List.mem_append_right _ hx) hi | exact J.of_le (Ro.le.refl _) (fun x hx => List.mem_append_right _ (List.mem_append_right _ hx)) hi | exact J.of_le (Ro.le.refl _) (fun x hx => absurd hx (by simp)) hi | exact J.of_le (by assumption) (fun x hx => absurd hx (by simp)) hi) ?_
    refine d_take 10 rfl (by kernel_rfl) (by kernel_rfl) (by kernel_rfl) (fun _ _ _ h => h) rfl (.inl rfl) (x_load1 ag_3 rfl (by first | assumption | exact Cell.own 0 rfl rfl | exact Cell.own 1 rfl rfl | exact Cell.own 2 rfl rfl | exact Cell.own 3 rfl rfl | exact Cell.own 4 rfl rfl | exact Cell.own 5 rfl rfl | exact Cell.ofRo (by assumption))) (fun w hi => by first | exact hi.j | exact J.of_le (Ro.le.refl _) (fun x hx => List.mem_append_right _ hx) hi | exact J.of_le (Ro.le.refl _) (fun x hx => List.mem_append_right _ (List.mem_append_right _ hx)) hi | exact J.of_le (Ro.le.refl _) (fun x hx => absurd hx (by simp)) hi | exact J.of_le (by assumption) (fun x hx => absurd hx (by simp)) hi) ?_
    refine d_take 11 rfl (by kernel_rfl) (by kernel_rfl) (by kernel_rfl) (fun _ _ _ h => h) rfl (.inl rfl) ((x_neq rfl rfl).as (v' := .bool false) (by simp)) (fun w hi => by first | exact hi.j | exact J.of_le (Ro.le.refl _) (fun x hx => List.mem_append_right _ hx) hi | exact J.of_le (Ro.le.refl _) (fun x hx => List.mem_append_right _ (List.mem_append_right _ hx)) hi | exact J.of_le (Ro.le.refl _) (fun x hx => absurd hx (by simp)) hi | exact J.of_le (by assumption) (fun x hx => absurd hx (by simp)) hi) ?_
    refine d_take 12 rfl (by kernel_rfl) (by kernel_rfl) (by kernel_rfl) (fun _ _ _ h => h) rfl (.inl rfl) (x_move rfl) (fun w hi => by first | exact hi.j | exact J.of_le (Ro.le.refl _) (fun x hx => List.mem_append_right _ hx) hi | exact J.of_le (Ro.le.refl _) (fun x hx => List.mem_append_right _ (List.mem_append_right _ hx)) hi | exact J.of_le (Ro.le.refl _) (fun x hx => absurd hx (by simp)) hi | exact J.of_le (by assumption) (fun x hx => absurd hx (by simp)) hi) ?_
    refine d_take 13 rfl (by kernel_rfl) (by kernel_rfl) (by kernel_rfl) (fun _ _ _ h => h) rfl (.inr ⟨_, _, _, rfl, rfl, rfl⟩) (x_move rfl) (fun w hi => by first | exact hi.j | exact J.of_le (Ro.le.refl _) (fun x hx => List.mem_append_right _ hx) hi | exact J.of_le (Ro.le.refl _) (fun x hx => List.mem_append_right _ (List.mem_append_right _ hx)) hi | exact J.of_le (Ro.le.refl _) (fun x hx => absurd hx (by simp)) hi | exact J.of_le (by assumption) (fun x hx => absurd hx (by simp)) hi) ?_
    refine d_take 14 rfl (by kernel_rfl) (by kernel_rfl) (by kernel_rfl) (fun _ _ _ h => h) rfl (.inr ⟨_, _, _, rfl, rfl, rfl⟩) (x_move rfl) (fun w hi => by first | exact hi.j | exact J.of_le (Ro.le.refl _) (fun x hx => List.mem_append_right _ hx) hi | exact J.of_le (Ro.le.refl _) (fun x hx => List.mem_append_right _ (List.mem_append_right _ hx)) hi | exact J.of_le (Ro.le.refl _) (fun x hx => absurd hx (by simp)) hi | exact J.of_le (by assumption) (fun x hx => absurd hx (by simp)) hi) ?_
    refine d_take 15 rfl (by kernel_rfl) (by kernel_rfl) (by kernel_rfl) (fun _ _ _ h => h) rfl (.inr ⟨_, _, _, rfl, rfl, rfl⟩) (x_indexNat sz_93 rfl rfl (by omega)) (fun w hi => by first | exact hi.j | exact J.of_le (Ro.le.refl _) (fun x hx => List.mem_append_right _ hx) hi | exact J.of_le (Ro.le.refl _) (fun x hx => List.mem_append_right _ (List.mem_append_right _ hx)) hi | exact J.of_le (Ro.le.refl _) (fun x hx => absurd hx (by simp)) hi | exact J.of_le (by assumption) (fun x hx => absurd hx (by simp)) hi) ?_
    refine d_take 16 rfl (by kernel_rfl) (by kernel_rfl) (by kernel_rfl) (fun _ _ _ h => h) rfl (.inr ⟨_, _, _, rfl, rfl, rfl⟩) (x_fieldAddr fo_96_1 rfl) (fun w hi => by first | exact hi.j | exact J.of_le (Ro.le.refl _) (fun x hx => List.mem_append_right _ hx) hi | exact J.of_le (Ro.le.refl _) (fun x hx => List.mem_append_right _ (List.mem_append_right _ hx)) hi | exact J.of_le (Ro.le.refl _) (fun x hx => absurd hx (by simp)) hi | exact J.of_le (by assumption) (fun x hx => absurd hx (by simp)) hi) ?_
    refine d_take 17 rfl (by kernel_rfl) (by kernel_rfl) (by kernel_rfl) (fun _ _ _ h => h) rfl (.inr ⟨_, _, _, rfl, rfl, rfl⟩) (x_load1 ag_3 rfl (by first | assumption | exact Cell.own 0 rfl rfl | exact Cell.own 1 rfl rfl | exact Cell.own 2 rfl rfl | exact Cell.own 3 rfl rfl | exact Cell.own 4 rfl rfl | exact Cell.own 5 rfl rfl | exact Cell.ofRo (by assumption))) (fun w hi => by first | exact hi.j | exact J.of_le (Ro.le.refl _) (fun x hx => List.mem_append_right _ hx) hi | exact J.of_le (Ro.le.refl _) (fun x hx => List.mem_append_right _ (List.mem_append_right _ hx)) hi | exact J.of_le (Ro.le.refl _) (fun x hx => absurd hx (by simp)) hi | exact J.of_le (by assumption) (fun x hx => absurd hx (by simp)) hi) ?_
    refine d_take 18 rfl (by kernel_rfl) (by kernel_rfl) (by kernel_rfl) (fun _ _ _ h => h) rfl (.inr ⟨_, _, _, rfl, rfl, rfl⟩) (x_fieldAddr fo_63_1 rfl) (fun w hi => by first | exact hi.j | exact J.of_le (Ro.le.refl _) (fun x hx => List.mem_append_right _ hx) hi | exact J.of_le (Ro.le.refl _) (fun x hx => List.mem_append_right _ (List.mem_append_right _ hx)) hi | exact J.of_le (Ro.le.refl _) (fun x hx => absurd hx (by simp)) hi | exact J.of_le (by assumption) (fun x hx => absurd hx (by simp)) hi) ?_
    refine d_take 19 rfl (by kernel_rfl) (by kernel_rfl) (by kernel_rfl) (fun _ _ _ h => h) rfl (.inr ⟨_, _, _, rfl, rfl, rfl⟩) (x_load1 ag_61 rfl (Cell.own 0 rfl rfl)) (fun w hi => by first | exact hi.j | exact J.of_le (Ro.le.refl _) (fun x hx => List.mem_append_right _ hx) hi | exact J.of_le (Ro.le.refl _) (fun x hx => List.mem_append_right _ (List.mem_append_right _ hx)) hi | exact J.of_le (Ro.le.refl _) (fun x hx => absurd hx (by simp)) hi | exact J.of_le (by assumption) (fun x hx => absurd hx (by simp)) hi) ?_
    refine d_take 20 rfl (by kernel_rfl) (by kernel_rfl) (by kernel_rfl) (fun _ _ _ h => h) rfl (.inr ⟨_, _, _, rfl, rfl, rfl⟩) (x_move rfl) (fun w hi => by first | exact hi.j | exact J.of_le (Ro.le.refl _) (fun x hx => List.mem_append_right _ hx) hi | exact J.of_le (Ro.le.refl _) (fun x hx => List.mem_append_right _ (List.mem_append_right _ hx)) hi | exact J.of_le (Ro.le.refl _) (fun x hx => absurd hx (by simp)) hi | exact J.of_le (by assumption) (fun x hx => absurd hx (by simp)) hi) ?_
    refine d_take 21 rfl (by kernel_rfl) (by kernel_rfl) (by kernel_rfl) (fun _ _ _ h => h) rfl (.inr ⟨_, _, _, rfl, rfl, rfl⟩) (x_indexNat sz_61 rfl rfl (by omega)) (fun w hi => by first | exact hi.j | exact J.of_le (Ro.le.refl _) (fun x hx => List.mem_append_right _ hx) hi | exact J.of_le (Ro.le.refl _) (fun x hx => List.mem_append_right _ (List.mem_append_right _ hx)) hi | exact J.of_le (Ro.le.refl _) (fun x hx => absurd hx (by simp)) hi | exact J.of_le (by assumption) (fun x hx => absurd hx (by simp)) hi) ?_
    refine d_take 22 rfl (by kernel_rfl) (by kernel_rfl) (by kernel_rfl) (fun _ _ _ h => h) rfl (.inr ⟨_, _, _, rfl, rfl, rfl⟩) (x_fieldAddr fo_87_1 rfl) (fun w hi => by first | exact hi.j | exact J.of_le (Ro.le.refl _) (fun x hx => List.mem_append_right _ hx) hi | exact J.of_le (Ro.le.refl _) (fun x hx => List.mem_append_right _ (List.mem_append_right _ hx)) hi | exact J.of_le (Ro.le.refl _) (fun x hx => absurd hx (by simp)) hi | exact J.of_le (by assumption) (fun x hx => absurd hx (by simp)) hi) ?_
    refine d_take 23 rfl (by kernel_rfl) (by kernel_rfl) (by kernel_rfl) (fun _ _ _ h => h) rfl (.inr ⟨_, _, _, rfl, rfl, rfl⟩) (x_load1 ag_3 rfl (by first | assumption | exact Cell.own 0 rfl rfl | exact Cell.own 1 rfl rfl | exact Cell.own 2 rfl rfl | exact Cell.own 3 rfl rfl | exact Cell.own 4 rfl rfl | exact Cell.own 5 rfl rfl | exact Cell.ofRo (by assumption))) (fun w hi => by first | exact hi.j | exact J.of_le (Ro.le.refl _) (fun x hx => List.mem_append_right _ hx) hi | exact J.of_le (Ro.le.refl _) (fun x hx => List.mem_append_right _ (List.mem_append_right _ hx)) hi | exact J.of_le (Ro.le.refl _) (fun x hx => absurd hx (by simp)) hi | exact J.of_le (by assumption) (fun x hx => absurd hx (by simp)) hi) ?_
    refine d_take 24 rfl (by kernel_rfl) (by kernel_rfl) (by kernel_rfl) (fun _ _ _ h => h) rfl (.inr ⟨_, _, _, rfl, rfl, rfl⟩) ((x_neq rfl rfl).as (v' := .bool false) (by simp)) (fun w hi => by first | exact hi.j | exact J.of_le (Ro.le.refl _) (fun x hx => List.mem_append_right _ hx) hi | exact J.of_le (Ro.le.refl _) (fun x hx => List.mem_append_right _ (List.mem_append_right _ hx)) hi | exact J.of_le (Ro.le.refl _) (fun x hx => absurd hx (by simp)) hi | exact J.of_le (by assumption) (fun x hx => absurd hx (by simp)) hi) ?_
    refine d_take 25 rfl (by kernel_rfl) (by kernel_rfl) (by kernel_rfl) (fun _ _ _ h => h) rfl (.inl rfl) (x_pickF rfl rfl) (fun w hi => by first | exact hi.j | exact J.of_le (Ro.le.refl _) (fun x hx => List.mem_append_right _ hx) hi | exact J.of_le (Ro.le.refl _) (fun x hx => List.mem_append_right _ (List.mem_append_right _ hx)) hi | exact J.of_le (Ro.le.refl _) (fun x hx => absurd hx (by simp)) hi | exact J.of_le (by assumption) (fun x hx => absurd hx (by simp)) hi) ?_
    refine d_take 26 rfl (by kernel_rfl) (by kernel_rfl) (by kernel_rfl) (fun _ _ _ h => h) rfl (.inl rfl) (x_move rfl) (fun w hi => by first | exact hi.j | exact J.of_le (Ro.le.refl _) (fun x hx => List.mem_append_right _ hx) hi | exact J.of_le (Ro.le.refl _) (fun x hx => List.mem_append_right _ (List.mem_append_right _ hx)) hi | exact J.of_le (Ro.le.refl _) (fun x hx => absurd hx (by simp)) hi | exact J.of_le (by assumption) (fun x hx => absurd hx (by simp)) hi) ?_
    refine d_take 27 rfl (by kernel_rfl) (by kernel_rfl) (by kernel_rfl) (fun _ _ _ h => h) rfl (.inr ⟨_, _, _, rfl, rfl, rfl⟩) (x_move rfl) (fun w hi => by first | exact hi.j | exact J.of_le (Ro.le.refl _) (fun x hx => List.mem_append_right _ hx) hi | exact J.of_le (Ro.le.refl _) (fun x hx => List.mem_append_right _ (List.mem_append_right _ hx)) hi | exact J.of_le (Ro.le.refl _) (fun x hx => absurd hx (by simp)) hi | exact J.of_le (by assumption) (fun x hx => absurd hx (by simp)) hi) ?_
    refine d_take 28 rfl (by kernel_rfl) (by kernel_rfl) (by kernel_rfl) (fun _ _ _ h => h) rfl (.inr ⟨_, _, _, rfl, rfl, rfl⟩) (x_move rfl) (fun w hi => by first | exact hi.j | exact J.of_le (Ro.le.refl _) (fun x hx => List.mem_append_right _ hx) hi | exact J.of_le (Ro.le.refl _) (fun x hx => List.mem_append_right _ (List.mem_append_right _ hx)) hi | exact J.of_le (Ro.le.refl _) (fun x hx => absurd hx (by simp)) hi | exact J.of_le (by assumption) (fun x hx => absurd hx (by simp)) hi) ?_
    refine d_take 29 rfl (by kernel_rfl) (by kernel_rfl) (by kernel_rfl) (fun _ _ _ h => h) rfl (.inr ⟨_, _, _, rfl, rfl, rfl⟩) (x_indexNat sz_93 rfl rfl (by omega)) (fun w hi => by first | exact hi.j | exact J.of_le (Ro.le.refl _) (fun x hx => List.mem_append_right _ hx) hi | exact J.of_le (Ro.le.refl _) (fun x hx => List.mem_append_right _ (List.mem_append_right _ hx)) hi | exact J.of_le (Ro.le.refl _) (fun x hx => absurd hx (by simp)) hi | exact J.of_le (by assumption) (fun x hx => absurd hx (by simp)) hi) ?_
    refine d_take 30 rfl (by kernel_rfl) (by kernel_rfl) (by kernel_rfl) (fun _ _ _ h => h) rfl (.inr ⟨_, _, _, rfl, rfl, rfl⟩) (x_fieldAddr fo_96_2 rfl) (fun w hi => by first | exact hi.j | exact J.of_le (Ro.le.refl _) (fun x hx => List.mem_append_right _ hx) hi | exact J.of_le (Ro.le.refl _) (fun x hx => List.mem_append_right _ (List.mem_append_right _ hx)) hi | exact J.of_le (Ro.le.refl _) (fun x hx => absurd hx (by simp)) hi | exact J.of_le (by assumption) (fun x hx => absurd hx (by simp)) hi) ?_
    refine d_take 31 rfl (by kernel_rfl) (by kernel_rfl) (by kernel_rfl) (fun _ _ _ h => h) rfl (.inr ⟨_, _, _, rfl, rfl, rfl⟩) (x_load1 ag_3 rfl (by first | assumption | exact Cell.own 0 rfl rfl | exact Cell.own 1 rfl rfl | exact Cell.own 2 rfl rfl | exact Cell.own 3 rfl rfl | exact Cell.own 4 rfl rfl | exact Cell.own 5 rfl rfl | exact Cell.ofRo (by assumption))) (fun w hi => by first | exact hi.j | exact J.of_le (Ro.le.refl _) (fun x hx => List.mem_append_right _ hx) hi | exact J.of_le (Ro.le.refl _) (fun x hx => List.mem_append_right _ (List.mem_append_right _ hx)) hi | exact J.of_le (Ro.le.refl _) (fun x hx => absurd hx (by simp)) hi | exact J.of_le (by assumption) (fun x hx => absurd hx (by simp)) hi) ?_
    refine d_take 32 rfl (by kernel_rfl) (by kernel_rfl) (by kernel_rfl) (fun _ _ _ h => h) rfl (.inr ⟨_, _, _, rfl, rfl, rfl⟩) (x_fieldAddr fo_63_1 rfl) (fun w hi => by first | exact hi.j | exact J.of_le (Ro.le.refl _) (fun x hx => List.mem_append_right _ hx) hi | exact J.of_le (Ro.le.refl _) (fun x hx => List.mem_append_right _ (List.mem_append_right _ hx)) hi | exact J.of_le (Ro.le.refl _) (fun x hx => absurd hx (by simp)) hi | exact J.of_le (by assumption) (fun x hx => absurd hx (by simp)) hi) ?_
    refine d_take 33 rfl (by kernel_rfl) (by kernel_rfl) (by kernel_rfl) (fun _ _ _ h => h) rfl (.inr ⟨_, _, _, rfl, rfl, rfl⟩) (x_load1 ag_61 rfl (Cell.own 0 rfl rfl)) (fun w hi => by first | exact hi.j | exact J.of_le (Ro.le.refl _) (fun x hx => List.mem_append_right _ hx) hi | exact J.of_le (Ro.le.refl _) (fun x hx => List.mem_append_right _ (List.mem_append_right _ hx)) hi | exact J.of_le (Ro.le.refl _) (fun x hx => absurd hx (by simp)) hi | exact J.of_le (by assumption) (fun x hx => absurd hx (by simp)) hi) ?_
    refine d_take 34 rfl (by kernel_rfl) (by kernel_rfl) (by kernel_rfl) (fun _ _ _ h => h) rfl (.inr ⟨_, _, _, rfl, rfl, rfl⟩) (x_move rfl) (fun w hi => by first | exact hi.j | exact J.of_le (Ro.le.refl _) (fun x hx => List.mem_append_right _ hx) hi | exact J.of_le (Ro.le.refl _) (fun x hx => List.mem_append_right _ (List.mem_append_right _ hx)) hi | exact J.of_le (Ro.le.refl _) (fun x hx => absurd hx (by simp)) hi | exact J.of_le (by assumption) (fun x hx => absurd hx (by simp)) hi) ?_
    refine d_take 35 rfl (by kernel_rfl) (by kernel_rfl) (by kernel_rfl) (fun _ _ _ h => h) rfl (.inr ⟨_, _, _, rfl, rfl, rfl⟩) (x_indexNat sz_61 rfl rfl (by omega)) (fun w hi => by first | exact hi.j | exact J.of_le (Ro.le.refl _) (fun x hx => List.mem_append_right _ hx) hi | exact J.of_le (Ro.le.refl _) (fun x hx => List.mem_append_right _ (List.mem_append_right _ hx)) hi | exact J.of_le (Ro.le.refl _) (fun x hx => absurd hx (by simp)) hi | exact J.of_le (by assumption) (fun x hx => absurd hx (by simp)) hi) ?_
    refine d_take 36 rfl (by kernel_rfl) (by kernel_rfl) (by kernel_rfl) (fun _ _ _ h => h) rfl (.inr ⟨_, _, _, rfl, rfl, rfl⟩) (x_fieldAddr fo_87_2 rfl) (fun w hi => by first | exact hi.j | exact J.of_le (Ro.le.refl _) (fun x hx => List.mem_append_right _ hx) hi | exact J.of_le (Ro.le.refl _) (fun x hx => List.mem_append_right _ (List.mem_append_right _ hx)) hi | exact J.of_le (Ro.le.refl _) (fun x hx => absurd hx (by simp)) hi | exact J.of_le (by assumption) (fun x hx => absurd hx (by simp)) hi) ?_
    refine d_take 37 rfl (by kernel_rfl) (by kernel_rfl) (by kernel_rfl) (fun _ _ _ h => h) rfl (.inr ⟨_, _, _, rfl, rfl, rfl⟩) (x_load1 ag_3 rfl (by first | assumption | exact Cell.own 0 rfl rfl | exact Cell.own 1 rfl rfl | exact Cell.own 2 rfl rfl | exact Cell.own 3 rfl rfl | exact Cell.own 4 rfl rfl | exact Cell.own 5 rfl rfl | exact Cell.ofRo (by assumption))) (fun w hi => by first | exact hi.j | exact J.of_le (Ro.le.refl _) (fun x hx => List.mem_append_right _ hx) hi | exact J.of_le (Ro.le.refl _) (fun x hx => List.mem_append_right _ (List.mem_append_right _ hx)) hi | exact J.of_le (Ro.le.refl _) (fun x hx => absurd hx (by simp)) hi | exact J.of_le (by assumption) (fun x hx => absurd hx (by simp)) hi) ?_
    refine d_take 38 rfl (by kernel_rfl) (by kernel_rfl) (by kernel_rfl) (fun _ _ _ h => h) rfl (.inr ⟨_, _, _, rfl, rfl, rfl⟩) ((x_neq rfl rfl).as (v' := .bool false) (by simp)) (fun w hi => by first | exact hi.j | exact J.of_le (Ro.le.refl _) (fun x hx => List.mem_append_right _ hx) hi | exact J.of_le (Ro.le.refl _) (fun x hx => List.mem_append_right _ (List.mem_append_right _ hx)) hi | exact J.of_le (Ro.le.refl _) (fun x hx => absurd hx (by simp)) hi | exact J.of_le (by assumption) (fun x hx => absurd hx (by simp)) hi) ?_
    refine d_take 39 rfl (by kernel_rfl) (by kernel_rfl) (by kernel_rfl) (fun _ _ _ h => h) rfl (.inl rfl) (x_pickF rfl rfl) (fun w hi => by first | exact hi.j | exact J.of_le (Ro.le.refl _) (fun x hx => List.mem_append_right _ hx) hi | exact J.of_le (Ro.le.refl _) (fun x hx => List.mem_append_right _ (List.mem_append_right _ hx)) hi | exact J.of_le (Ro.le.refl _) (fun x hx => absurd hx (by simp)) hi | exact J.of_le (by assumption) (fun x hx => absurd hx (by simp)) hi) ?_
    refine d_end (by kernel_rfl) ?_
    refine n_then ?_
    refine condF rfl ?_
    refine skip ?_
    refine n_in ?_
    refine n_then ?_
    refine region ?_
    refine op (y (x_move rfl) rfl ?_)
    refine op (y (x_add rfl rfl _ (wr (by omega) (by omega))) rfl ?_)
    refine op (y (x_assign rfl) rfl ?_)
    refine nil ?_
    exact round (E.length - (k + 1)) [(3, .pointer (some ⟨b3, 0, none⟩)), (6, .slice _ E.length cap6), (7, .int .i64 ((k + 1) : Nat))] (by omega) ⟨rfl, rfl, rfl, trivial⟩ ⟨k + 1, rfl, rfl, rfl, rfl, by omega⟩
  · try simp only [decide_eq_true_eq, decide_eq_false_iff_not, beq_iff_eq, bne_iff_ne, ne_eq, beq_eq_false_iff_ne, bne_eq_false_iff_eq, Bool.not_eq_true', Bool.not_eq_false', Bool.not_eq_true, Bool.not_eq_false, Decidable.not_not, Int.not_lt, Int.not_le] at h8
    refine exit ?_
    refine e_then ?_
    refine e_then ?_
    refine e_in ?_
    refine n_then ?_
    refine seq ?_
    refine region ?_
    refine op (y (x_assign rfl) rfl ?_)
    refine nil ?_
    refine n_then ?_
    refine ret ?_
    refine drop0 ?_
    exact done rfl (.tmp rfl (.nil)) ((hle2.trans hle16).trans hle3) (L) (⟨_, .refl _, .refl _⟩) (⟨rfl, rfl⟩)

end Go.Proofs.Ytlmeblhcipkgmaa
