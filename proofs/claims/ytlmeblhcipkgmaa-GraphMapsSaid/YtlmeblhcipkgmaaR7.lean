/- The walks of relations of numbers, the second part. -/
import Derived.Test.YtlmeblhcipkgmaaR6
namespace Go.Proofs.Ytlmeblhcipkgmaa
open Go Go.U
set_option maxRecDepth 20000
set_option linter.unusedSimpArgs false
set_option linter.unusedVariables false

open Go.RowKit
theorem SortedB_c (ks : List Int) (mb : Option Nat) (b : Nat) (ro : Ro) (L : List (List Blk)) (hm : (mb = none ∧ ks = []) ∨ ∃ r es clk, mb = some r ∧ (r, Obj.map es clk) ∈ L.flatten ∧ MapE encZ (im ks) es clk) (hok : ∀ k ∈ ks, I64 k) (hs : ks.length ≤ 1000000)
    (hb : (b, Obj.cells #[.map mb] 110 (0, 0)) ∈ L.flatten) : CT Try.prog 83 [.func (.func 112) #[] #[.pointer (some ⟨b, 0, none⟩)]].toArray ro L (PN 3 1 encInt (srt ks) ro L) := by
  rcases hm with ⟨rfl, rfl⟩ | ⟨r, es, clk, rfl, hr, hE⟩
  · exact SortedNil_c b ro L hb
  · have := SortedI_c (im ks) es clk b r ro L hE (fun p hp => by obtain ⟨k, hk, rfl⟩ := List.mem_map.1 hp; exact hok k hk) (by simpa [im] using hs) hb hr
    rwa [im_keys] at this
theorem behind_keys {x mo : Nat} {G : List (Int × Nat × List Int)} {es : Array MapEntry} {clk : Nat} {I : List Blk} {Kb : List Blk} (h : RelA encZ I64 100 x G mo es clk I) (hin : ∀ q ∈ I, q ∈ Kb) (a : Int) :
    ∃ ks : List Int, ((lkp G a = none ∧ ks = []) ∨ ∃ r es clk, lkp G a = some r ∧ (r, Obj.map es clk) ∈ Kb ∧ MapE encZ (im ks) es clk) ∧ (∀ b, (a, b) ∈ prs G ↔ b ∈ ks) ∧ ks.Nodup ∧ ∀ k ∈ ks, I64 k := by
  rcases h.cases a with ⟨h1, h2⟩ | ⟨p, ks, es', clk', h1, h2, h3, h4, h5⟩
  · exact ⟨[], .inl ⟨h1, rfl⟩, fun b => by simp [h2 b], by simp, by simp⟩
  · exact ⟨ks, .inr ⟨p, es', clk', h1, hin _ h3, h4⟩, h5, h.inner.nodup _ h2, (h.okk _ h2).2⟩
theorem srt_eq {ks l : List Int} (hn : ks.Nodup) (hl : l.Pairwise (· < ·)) (h : ∀ x, x ∈ ks ↔ x ∈ l) : srt ks = l := sorted_ext (srt_sorted hn) hl (fun x => by rw [mem_srt]; exact h x)
theorem len_prs {S : List (Int × Int)} {a : Int} {ks : List Int} (hn : ks.Nodup) (h : ∀ b ∈ ks, (a, b) ∈ S) : ks.length ≤ S.length := by
  have h1 : (ks.map (fun k => (a, k))).Nodup := by
    rw [List.Nodup, List.pairwise_map]; exact hn.imp (fun h e => h (by simpa using e))
  have := nodup_le h1 (fun p hp => by obtain ⟨k, hk, rfl⟩ := List.mem_map.1 hp; exact h k hk)
  simpa using this

theorem RBehind_c (x : Nat) (S : List (Int × Int)) (R : List Blk) (ro : Ro) (L : List (List Blk)) (hR : RelI x S R) (hL : R ∈ L) (hn : S.length ≤ 1000000) (a : Int) :
    CT Try.prog 42 [.pointer (some ⟨x, 0, none⟩), .int .i64 a].toArray ro L (PN 3 1 encInt (BehindR S a) ro L) := by
  refine enter Try.func42 rfl Try.ntmps42 rfl ?_
  have hRP := hR
  obtain ⟨G, mo, es, clk, I, hRB, hA, hS, hGl⟩ := hR
  have hroot := relB_root hRB hL
  have hmap := relB_map hRB hL
  have hin := relB_in hRB hL
  have hnd := hA.nodup
  obtain ⟨ks, hks, hmem, hkn, hok⟩ := behind_keys hA hin a
  have hmem2 : ∀ b, b ∈ ks ↔ (a, b) ∈ S := fun b => (hmem b).symm.trans hS.mem_iff.symm
  have hkl : ks.length ≤ S.length := len_prs hkn (fun b hb => (hmem2 b).1 hb)
  have hse : srt ks = BehindR S a := srt_eq hkn (BehindR_spec S a).1 (fun y => (hmem2 y).trans ((BehindR_spec S a).2 y).symm)
  refine seq ?_
  refine region ?_
  refine op (y (x_assign rfl) rfl ?_)
  refine nil ?_
  refine n_then ?_
  refine seq ?_
  refine region ?_
  refine op (y (x_move rfl) rfl ?_)
  refine op (y (x_nilPtr rfl) rfl ?_)
  refine op (y (x_fieldAddr fo_100_0 rfl) rfl ?_)
  refine op (y (x_load1 ag_98 rfl (Cell.blk hroot rfl)) rfl ?_)
  refine op (y (x_move rfl) rfl ?_)
  refine op (y (x_lookupV Try.underlying98 kI zc_110 rfl rfl hmap hA.outer (mget_om hnd a)) rfl ?_)
  refine op (e_call rfl fn_87 rfl rfl (KeysI_c _ _ _) fun v11 ro11 L11 hle11 hp11 => ?_)
  obtain ⟨bx, rfl, rfl, rfl⟩ := hp11
  refine op (e_call rfl fn_83 rfl rfl (SortedB_c ks _ bx _ _ (hks.imp id (fun ⟨r, e1, e2, e3, e4, e5⟩ => ⟨r, e1, e2, e3, List.mem_cons_of_mem _ e4, e5⟩)) hok (by omega) (List.mem_cons_self)) fun v12 ro12 L12 hle12 hp12 => ?_)
  obtain ⟨A, cap, R2, rfl, hO, rfl, rfl⟩ := hp12
  rw [hse] at hO ⊢
  refine op (y (x_assign rfl) rfl ?_)
  refine nil ?_
  refine n_then ?_
  refine ret ?_
  refine drop1 ?_
  exact done rfl (.tmp rfl (.nil)) (Ro.le.refl _) (_) (⟨_, .refl _, .refl _⟩) (⟨_, _, _, rfl, hO, rfl, rfl⟩)

def ahl (Gs : List (Int × Nat × List Int)) (b : Int) : List Int := (Gs.filter (fun g => decide (b ∈ g.2.2))).map (·.1)
theorem ahl_snoc (Gs : List (Int × Nat × List Int)) (b kk : Int) (p : Nat) (ks : List Int) : ahl (Gs ++ [(kk, p, ks)]) b = if b ∈ ks then ahl Gs b ++ [kk] else ahl Gs b := by
  unfold ahl
  split <;> rename_i h <;> simp [h]
theorem ahl_len (Gs : List (Int × Nat × List Int)) (b : Int) : (ahl Gs b).length ≤ (prs Gs).length := by
  induction Gs with
  | nil => simp [ahl, prs]
  | cons g Gs ih =>
    have e : prs (g :: Gs) = g.2.2.map (fun k => (g.1, k)) ++ prs Gs := rfl
    rw [e]
    unfold ahl at *
    rw [List.filter_cons]
    split
    · rename_i h
      have : 0 < g.2.2.length := List.length_pos_of_mem (by simpa using h)
      simp at ih ⊢; omega
    · simp at ih ⊢; omega

theorem RAhead_c (x : Nat) (S : List (Int × Int)) (R : List Blk) (ro : Ro) (L : List (List Blk)) (hR : RelI x S R) (hL : R ∈ L) (hn : S.length ≤ 1000000) (b : Int) :
    CT Try.prog 40 [.pointer (some ⟨x, 0, none⟩), .int .i64 b].toArray ro L (PN 3 1 encInt (AheadR S b) ro L) := by
  refine enter Try.func40 rfl Try.ntmps40 rfl ?_
  have hRP := hR
  obtain ⟨G, mo, es, clk, I, hRB, hA, hS, hGl⟩ := hR
  have hroot := relB_root hRB hL
  have hmap := relB_map hRB hL
  have hin := relB_in hRB hL
  have hnd := hA.nodup
  refine seq ?_
  refine region ?_
  refine op (y (x_assign rfl) rfl ?_)
  refine nil ?_
  refine n_then ?_
  refine seq ?_
  refine region ?_
  refine op (y (x_assign rfl) rfl ?_)
  refine nil ?_
  refine n_then ?_
  refine seq ?_
  refine seq ?_
  refine region ?_
  refine op (y (x_move rfl) rfl ?_)
  refine op (y (x_nilPtr rfl) rfl ?_)
  refine op (y (x_fieldAddr fo_100_0 rfl) rfl ?_)
  refine op (y (x_load1 ag_98 rfl (Cell.blk hroot rfl)) rfl ?_)
  refine op (e_range rfl Try.underlying98 rfl hmap fun b12 => ?_)
  refine emp ?_
  refine nil ?_
  refine n_then ?_
  refine block ?_
  refine loop (fun m F ro' L' => ∃ (Gs : List (Int × Nat × List Int)) (Gr : List (Int × Nat × List Int)) (rem : List (Int × Value)) (seen : Array Nat) (A2 : Option Addr) (cap2 : Nat) (R2 : List Blk), (m = rem.length) ∧ (F = [(12, .pointer (some ⟨b12, 0, none⟩)), (1, .int .i64 b), (5, .slice A2 (ahl Gs b).length cap2)]) ∧ (ro = ro') ∧ (L' = R2 :: [(b12, .mapIter (some mo) clk seen clk)] :: L) ∧ (rem.Perm (om Gr)) ∧ ((Gs ++ Gr).Perm G) ∧ (IterM encZ es clk seen rem) ∧ (OwnS 3 1 A2 (ahl Gs b).length cap2 ((ahl Gs b).flatMap encInt) R2)) ((om G).length) [(12, .pointer (some ⟨b12, 0, none⟩)), (1, .int .i64 b), (5, .slice none (ahl ([]) b).length 0)] ⟨rfl, rfl, rfl, trivial⟩ ⟨[], G, om G, #[], none, 0, [], rfl, rfl, rfl, rfl, .refl _, by simp, hA.outer.iter, OwnS.none_ 3 1⟩ ?_
  rintro m F ro' L' ⟨Gs, Gr, rem, seen, A2, cap2, R2, rfl, rfl, rfl, rfl, hrem, hG, hIt, hO⟩
  refine seq ?_
  refine region ?_
  refine op (e_next 1 rfl rfl rfl (List.mem_append_right _ (List.mem_cons_of_mem _ hmap)) (hA.outer) (hIt) (fun _ => rfl) (fun hend => ?_) (fun kk vv rem2 seen2 hrem2 hI2 hl2 => ?_))
  · skip
    refine op (y (x_extract rfl rfl) rfl ?_)
    refine nil ?_
    refine n_then ?_
    refine seq ?_
    refine condF rfl ?_
    refine exit ?_
    refine e_then ?_
    refine e_then ?_
    refine e_in ?_
    refine n_then ?_
    refine seq ?_
    subst hend
    have hGr0 : Gr = [] := List.eq_nil_of_length_eq_zero (by have := hrem.length_eq; simpa [om] using this.symm)
    subst hGr0
    have hGp : Gs.Perm G := by simpa using hG
    have hal : (ahl Gs b).length ≤ 1000000 := by
      have h1 := ahl_len Gs b
      have h2 := (prs_perm hGp).length_eq
      have h3 := hS.length_eq
      omega
    have hse : srt (ahl Gs b) = AheadR S b := by
      refine srt_eq ?_ (AheadR_spec S b).1 (fun y => ?_)
      · have h1 : (Gs.map (·.1)).Nodup := (hGp.map _).nodup_iff.2 hnd
        exact List.Nodup.sublist (List.Sublist.map _ List.filter_sublist) h1
      · rw [(AheadR_spec S b).2 y, hS.mem_iff, mem_prs]
        unfold ahl
        simp only [List.mem_map, List.mem_filter, decide_eq_true_eq]
        constructor
        · rintro ⟨⟨a, p, ks⟩, ⟨h1, h2⟩, rfl⟩
          exact ⟨p, ks, hGp.mem_iff.1 h1, h2⟩
        · rintro ⟨p, ks, h1, h2⟩
          exact ⟨_, ⟨hGp.mem_iff.2 h1, h2⟩, rfl⟩
    have hsl : (ahl Gs b).length = (AheadR S b).length := by rw [← hse, srt_length]
    refine region ?_
    refine op (y (x_move rfl) rfl ?_)
    refine op (e_call rfl fn_85 rfl rfl (SortI_c hO hal) fun v26 ro26 L26 hle26 hp26 => ?_)
    obtain ⟨rfl, rfl, R3, hO3, rfl⟩ := hp26
    rw [hse, hsl] at hO3
    rw [hsl]
    refine nil ?_
    refine n_then ?_
    refine seq ?_
    refine region ?_
    refine op (y (x_move rfl) rfl ?_)
    refine op (y (x_assign rfl) rfl ?_)
    refine nil ?_
    refine n_then ?_
    refine ret ?_
    refine drop1 ?_
    exact done rfl (.tmp rfl (.nil)) (Ro.le.refl _) (_) (⟨_, .refl _, .refl _⟩) (⟨_, _, _, rfl, hO3, rfl, rfl⟩)
  · skip
    obtain ⟨p, ks, Gr2, hGr2, rfl, hrem3⟩ := next_om hrem hrem2
    have hG2 : (Gs ++ (kk, p, ks) :: Gr2).Perm G := (hGr2.symm.append_left Gs).trans hG
    have hG3 : ((Gs ++ [(kk, p, ks)]) ++ Gr2).Perm G := by simpa using hG2
    have hmg : (kk, p, ks) ∈ G := hG2.mem_iff.1 (by simp)
    have hrl : rem.length = rem2.length + 1 := by simpa using hrem2.length_eq
    obtain ⟨es5, clk5, hm5, hE5⟩ := hA.inner.mem hmg
    have hm6 := hin _ hm5
    have hal : (ahl Gs b).length ≤ 1000000 := by
      have h1 := ahl_len Gs b
      have h2 := (prs_perm hG3).length_eq
      have h3 := hS.length_eq
      rw [prs_app, prs_app] at h2
      simp only [List.length_append] at h2
      omega
    have hsn := ahl_snoc Gs b kk p ks
    refine op (y (x_extract rfl rfl) rfl ?_)
    refine nil ?_
    refine n_then ?_
    refine seq ?_
    refine condT rfl ?_
    refine skip ?_
    refine n_then ?_
    refine block ?_
    refine seq ?_
    refine region ?_
    refine op (y (x_entry rfl (List.mem_append_right _ (List.mem_cons_self)) (List.mem_append_right _ (List.mem_cons_of_mem _ hmap)) hl2) rfl ?_)
    refine op (y (x_extract rfl rfl) rfl ?_)
    refine op (y (x_extract rfl rfl) rfl ?_)
    refine op (y (x_assign rfl) rfl ?_)
    refine op (y (x_assign rfl) rfl ?_)
    refine nil ?_
    refine n_then ?_
    refine seq ?_
    refine region ?_
    refine op (y (x_move rfl) rfl ?_)
    refine op (y (x_move rfl) rfl ?_)
    refine op (y (x_lookupV Try.underlying110 kI zc_4 rfl rfl (List.mem_append_right _ (List.mem_cons_of_mem _ hm6)) hE5 (mget_im (hA.inner.nodup _ hmg))) rfl ?_)
    refine nil ?_
    refine n_then ?_
    refine cond rfl (fun h5 => ?_) (fun h5 => ?_)
    · try simp only [decide_eq_true_eq, decide_eq_false_iff_not, beq_iff_eq, bne_iff_ne, ne_eq, beq_eq_false_iff_ne, bne_eq_false_iff_eq, Bool.not_eq_true', Bool.not_eq_false', Bool.not_eq_true, Bool.not_eq_false, Decidable.not_not, Int.not_lt, Int.not_le] at h5
      rw [if_pos h5] at hsn
      have hln : (ahl (Gs ++ [(kk, p, ks)]) b).length = (ahl Gs b).length + 1 := by rw [hsn]; simp
      refine region ?_
      refine op (y (x_move rfl) rfl ?_)
      refine op (y (x_move rfl) rfl ?_)
      refine op (e_slice1 rfl Try.underlying23 ti_3 rfl rfl (by decide) (by decide) rfl rfl rfl fun b23 => ?_)
      refine op (e_append1 0 rfl st_23 rfl rfl rfl hO rfl rfl (by omega) (by omega) (fun _ => rfl) fun A24 cap24 R24 hO24 => ?_)
      refine op (y (x_assign rfl) rfl ?_)
      refine nil ?_
      refine n_in ?_
      rw [← hln]
      exact round (rem2.length) [(12, .pointer (some ⟨b12, 0, none⟩)), (1, .int .i64 b), (5, .slice _ (ahl (Gs ++ [(kk, p, ks)]) b).length _)] (by omega) ⟨rfl, rfl, rfl, trivial⟩ ⟨Gs ++ [(kk, p, ks)], Gr2, rem2, seen2, _, _, _, rfl, rfl, rfl, rfl, hrem3, hG3, hI2, by rw [hln]; rw [hsn]; exact hO24.snoc⟩
    · try simp only [decide_eq_true_eq, decide_eq_false_iff_not, beq_iff_eq, bne_iff_ne, ne_eq, beq_eq_false_iff_ne, bne_eq_false_iff_eq, Bool.not_eq_true', Bool.not_eq_false', Bool.not_eq_true, Bool.not_eq_false, Decidable.not_not, Int.not_lt, Int.not_le] at h5
      rw [if_neg h5] at hsn
      refine skip ?_
      refine n_in ?_
      rw [← hsn]
      exact round (rem2.length) [(12, .pointer (some ⟨b12, 0, none⟩)), (1, .int .i64 b), (5, .slice _ (ahl (Gs ++ [(kk, p, ks)]) b).length _)] (by omega) ⟨rfl, rfl, rfl, trivial⟩ ⟨Gs ++ [(kk, p, ks)], Gr2, rem2, seen2, _, _, _, rfl, rfl, rfl, rfl, hrem3, hG3, hI2, by rw [hsn]; exact hO⟩

theorem RFits_c (x : Nat) (S : List (Int × Int)) (R : List Blk) (ro : Ro) (L : List (List Blk)) (hR : RelI x S R) (hL : R ∈ L) (o : List Int) (B : Option Addr) (cap2 : Nat) (ho : Sl ro 1 encInt B cap2 o) :
    CT Try.prog 19 [.pointer (some ⟨x, 0, none⟩), .slice B o.length cap2].toArray ro L (PB (∀ i : Nat, ∀ p, o[i]? = some p → ∀ k : Nat, i ≤ k → ∀ q, o[k]? = some q → (q, p) ∉ S) L) := by
  have hcap2 : o.length ≤ 9223372036854775807 := by have := ho.1; have := ho.2.1; unfold maxLen at this; omega
  have hcap3 : cap2 ≤ 9223372036854775807 := by have := ho.2.1; unfold maxLen at this; omega
  refine enter Try.func19 rfl Try.ntmps19 rfl ?_
  refine seq ?_
  refine region ?_
  refine op (y (x_assign rfl) rfl ?_)
  refine nil ?_
  refine n_then ?_
  refine seq ?_
  refine seq ?_
  refine region ?_
  refine op (y (x_move rfl) rfl ?_)
  refine op (y (x_lenSl sz_23 rfl) rfl ?_)
  refine op (y (x_move rfl) rfl ?_)
  refine nil ?_
  refine n_then ?_
  refine block ?_
  refine loop (fun m F ro' L' => ∃ (i : Nat), (m = o.length - i) ∧ (F = [(0, .pointer (some ⟨x, 0, none⟩)), (1, .slice B o.length cap2), (9, .slice B o.length cap2), (10, .int .i64 (o.length : Nat)), (11, .int .i64 (i : Nat))]) ∧ (ro = ro') ∧ (L = L') ∧ (i ≤ o.length) ∧ (∀ j : Nat, j < i → ∀ p, o[j]? = some p → ∀ k : Nat, j ≤ k → ∀ q, o[k]? = some q → (q, p) ∉ S)) (o.length - 0) [(0, .pointer (some ⟨x, 0, none⟩)), (1, .slice B o.length cap2), (9, .slice B o.length cap2), (10, .int .i64 (o.length : Nat)), (11, .int .i64 (0 : Nat))] ⟨rfl, rfl, rfl, rfl, rfl, trivial⟩ ⟨0, rfl, rfl, rfl, rfl, by omega, by intro j hj; omega⟩ ?_
  rintro m F ro' L' ⟨i, rfl, rfl, rfl, rfl, hi, hall⟩
  refine seq ?_
  refine region ?_
  refine op (y (x_lss rfl rfl) rfl ?_)
  refine nil ?_
  refine n_then ?_
  refine seq ?_
  refine cond rfl (fun h2 => ?_) (fun h2 => ?_)
  · try simp only [decide_eq_true_eq, decide_eq_false_iff_not, beq_iff_eq, bne_iff_ne, ne_eq, beq_eq_false_iff_ne, bne_eq_false_iff_eq, Bool.not_eq_true', Bool.not_eq_false', Bool.not_eq_true, Bool.not_eq_false, Decidable.not_not, Int.not_lt, Int.not_le] at h2
    refine skip ?_
    refine n_then ?_
    refine seq ?_
    refine block ?_
    refine seq ?_
    have hio : i < o.length := by omega
    have hcapo := ho.1
    obtain ⟨bbx, offx, rfl, hcx⟩ := ho.at_ (i := i) (by omega)
    have hx := List.getElem?_eq_getElem (show i < o.length from by omega)
    have cx0 := hcx i _ hx 0 _ rfl
    refine region ?_
    refine op (y (x_move rfl) rfl ?_)
    refine op (y (x_indexNat sz_23 rfl rfl (by omega)) rfl ?_)
    refine op (y (x_load1 ag_3 rfl (by first | assumption | exact Cell.own 0 rfl rfl | exact Cell.own 1 rfl rfl | exact Cell.own 2 rfl rfl | exact Cell.own 3 rfl rfl | exact Cell.own 4 rfl rfl | exact Cell.own 5 rfl rfl | exact Cell.ofRo (by assumption))) rfl ?_)
    refine op (y (x_assign rfl) rfl ?_)
    refine op (y (x_assign rfl) rfl ?_)
    refine nil ?_
    refine n_then ?_
    refine seq ?_
    refine region ?_
    refine op (y (x_move rfl) rfl ?_)
    refine op (y (x_move rfl) rfl ?_)
    refine op (y (x_sliceLoN sz_23 rfl rfl (by omega) (by omega)) rfl ?_)
    
    refine op (y (x_lenSl sz_23 rfl) rfl ?_)
    refine op (y (x_move rfl) rfl ?_)
    refine nil ?_
    refine n_then ?_
    refine block ?_
    refine loop (fun m F ro' L' => ∃ (k : Nat), (m = o.length - i - k) ∧ (F = [(0, .pointer (some ⟨x, 0, none⟩)), (1, .slice (some ⟨bbx, offx, none⟩) o.length cap2), (9, .slice (some ⟨bbx, offx, none⟩) o.length cap2), (10, .int .i64 (o.length : Nat)), (11, .int .i64 (i : Nat)), (6, .int .i64 o[i]), (18, .slice (some ⟨bbx, offx + i * 1, none⟩) (o.length - i) (cap2 - i)), (19, .int .i64 ((o.length - i : Nat) : Int)), (20, .int .i64 (k : Nat))]) ∧ (ro = ro') ∧ (L = L') ∧ (k ≤ o.length - i) ∧ (∀ m : Nat, m < k → ∀ q, o[i + m]? = some q → (q, o[i]) ∉ S)) (o.length - i - 0) [(0, .pointer (some ⟨x, 0, none⟩)), (1, .slice (some ⟨bbx, offx, none⟩) o.length cap2), (9, .slice (some ⟨bbx, offx, none⟩) o.length cap2), (10, .int .i64 (o.length : Nat)), (11, .int .i64 (i : Nat)), (6, .int .i64 o[i]), (18, .slice (some ⟨bbx, offx + i * 1, none⟩) (o.length - i) (cap2 - i)), (19, .int .i64 ((o.length - i : Nat) : Int)), (20, .int .i64 (0 : Nat))] ⟨rfl, rfl, rfl, rfl, rfl, rfl, rfl, rfl, rfl, trivial⟩ ⟨0, rfl, rfl, rfl, rfl, by omega, by intro j hj; omega⟩ ?_
    rintro m F ro' L' ⟨k, rfl, rfl, rfl, rfl, hk, hin⟩
    refine seq ?_
    refine region ?_
    refine op (y (x_lss rfl rfl) rfl ?_)
    refine nil ?_
    refine n_then ?_
    refine seq ?_
    refine cond rfl (fun h5 => ?_) (fun h5 => ?_)
    · try simp only [decide_eq_true_eq, decide_eq_false_iff_not, beq_iff_eq, bne_iff_ne, ne_eq, beq_eq_false_iff_ne, bne_eq_false_iff_eq, Bool.not_eq_true', Bool.not_eq_false', Bool.not_eq_true, Bool.not_eq_false, Decidable.not_not, Int.not_lt, Int.not_le] at h5
      refine skip ?_
      refine n_then ?_
      refine seq ?_
      refine block ?_
      refine seq ?_
      have hko : i + k < o.length := by omega
      have hz := List.getElem?_eq_getElem hko
      have cz0 := hcx (i + k) _ hz 0 _ rfl
      rw [show offx + (i + k) * 1 + 0 = offx + i * 1 + k * 1 by omega] at cz0
      refine region ?_
      refine op (y (x_indexNat sz_23 rfl rfl (by omega)) rfl ?_)
      refine op (y (x_load1 ag_3 rfl (by first | assumption | exact Cell.own 0 rfl rfl | exact Cell.own 1 rfl rfl | exact Cell.own 2 rfl rfl | exact Cell.own 3 rfl rfl | exact Cell.own 4 rfl rfl | exact Cell.own 5 rfl rfl | exact Cell.ofRo (by assumption))) rfl ?_)
      refine op (y (x_assign rfl) rfl ?_)
      refine nil ?_
      refine n_then ?_
      refine seq ?_
      refine region ?_
      refine op (y (x_move rfl) rfl ?_)
      refine op (y (x_move rfl) rfl ?_)
      refine op (y (x_move rfl) rfl ?_)
      refine op (e_call rfl fn_33 rfl rfl (RHas_c x S R _ _ hR hL (o[i + k]) (o[i])) fun v27 ro27 L27 hle27 hp27 => ?_)
      obtain ⟨rfl, rfl, rfl⟩ := hp27
      refine nil ?_
      refine n_then ?_
      refine cond rfl (fun h7 => ?_) (fun h7 => ?_)
      · try simp only [decide_eq_true_eq, decide_eq_false_iff_not, beq_iff_eq, bne_iff_ne, ne_eq, beq_eq_false_iff_ne, bne_eq_false_iff_eq, Bool.not_eq_true', Bool.not_eq_false', Bool.not_eq_true, Bool.not_eq_false, Decidable.not_not, Int.not_lt, Int.not_le] at h7
        refine seq ?_
        refine region ?_
        refine op (y (x_assign rfl) rfl ?_)
        refine nil ?_
        refine n_then ?_
        refine ret ?_
        refine r_in ?_
        refine r_then ?_
        refine r_then ?_
        refine r_in ?_
        refine r_in ?_
        refine r_then ?_
        refine r_then ?_
        refine r_in ?_
        refine r_then ?_
        exact done rfl (.tmp rfl (.nil)) (Ro.le.refl _) (L) (⟨_, .refl _, .refl _⟩) (⟨false, rfl, ⟨fun h => absurd h (by simp), fun h => absurd h7 (h i _ hx (i + k) (by omega) _ hz)⟩, rfl⟩)
      · try simp only [decide_eq_true_eq, decide_eq_false_iff_not, beq_iff_eq, bne_iff_ne, ne_eq, beq_eq_false_iff_ne, bne_eq_false_iff_eq, Bool.not_eq_true', Bool.not_eq_false', Bool.not_eq_true, Bool.not_eq_false, Decidable.not_not, Int.not_lt, Int.not_le] at h7
        refine skip ?_
        refine n_in ?_
        refine n_then ?_
        refine region ?_
        refine op (y (x_add rfl rfl _ (wr (by omega) (by omega))) rfl ?_)
        refine op (y (x_move rfl) rfl ?_)
        refine nil ?_
        exact round (o.length - i - (k + 1)) [(0, .pointer (some ⟨x, 0, none⟩)), (1, .slice (some ⟨bbx, offx, none⟩) o.length cap2), (9, .slice (some ⟨bbx, offx, none⟩) o.length cap2), (10, .int .i64 (o.length : Nat)), (11, .int .i64 (i : Nat)), (6, .int .i64 o[i]), (18, .slice (some ⟨bbx, offx + i * 1, none⟩) (o.length - i) (cap2 - i)), (19, .int .i64 ((o.length - i : Nat) : Int)), (20, .int .i64 ((k + 1) : Nat))] (by omega) ⟨rfl, rfl, rfl, rfl, rfl, rfl, rfl, rfl, rfl, trivial⟩ ⟨k + 1, rfl, rfl, rfl, rfl, by omega, upto (p := fun m => ∀ q, o[i + m]? = some q → (q, o[i]) ∉ S) hin (fun q e => by rw [hz] at e; cases e; exact h7)⟩
    · try simp only [decide_eq_true_eq, decide_eq_false_iff_not, beq_iff_eq, bne_iff_ne, ne_eq, beq_eq_false_iff_ne, bne_eq_false_iff_eq, Bool.not_eq_true', Bool.not_eq_false', Bool.not_eq_true, Bool.not_eq_false, Decidable.not_not, Int.not_lt, Int.not_le] at h5
      refine exit ?_
      refine e_then ?_
      refine e_then ?_
      refine e_in ?_
      refine n_in ?_
      refine n_then ?_
      refine region ?_
      refine op (y (x_add rfl rfl _ (wr (by omega) (by omega))) rfl ?_)
      refine op (y (x_move rfl) rfl ?_)
      refine nil ?_
      exact round (o.length - (i + 1)) [(0, .pointer (some ⟨x, 0, none⟩)), (1, .slice _ o.length cap2), (9, .slice _ o.length cap2), (10, .int .i64 (o.length : Nat)), (11, .int .i64 ((i + 1) : Nat))] (by omega) ⟨rfl, rfl, rfl, rfl, rfl, trivial⟩ ⟨i + 1, rfl, rfl, rfl, rfl, by omega, upto (p := fun j => ∀ p, o[j]? = some p → ∀ k : Nat, j ≤ k → ∀ q, o[k]? = some q → (q, p) ∉ S) hall (fun p e m hm q hq => by
            rw [hx] at e; cases e
            have hml := (List.getElem?_eq_some_iff.1 hq).1
            exact hin (m - i) (by omega) q (by rw [show i + (m - i) = m by omega]; exact hq))⟩
  · try simp only [decide_eq_true_eq, decide_eq_false_iff_not, beq_iff_eq, bne_iff_ne, ne_eq, beq_eq_false_iff_ne, bne_eq_false_iff_eq, Bool.not_eq_true', Bool.not_eq_false', Bool.not_eq_true, Bool.not_eq_false, Decidable.not_not, Int.not_lt, Int.not_le] at h2
    refine exit ?_
    refine e_then ?_
    refine e_then ?_
    refine e_in ?_
    refine n_then ?_
    refine seq ?_
    refine region ?_
    refine op (y (x_assign rfl) rfl ?_)
    refine nil ?_
    refine n_then ?_
    refine ret ?_
    exact done rfl (.tmp rfl (.nil)) (Ro.le.refl _) (L) (⟨_, .refl _, .refl _⟩) (⟨true, rfl, ⟨fun _ i p hp => hall i (by have := (List.getElem?_eq_some_iff.1 hp).1; omega) p hp, fun _ => rfl⟩, rfl⟩)

end Go.Proofs.Ytlmeblhcipkgmaa
