/- The walks of relations of numbers, the first part. -/
import Derived.Test.YtlmeblhcipkgmaaRA
import Derived.Test.YtlmeblhcipkgmaaK1
import Derived.Test.YtlmeblhcipkgmaaU14
namespace Go.Proofs.Ytlmeblhcipkgmaa
open Go Go.U
set_option maxRecDepth 20000
set_option linter.unusedSimpArgs false
set_option linter.unusedVariables false

open Go.RowKit
abbrev encZ : Int → Value := fun i => Value.int .i64 i
abbrev RelI (x : Nat) (S : List (Int × Int)) (R : List Blk) : Prop := RelP encZ I64 100 x S R
theorem kI : KEnc Try.prog 3 encZ := kenc_int Try.underlying3

theorem RNew_c (ro : Ro) (L : List (List Blk)) : CT Try.prog 35 [].toArray ro L (fun v ro' L' => ∃ x R, v = .pointer (some ⟨x, 0, none⟩) ∧ RelI x [] R ∧ ro = ro' ∧ L' = R :: L) := by
  refine enter Try.func35 rfl Try.ntmps35 rfl ?_
  refine seq ?_
  refine region ?_
  refine op (y (x_assign rfl) rfl ?_)
  refine nil ?_
  refine n_then ?_
  refine seq ?_
  refine region ?_
  refine op (e_makeMap rfl fun b1 => ?_)
  refine op (y (x_build bu_100 rfl rfl) rfl ?_)
  refine op (e_box rfl rfl rfl fun b3 => ?_)
  refine op (y (x_assign rfl) rfl ?_)
  refine nil ?_
  refine n_then ?_
  refine ret ?_
  exact done rfl (.tmp rfl (.nil)) (Ro.le.refl _) (relB 100 b3 b1 #[] 0 [] :: L) (⟨_, .refl _, .refl _⟩) (⟨b3, _, rfl, ⟨[], b1, #[], 0, [], rfl, ⟨MapE.empty, .nil, by simp⟩, .refl _, by simp⟩, rfl, rfl⟩)

theorem RHas_c (x : Nat) (S : List (Int × Int)) (R : List Blk) (ro : Ro) (L : List (List Blk)) (hR : RelI x S R) (hL : R ∈ L) (a b : Int) :
    CT Try.prog 33 [.pointer (some ⟨x, 0, none⟩), .int .i64 a, .int .i64 b].toArray ro L (PQ (.bool (decide ((a, b) ∈ S))) ro L) := by
  refine enter Try.func33 rfl Try.ntmps33 rfl ?_
  obtain ⟨G, mo, es, clk, I, hRB, hA, hS, hGl⟩ := hR
  have hroot := relB_root hRB hL
  have hmap := relB_map hRB hL
  have hin := relB_in hRB hL
  have hnd := hA.nodup
  refine seq ?_
  refine region ?_
  refine op (y (x_assign rfl) rfl ?_)
  refine nil ?_
  refine n_then ?_
  refine seq ?_
  refine region ?_
  refine op (y (x_move rfl) rfl ?_)
  refine op (y (x_nilPtr rfl) rfl ?_)
  refine op (y (x_fieldAddr fo_100_0 rfl) rfl ?_)
  refine op (y (x_load1 ag_98 rfl (Cell.blk hroot rfl)) rfl ?_)
  refine op (y (x_move rfl) rfl ?_)
  refine op (y (x_lookupV Try.underlying98 kI zc_110 rfl rfl hmap hA.outer (mget_om hnd a)) rfl ?_)
  refine op (y (x_move rfl) rfl ?_)
  refine op (y (x_lookupO Try.underlying110 kI zc_4 rfl rfl (hA.look2 hin a b)) rfl ?_)
  refine op (y (x_assign rfl) rfl ?_)
  refine nil ?_
  refine n_then ?_
  refine ret ?_
  exact done rfl (.tmp rfl (.nil)) (Ro.le.refl _) (L) (⟨_, .refl _, .refl _⟩) (⟨by have e : decide ((a, b) ∈ S) = decide ((a, b) ∈ prs G) := decide_eq_decide.2 hS.mem_iff; rw [e]; rfl, rfl, rfl⟩)

theorem newI {T : TypeId} {x mo : Nat} {es : Array MapEntry} {clk : Nat} {I : List Blk} {q : Blk} {L : List (List Blk)} : ((relB T x mo es clk (I ++ [q]) :: L).flatten).Perm (([(mo, .map es clk)] :: ((x, .cells [.map (some mo)].toArray T (0, 0)) :: I) :: [q] :: L).flatten) := by
  simp only [relB, List.flatten_cons, List.append_assoc, List.cons_append, List.nil_append]
  exact List.Perm.swap _ _ _
theorem joinI {S I1 I2 : List Blk} {b1 : Blk} {L : List (List Blk)} : (((S ++ (I1 ++ b1 :: I2)) :: L).flatten).Perm (([b1] :: (S ++ (I1 ++ I2)) :: L).flatten) := by
  simp only [List.flatten_cons, List.append_assoc, List.cons_append, List.nil_append]
  have := (List.perm_middle (a := b1) (l₁ := S ++ I1) (l₂ := I2 ++ L.flatten))
  simpa [List.append_assoc] using this

theorem RAdd_c (x : Nat) (S : List (Int × Int)) (R : List Blk) (ro : Ro) (L : List (List Blk)) (hR : RelI x S R) (a b : Int) (ha : I64 a) (hb : I64 b) :
    CT Try.prog 37 [.pointer (some ⟨x, 0, none⟩), .int .i64 a, .int .i64 b].toArray ro (R :: L) (fun v ro' L' => v = .bool (!decide ((a, b) ∈ S)) ∧ ∃ R', RelI x (addP S (a, b)) R' ∧ ro = ro' ∧ L' = R' :: L) := by
  refine enter Try.func37 rfl Try.ntmps37 rfl ?_
  obtain ⟨G, mo, es, clk, I, hRB, hA, hS, hGl⟩ := hR
  have hroot := relB_root hRB (L := R :: L) (by simp)
  have hmap := relB_map hRB (L := R :: L) (by simp)
  have hnd := hA.nodup
  refine seq ?_
  refine region ?_
  refine op (y (x_assign rfl) rfl ?_)
  refine nil ?_
  refine n_then ?_
  refine seqM (fun F ro' L' => ∃ (G2 : List (Int × Nat × List Int)) (R2 : List Blk) (es2 : Array MapEntry) (clk2 : Nat) (I2 : List Blk) (p : Nat) (ks : List Int), (F = [(0, .pointer (some ⟨x, 0, none⟩)), (1, .int .i64 a), (2, .int .i64 b)]) ∧ (ro = ro') ∧ (L' = R2 :: L) ∧ (R2 = relB 100 x mo es2 clk2 I2) ∧ (RelA encZ I64 100 x G2 mo es2 clk2 I2) ∧ (S.Perm (prs G2)) ∧ ((a, p, ks) ∈ G2) ∧ (G2.length ≤ S.length ∨ (b ∉ ks ∧ G2.length ≤ S.length + 1))) ?_ ?_
  · skip
    refine seq ?_
    refine region ?_
    refine op (y (x_move rfl) rfl ?_)
    refine op (y (x_nilPtr rfl) rfl ?_)
    refine op (y (x_fieldAddr fo_100_0 rfl) rfl ?_)
    refine op (y (x_load1 ag_98 rfl (Cell.blk hroot rfl)) rfl ?_)
    refine op (y (x_move rfl) rfl ?_)
    refine op (y (x_lookupV Try.underlying98 kI zc_110 rfl rfl hmap hA.outer (mget_om hnd a)) rfl ?_)
    refine op (y (x_mapNil Try.underlying110 rfl rfl) rfl ?_)
    refine nil ?_
    refine n_then ?_
    refine cond rfl (fun h1 => ?_) (fun h1 => ?_)
    · try simp only [decide_eq_true_eq, decide_eq_false_iff_not, beq_iff_eq, bne_iff_ne, ne_eq, beq_eq_false_iff_ne, bne_eq_false_iff_eq, Bool.not_eq_true', Bool.not_eq_false', Bool.not_eq_true, Bool.not_eq_false, Decidable.not_not, Int.not_lt, Int.not_le] at h1
      have hnone : a ∉ G.map (·.1) := lkp_none.1 h1
      refine region ?_
      refine op (y (x_move rfl) rfl ?_)
      refine op (y (x_nilPtr rfl) rfl ?_)
      refine op (y (x_fieldAddr fo_100_0 rfl) rfl ?_)
      refine op (y (x_load1 ag_98 rfl (Cell.blk hroot rfl)) rfl ?_)
      refine op (y (x_move rfl) rfl ?_)
      refine op (e_makeMap rfl fun b20 => ?_)
      rw [hRB]
      refine swap0 ?_
      refine split2 ?_
      refine op (e_mapSet 0 Try.underlying98 kI rfl rfl rfl rfl hA.outer (fun _ _ => rfl) fun es2 clk2 hE2 => ?_)
      rw [mset_om hnone] at hE2
      refine nil ?_
      refine subL (relB 100 x mo es2 clk2 (I ++ [(b20, .map #[] 0)]) :: L) ⟨_, newI, .refl _⟩ ?_
      exact mid [(0, .pointer (some ⟨x, 0, none⟩)), (1, .int .i64 a), (2, .int .i64 b)] ⟨rfl, rfl, rfl, trivial⟩ ⟨G ++ [(a, b20, [])], _, es2, clk2, _, b20, [], rfl, rfl, rfl, rfl, ⟨hE2, hA.inner.snoc MapE.empty, fun g hg => by
        rcases List.mem_append.1 hg with hg | hg
        · exact hA.okk g hg
        · rw [List.mem_singleton.1 hg]; exact ⟨ha, by simp⟩⟩, by rw [prs_new]; exact hS, by simp, .inr ⟨by simp, by simp; omega⟩⟩
    · try simp only [decide_eq_true_eq, decide_eq_false_iff_not, beq_iff_eq, bne_iff_ne, ne_eq, beq_eq_false_iff_ne, bne_eq_false_iff_eq, Bool.not_eq_true', Bool.not_eq_false', Bool.not_eq_true, Bool.not_eq_false, Decidable.not_not, Int.not_lt, Int.not_le] at h1
      refine skip ?_
      have hsome : ∃ p, lkp G a = some p := by
        cases hl : lkp G a with
        | none => rw [hl] at h1; simp at h1
        | some p => exact ⟨p, rfl⟩
      obtain ⟨p, hp⟩ := hsome
      obtain ⟨ks, hm⟩ := lkp_some hp
      exact mid [(0, .pointer (some ⟨x, 0, none⟩)), (1, .int .i64 a), (2, .int .i64 b)] ⟨rfl, rfl, rfl, trivial⟩ ⟨G, R, es, clk, I, p, ks, rfl, rfl, rfl, hRB, hA, hS, hm, .inl hGl⟩
  · rintro F ro' L' ⟨G2, R2, es2, clk2, I2, p, ks, rfl, rfl, rfl, hRB2, hA2, hS2, hm, hGl2⟩
    have hroot2 := relB_root hRB2 (L := R2 :: L) (by simp)
    have hmap2 := relB_map hRB2 (L := R2 :: L) (by simp)
    have hin2 := relB_in hRB2 (L := R2 :: L) (by simp)
    have hnd2 := hA2.nodup
    obtain ⟨G1, G3, I1, I3, es3, clk3, rfl, rfl, hE3, hU⟩ := hA2.inner.split hm
    have hks := hA2.inner.nodup _ hm
    have hab := prs_of (b := b) hnd2 hm
    refine seq ?_
    refine region ?_
    refine op (y (x_move rfl) rfl ?_)
    refine op (y (x_nilPtr rfl) rfl ?_)
    refine op (y (x_fieldAddr fo_100_0 rfl) rfl ?_)
    refine op (y (x_load1 ag_98 rfl (Cell.blk hroot2 rfl)) rfl ?_)
    refine op (y (x_move rfl) rfl ?_)
    refine op (y (x_lookupV Try.underlying98 kI zc_110 rfl rfl hmap2 hA2.outer (by rw [mget_om_some hnd2 hm])) rfl ?_)
    refine op (y (x_move rfl) rfl ?_)
    refine op (y (x_lookupV Try.underlying110 kI zc_4 rfl rfl (hin2 _ (by simp)) hE3 (mget_im hks)) rfl ?_)
    refine op (y (x_not rfl) rfl ?_)
    refine op (y (x_assign rfl) rfl ?_)
    refine nil ?_
    refine n_then ?_
    refine seq ?_
    refine region ?_
    refine op (y (x_move rfl) rfl ?_)
    refine op (y (x_nilPtr rfl) rfl ?_)
    refine op (y (x_fieldAddr fo_100_0 rfl) rfl ?_)
    refine op (y (x_load1 ag_98 rfl (Cell.blk hroot2 rfl)) rfl ?_)
    refine op (y (x_move rfl) rfl ?_)
    refine op (y (x_lookupV Try.underlying98 kI zc_110 rfl rfl hmap2 hA2.outer (by rw [mget_om_some hnd2 hm])) rfl ?_)
    refine op (y (x_move rfl) rfl ?_)
    rw [hRB2]
    refine splitI (S := [(x, .cells [.map (some mo)].toArray 100 (0, 0)), (mo, .map es2 clk2)]) ?_
    refine op (e_mapSet 0 Try.underlying110 kI rfl rfl rfl rfl hE3 (fun _ _ => rfl) fun es4 clk4 hE4 => ?_)
    rw [mset_im] at hE4
    refine nil ?_
    refine n_then ?_
    refine seq ?_
    refine region ?_
    refine op (y (x_move rfl) rfl ?_)
    refine op (y (x_assign rfl) rfl ?_)
    refine nil ?_
    refine n_then ?_
    refine ret ?_
    have hda : decide (b ∈ ks) = decide ((a, b) ∈ S) := decide_eq_decide.2 (hab.symm.trans hS2.mem_iff.symm)
    rw [hda]
    refine done rfl (.tmp rfl (.nil)) (Ro.le.refl _) (_ :: L) (⟨_, joinI (S := [(x, .cells [.map (some mo)].toArray 100 (0, 0)), (mo, .map es2 clk2)]), .refl _⟩) (⟨rfl, _, ⟨G1 ++ (a, p, if b ∈ ks then ks else ks ++ [b]) :: G3, mo, es2, clk2, I1 ++ (p, .map es4 clk4) :: I3, rfl, ⟨?_, hU _ _ _ hE4, ?_⟩, ?_, ?_⟩, rfl, rfl⟩)
    · have : om (G1 ++ (a, p, if b ∈ ks then ks else ks ++ [b]) :: G3) = om (G1 ++ (a, p, ks) :: G3) := by simp [om]
      rw [this]; exact hA2.outer
    · intro g hg
      rcases List.mem_append.1 hg with hg | hg
      · exact hA2.okk g (by simp [hg])
      · rcases List.mem_cons.1 hg with rfl | hg
        · refine ⟨ha, fun k hk => ?_⟩
          have h5 := (hA2.okk _ hm).2
          split at hk
          · exact h5 k hk
          · rcases List.mem_append.1 hk with hk | hk
            · exact h5 k hk
            · rw [List.mem_singleton.1 hk]; exact hb
        · exact hA2.okk g (by simp [hg])
    · by_cases hbk : b ∈ ks
      · rw [addP, if_pos (hS2.mem_iff.2 (hab.2 hbk)), if_pos hbk]; exact hS2
      · rw [addP, if_neg (fun h => hbk (hab.1 (hS2.mem_iff.1 h))), if_neg hbk]
        exact (hS2.cons _).trans prs_upd.symm
    · have e8 : (G1 ++ (a, p, if b ∈ ks then ks else ks ++ [b]) :: G3).length = (G1 ++ (a, p, ks) :: G3).length := by simp
      rw [e8]
      by_cases hbk : b ∈ ks
      · rw [addP, if_pos (hS2.mem_iff.2 (hab.2 hbk))]
        rcases hGl2 with h | ⟨h, _⟩
        · exact h
        · exact absurd hbk h
      · rw [addP, if_neg (fun h => hbk (hab.1 (hS2.mem_iff.1 h)))]
        simp only [List.length_cons]
        rcases hGl2 with h | ⟨_, h⟩ <;> omega

theorem RLen_c (x : Nat) (S : List (Int × Int)) (R : List Blk) (ro : Ro) (L : List (List Blk)) (hR : RelI x S R) (hL : R ∈ L) (hn : S.length ≤ 1000000) :
    CT Try.prog 31 [.pointer (some ⟨x, 0, none⟩)].toArray ro L (PQ (.int .i64 (S.length : Nat)) ro L) := by
  refine enter Try.func31 rfl Try.ntmps31 rfl ?_
  obtain ⟨G, mo, es, clk, I, hRB, hA, hS, hGl⟩ := hR
  have hroot := relB_root hRB hL
  have hmap := relB_map hRB hL
  have hin := relB_in hRB hL
  have hnd := hA.nodup
  refine seq ?_
  refine region ?_
  refine op (y (x_assign rfl) rfl ?_)
  refine nil ?_
  refine n_then ?_
  refine seq ?_
  refine region ?_
  refine op (y (x_assign rfl) rfl ?_)
  refine nil ?_
  refine n_then ?_
  refine seq ?_
  refine seq ?_
  refine region ?_
  refine op (y (x_move rfl) rfl ?_)
  refine op (y (x_nilPtr rfl) rfl ?_)
  refine op (y (x_fieldAddr fo_100_0 rfl) rfl ?_)
  refine op (y (x_load1 ag_98 rfl (Cell.blk hroot rfl)) rfl ?_)
  refine op (e_range rfl Try.underlying98 rfl hmap fun b10 => ?_)
  refine nil ?_
  refine n_then ?_
  refine block ?_
  refine loop (fun m F ro' L' => ∃ (Gs : List (Int × Nat × List Int)) (Gr : List (Int × Nat × List Int)) (rem : List (Int × Value)) (seen : Array Nat), (m = rem.length) ∧ (F = [(10, .pointer (some ⟨b10, 0, none⟩)), (3, .int .i64 ((prs Gs).length : Nat))]) ∧ (ro = ro') ∧ (L' = [(b10, .mapIter (some mo) clk seen clk)] :: L) ∧ (rem.Perm (om Gr)) ∧ ((Gs ++ Gr).Perm G) ∧ (IterM encZ es clk seen rem)) ((om G).length) [(10, .pointer (some ⟨b10, 0, none⟩)), (3, .int .i64 ((prs ([])).length : Nat))] ⟨rfl, rfl, trivial⟩ ⟨[], G, om G, #[], rfl, rfl, rfl, rfl, .refl _, by simp, hA.outer.iter⟩ ?_
  rintro m F ro' L' ⟨Gs, Gr, rem, seen, rfl, rfl, rfl, rfl, hrem, hG, hIt⟩
  refine seq ?_
  refine region ?_
  refine op (e_next 0 rfl rfl rfl (List.mem_cons_of_mem _ hmap) (hA.outer) (hIt) (fun _ => rfl) (fun hend => ?_) (fun kk vv rem2 seen2 hrem2 hI2 hl2 => ?_))
  · skip
    refine op (y (x_extract rfl rfl) rfl ?_)
    refine nil ?_
    refine n_then ?_
    refine seq ?_
    refine condF rfl ?_
    refine exit ?_
    refine e_then ?_
    refine e_then ?_
    refine e_in ?_
    refine n_then ?_
    refine seq ?_
    refine region ?_
    refine op (y (x_move rfl) rfl ?_)
    refine op (y (x_assign rfl) rfl ?_)
    refine nil ?_
    refine n_then ?_
    refine ret ?_
    subst hend
    have hGr0 : Gr = [] := List.eq_nil_of_length_eq_zero (by have := hrem.length_eq; simpa [om] using this.symm)
    subst hGr0
    have hl6 : (prs Gs).length = S.length := by rw [hS.length_eq, ← (prs_perm hG).length_eq]; simp
    rw [hl6]
    refine drop0 ?_
    exact done rfl (.tmp rfl (.nil)) (Ro.le.refl _) (L) (⟨_, .refl _, .refl _⟩) (⟨rfl, rfl, rfl⟩)
  · skip
    obtain ⟨p, ks, Gr2, hGr2, rfl, hrem3⟩ := next_om hrem hrem2
    have hG2 : (Gs ++ (kk, p, ks) :: Gr2).Perm G := (hGr2.symm.append_left Gs).trans hG
    have hG3 : ((Gs ++ [(kk, p, ks)]) ++ Gr2).Perm G := by simpa using hG2
    have hmg : (kk, p, ks) ∈ G := hG2.mem_iff.1 (by simp)
    have hrl : rem.length = rem2.length + 1 := by simpa using hrem2.length_eq
    obtain ⟨es5, clk5, hm5, hE5⟩ := hA.inner.mem hmg
    have hm6 := hin _ hm5
    refine op (y (x_extract rfl rfl) rfl ?_)
    refine nil ?_
    refine n_then ?_
    refine seq ?_
    refine condT rfl ?_
    refine skip ?_
    refine n_then ?_
    refine block ?_
    refine seq ?_
    refine region ?_
    refine op (y (x_entry rfl (List.mem_cons_self) (List.mem_cons_of_mem _ hmap) hl2) rfl ?_)
    refine op (y (x_extract rfl rfl) rfl ?_)
    refine op (y (x_assign rfl) rfl ?_)
    refine nil ?_
    refine n_then ?_
    refine region ?_
    refine op (y (x_move rfl) rfl ?_)
    refine op (y (x_move rfl) rfl ?_)
    refine op (y (x_lenMap Try.underlying110 rfl (List.mem_cons_of_mem _ hm6)) rfl ?_)
    have e5 : es5.size = ks.length := by rw [hE5.size]; simp [im]
    rw [e5]
    have hlt : (prs Gs).length + ks.length ≤ 1000000 := by
      have h1 := (prs_perm hG3).length_eq
      have h2 := hS.length_eq
      rw [prs_app, prs_app] at h1
      simp [prs] at h1
      simp [prs] at h2 ⊢
      omega
    refine op (y (x_add rfl rfl _ (wr (by omega) (by omega))) rfl ?_)
    refine op (y (x_assign rfl) rfl ?_)
    refine nil ?_
    refine n_in ?_
    rw [show ((prs Gs).length : Int) + (ks.length : Int) = ((prs (Gs ++ [(kk, p, ks)])).length : Nat) by rw [prs_app]; simp [prs]]
    exact round (rem2.length) [(10, .pointer (some ⟨b10, 0, none⟩)), (3, .int .i64 ((prs (Gs ++ [(kk, p, ks)])).length : Nat))] (by omega) ⟨rfl, rfl, trivial⟩ ⟨Gs ++ [(kk, p, ks)], Gr2, rem2, seen2, rfl, rfl, rfl, rfl, hrem3, hG3, hI2⟩

end Go.Proofs.Ytlmeblhcipkgmaa
