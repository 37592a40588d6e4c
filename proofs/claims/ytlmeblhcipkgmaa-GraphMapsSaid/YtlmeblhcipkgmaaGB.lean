/- The walks of graphs of numbers, the second part: one edge more. -/
import Derived.Test.YtlmeblhcipkgmaaGA
import Derived.Test.YtlmeblhcipkgmaaK3
namespace Go.Proofs.Ytlmeblhcipkgmaa
open Go Go.U
set_option maxRecDepth 20000
set_option linter.unusedSimpArgs false
set_option linter.unusedVariables false

open Go.RowKit
theorem newJ {S I1 J I2 : List Blk} {b1 q : Blk} {L : List (List Blk)} : (((S ++ ((I1 ++ b1 :: J) ++ q :: ([] ++ I2))) :: L).flatten).Perm (([b1] :: (S ++ (I1 ++ (J ++ I2))) :: [q] :: L).flatten) := by
  simp only [List.flatten_cons, List.append_assoc, List.cons_append, List.nil_append]
  have h1 := List.perm_middle (a := b1) (l₁ := S ++ I1) (l₂ := J ++ q :: (I2 ++ L.flatten))
  have h2 := List.perm_middle (a := q) (l₁ := S ++ I1 ++ J) (l₂ := I2 ++ L.flatten)
  have h3 := List.perm_middle (a := q) (l₁ := S ++ I1 ++ J ++ I2) (l₂ := L.flatten)
  simp only [List.append_assoc] at h1 h2 h3
  exact h1.trans ((h2.trans h3.symm).cons b1)
def addE (E : List Ed) (e : Ed) : List Ed := if e ∈ E then E else e :: E
theorem edg_split {G1 G2 : GrN} {a : Int} {p : Nat} {M : List (Int × Nat × List Int)} : edg (G1 ++ (a, p, M) :: G2) = edg G1 ++ (M.flatMap (fun h => h.2.2.map (fun k => (a, h.1, k))) ++ edg G2) := by simp [edg]
theorem edg_newM {G1 G2 : GrN} {a b : Int} {p q : Nat} {M : List (Int × Nat × List Int)} : edg (G1 ++ (a, p, M ++ [(b, q, [])]) :: G2) = edg (G1 ++ (a, p, M) :: G2) := by simp [edg]
theorem edg_upd {G1 G2 : GrN} {M1 M2 : List (Int × Nat × List Int)} {a b c : Int} {p q : Nat} {ks : List Int} : (edg (G1 ++ (a, p, M1 ++ (b, q, ks ++ [c]) :: M2) :: G2)).Perm ((a, b, c) :: edg (G1 ++ (a, p, M1 ++ (b, q, ks) :: M2) :: G2)) := by
  simp only [edg_split, List.flatMap_append, List.flatMap_cons, List.map_append, List.map_cons, List.map_nil, List.append_assoc, List.cons_append, List.nil_append]
  have := List.perm_middle (a := (a, b, c)) (l₁ := edg G1 ++ (List.flatMap (fun h => List.map (fun k => (a, h.1, k)) h.2.2) M1 ++ List.map (fun k => (a, b, k)) ks)) (l₂ := List.flatMap (fun h => List.map (fun k => (a, h.1, k)) h.2.2) M2 ++ edg G2)
  simpa [List.append_assoc] using this

theorem GrEdge_c (x : Nat) (N : List Int) (E : List Ed) (R : List Blk) (ro : Ro) (L : List (List Blk)) (hR : RelG x N E R) (a b c : Int) (ha : I64 a) (hb : I64 b) (hc : I64 c) :
    CT Try.prog 58 [.pointer (some ⟨x, 0, none⟩), .int .i64 a, .int .i64 b, .int .i64 c].toArray ro (R :: L) (fun v ro' L' => v = .bool (!decide ((a, b, c) ∈ E)) ∧ ∃ R', RelG x (addN (addN N a) b) (addE E (a, b, c)) R' ∧ ro = ro' ∧ L' = R' :: L) := by
  refine enter Try.func58 rfl Try.ntmps58 rfl ?_
  refine seq ?_
  refine region ?_
  refine op (y (x_assign rfl) rfl ?_)
  refine nil ?_
  refine n_then ?_
  refine seq ?_
  refine region ?_
  refine op (y (x_move rfl) rfl ?_)
  refine op (y (x_move rfl) rfl ?_)
  refine op (e_call rfl fn_61 rfl rfl (GrNode_c x N E R _ _ hR a ha) fun v12 ro12 L12 hle12 hp12 => ?_)
  obtain ⟨rfl, R1, hR1, rfl, rfl⟩ := hp12
  refine nil ?_
  refine n_then ?_
  refine seq ?_
  refine region ?_
  refine op (y (x_move rfl) rfl ?_)
  refine op (y (x_move rfl) rfl ?_)
  refine op (e_call rfl fn_61 rfl rfl (GrNode_c x (addN N a) E R1 _ _ hR1 b hb) fun v15 ro15 L15 hle15 hp15 => ?_)
  obtain ⟨rfl, R2, hR2, rfl, rfl⟩ := hp15
  have hain : a ∈ addN (addN N a) b := by unfold addN; split <;> split <;> simp_all
  obtain ⟨G, mo, es, clk, I, hRB, hA, hN, hE, hGl, hNe⟩ := hR2
  have hroot := relB_root hRB (L := R2 :: L) (by simp)
  have hmap := relB_map hRB (L := R2 :: L) (by simp)
  have hin := relB_in hRB (L := R2 :: L) (by simp)
  have hnd := hA.nodup
  obtain ⟨⟨a', p, M⟩, hm, e'⟩ := List.mem_map.1 (hN.mem_iff.1 hain)
  simp only at e'
  obtain rfl : a = a' := e'.symm
  have hlk := lkg_of hnd hm
  obtain ⟨G1, G2, I1, J, I2, es3, clk3, rfl, rfl, hE3, hJ, hU⟩ := hA.inner.split hm
  have hMn := hA.inner.mnodup _ hm
  refine nil ?_
  refine n_then ?_
  refine seqM (fun F ro' L' => ∃ (G1 : GrN) (G2 : GrN) (p : Nat) (M1 : List (Int × Nat × List Int)) (M2 : List (Int × Nat × List Int)) (q : Nat) (ks : List Int) (I1 : List Blk) (J1 : List Blk) (J2 : List Blk) (I2 : List Blk) (es3 : Array MapEntry) (clk3 : Nat) (es4 : Array MapEntry) (clk4 : Nat) (R2 : List Blk), (F = [(0, .pointer (some ⟨x, 0, none⟩)), (1, .int .i64 a), (2, .int .i64 b), (3, .int .i64 c)]) ∧ (ro = ro') ∧ (L' = R2 :: L) ∧ (R2 = relB 120 x mo es clk ((I1 ++ (p, .map es3 clk3) :: J1) ++ (q, .map es4 clk4) :: (J2 ++ I2))) ∧ (GrI (G1 ++ (a, p, M1 ++ (b, q, ks) :: M2) :: G2) es clk ((I1 ++ (p, .map es3 clk3) :: J1) ++ (q, .map es4 clk4) :: (J2 ++ I2))) ∧ (MapE encZ (omg (M1 ++ (b, q, ks) :: M2)) es3 clk3) ∧ (MapE encZ (im ks) es4 clk4) ∧ (∀ ks2 es5 clk5, MapE encZ (im ks2) es5 clk5 → InG encZ encZ (G1 ++ (a, p, M1 ++ (b, q, ks2) :: M2) :: G2) ((I1 ++ (p, .map es3 clk3) :: J1) ++ (q, .map es5 clk5) :: (J2 ++ I2))) ∧ ((addN (addN N a) b).Perm (nds (G1 ++ (a, p, M1 ++ (b, q, ks) :: M2) :: G2))) ∧ (E.Perm (edg (G1 ++ (a, p, M1 ++ (b, q, ks) :: M2) :: G2))) ∧ ((∀ g ∈ (G1 ++ (a, p, M1 ++ (b, q, ks) :: M2) :: G2), g.2.2.length ≤ E.length) ∨ (c ∉ ks ∧ ∀ g ∈ (G1 ++ (a, p, M1 ++ (b, q, ks) :: M2) :: G2), g.2.2.length ≤ E.length + 1)) ∧ (∀ g ∈ (G1 ++ (a, p, M1 ++ M2) :: G2), ∀ h ∈ g.2.2, h.2.2 ≠ [])) ?_ ?_
  · skip
    refine seq ?_
    refine region ?_
    refine op (y (x_move rfl) rfl ?_)
    refine op (y (x_nilPtr rfl) rfl ?_)
    refine op (y (x_fieldAddr fo_120_0 rfl) rfl ?_)
    refine op (y (x_load1 ag_118 rfl (Cell.blk hroot rfl)) rfl ?_)
    refine op (y (x_move rfl) rfl ?_)
    refine op (y (x_lookupV Try.underlying118 kI zc_98 rfl rfl hmap hA.outer (by rw [mget_omg hnd, hlk])) rfl ?_)
    refine op (y (x_move rfl) rfl ?_)
    refine op (y (x_lookupV Try.underlying98 kI zc_110 rfl rfl (hin _ (by simp)) hE3 (mget_omg hMn.1 b)) rfl ?_)
    refine op (y (x_mapNil Try.underlying110 rfl rfl) rfl ?_)
    refine nil ?_
    refine n_then ?_
    refine cond rfl (fun h3 => ?_) (fun h3 => ?_)
    · try simp only [decide_eq_true_eq, decide_eq_false_iff_not, beq_iff_eq, bne_iff_ne, ne_eq, beq_eq_false_iff_ne, bne_eq_false_iff_eq, Bool.not_eq_true', Bool.not_eq_false', Bool.not_eq_true, Bool.not_eq_false, Decidable.not_not, Int.not_lt, Int.not_le] at h3
      have hnb : b ∉ M.map (·.1) := lkg_none.1 h3
      refine region ?_
      refine op (y (x_move rfl) rfl ?_)
      refine op (y (x_nilPtr rfl) rfl ?_)
      refine op (y (x_fieldAddr fo_120_0 rfl) rfl ?_)
      refine op (y (x_load1 ag_118 rfl (Cell.blk hroot rfl)) rfl ?_)
      refine op (y (x_move rfl) rfl ?_)
      refine op (y (x_lookupV Try.underlying118 kI zc_98 rfl rfl hmap hA.outer (by rw [mget_omg hnd, hlk])) rfl ?_)
      refine op (y (x_move rfl) rfl ?_)
      refine op (e_makeMap rfl fun b32 => ?_)
      rw [hRB]
      refine swap0 ?_
      refine splitI (S := [(x, .cells [.map (some mo)].toArray 120 (0, 0)), (mo, .map es clk)]) (I1 := I1) (I2 := J ++ I2) ?_
      refine op (e_mapSet 0 Try.underlying98 kI rfl rfl rfl rfl hE3 (fun _ _ => rfl) fun es5 clk5 hE5 => ?_)
      rw [mset_omg hnb ([] : List Int)] at hE5
      refine nil ?_
      refine subL (relB 120 x mo es clk ((I1 ++ (p, .map es5 clk5) :: J) ++ (b32, .map #[] 0) :: ([] ++ I2)) :: L) ⟨_, newJ (S := [(x, .cells [.map (some mo)].toArray 120 (0, 0)), (mo, .map es clk)]), .refl _⟩ ?_
      have hU5 : ∀ ks2 es6 clk6, MapE encZ (im ks2) es6 clk6 → InG encZ encZ (G1 ++ (a, p, M ++ (b, b32, ks2) :: []) :: G2) ((I1 ++ (p, .map es5 clk5) :: J) ++ (b32, .map es6 clk6) :: ([] ++ I2)) := fun ks2 es6 clk6 h6 => by
        have h7 := hU (M ++ [(b, b32, ks2)]) es5 clk5 (J ++ [(b32, .map es6 clk6)]) (by
          have e9 : omg (M ++ [(b, b32, ks2)]) = omg (M ++ [(b, b32, ([] : List Int))]) := by simp [omg]
          rw [e9]; exact hE5) (hJ.snoc h6)
        simpa using h7
      exact mid [(0, .pointer (some ⟨x, 0, none⟩)), (1, .int .i64 a), (2, .int .i64 b), (3, .int .i64 c)] ⟨rfl, rfl, rfl, rfl, trivial⟩ ⟨G1, G2, p, M, [], b32, [], I1, J, [], I2, es5, clk5, #[], 0, _, rfl, rfl, rfl, rfl, ⟨by rw [← omg_upd M]; exact hA.outer, hU5 _ _ _ MapE.empty, fun g hg => by
          rcases List.mem_append.1 hg with hg | hg
          · exact hA.okk g (by simp [hg])
          · rcases List.mem_cons.1 hg with rfl | hg
            · refine ⟨ha, fun h hh => ?_⟩
              rcases List.mem_append.1 hh with hh | hh
              · exact (hA.okk _ hm).2 h hh
              · rw [List.mem_singleton.1 hh]; exact ⟨hb, by simp⟩
            · exact hA.okk g (by simp [hg])⟩, hE5, MapE.empty, hU5, by simpa [nds] using hN, by rw [edg_newM]; exact hE, .inr ⟨by simp, fun g hg => by
          rcases List.mem_append.1 hg with hg | hg
          · have := hGl g (by simp [hg]); omega
          · rcases List.mem_cons.1 hg with rfl | hg
            · have := hGl _ hm; simp at this ⊢; omega
            · have := hGl g (by simp [hg]); omega⟩, by rw [List.append_nil]; exact hNe⟩
    · try simp only [decide_eq_true_eq, decide_eq_false_iff_not, beq_iff_eq, bne_iff_ne, ne_eq, beq_eq_false_iff_ne, bne_eq_false_iff_eq, Bool.not_eq_true', Bool.not_eq_false', Bool.not_eq_true, Bool.not_eq_false, Decidable.not_not, Int.not_lt, Int.not_le] at h3
      refine skip ?_
      obtain ⟨q, hq⟩ : ∃ q, lkg M b = some q := by
        cases hl : lkg M b with
        | none => rw [hl] at h3; simp at h3
        | some q => exact ⟨q, rfl⟩
      obtain ⟨ks, hmb⟩ := lkg_some hq
      obtain ⟨M1, M2, J1, J2, es4, clk4, rfl, rfl, hE4, hV⟩ := hJ.split hmb
      have hIe : ∀ z : Blk, I1 ++ (p, .map es3 clk3) :: ((J1 ++ z :: J2) ++ I2) = (I1 ++ (p, .map es3 clk3) :: J1) ++ z :: (J2 ++ I2) := fun z => by simp
      rw [hIe] at hRB hA
      exact mid [(0, .pointer (some ⟨x, 0, none⟩)), (1, .int .i64 a), (2, .int .i64 b), (3, .int .i64 c)] ⟨rfl, rfl, rfl, rfl, trivial⟩ ⟨G1, G2, p, M1, M2, q, ks, I1, J1, J2, I2, es3, clk3, es4, clk4, R2, rfl, rfl, rfl, hRB, hA, hE3, hE4, fun ks2 es5 clk5 h5 => by rw [← hIe]; exact hU _ _ _ _ (by rw [← omg_upd ks]; exact hE3) (hV _ _ _ h5), hN, hE, .inl hGl, fun g hg h hh => by
          rcases List.mem_append.1 hg with hg | hg
          · exact hNe g (by simp [hg]) h hh
          · rcases List.mem_cons.1 hg with rfl | hg
            · rcases List.mem_append.1 hh with hh | hh
              · exact hNe _ hm h (by simp [hh])
              · exact hNe _ hm h (by simp [hh])
            · exact hNe g (by simp [hg]) h hh⟩
  · rintro F ro' L' ⟨G1, G2, p, M1, M2, q, ks, I1, J1, J2, I2, es3, clk3, es4, clk4, R2, rfl, rfl, rfl, hRB2, hA2, hE3, hE4, hU, hN2, hE2, hGl2, hNe2⟩
    have hroot2 := relB_root hRB2 (L := R2 :: L) (by simp)
    have hmap2 := relB_map hRB2 (L := R2 :: L) (by simp)
    have hin2 := relB_in hRB2 (L := R2 :: L) (by simp)
    have hnd2 := hA2.nodup
    have hm2 : (a, p, M1 ++ (b, q, ks) :: M2) ∈ G1 ++ (a, p, M1 ++ (b, q, ks) :: M2) :: G2 := by simp
    have hlk2 := lkg_of hnd2 hm2
    have hMn2 := hA2.inner.mnodup _ hm2
    have hmb2 : (b, q, ks) ∈ M1 ++ (b, q, ks) :: M2 := by simp
    have hlb2 := lkg_of hMn2.1 hmb2
    have hks := hMn2.2 _ hmb2
    have habc : (a, b, c) ∈ edg (G1 ++ (a, p, M1 ++ (b, q, ks) :: M2) :: G2) ↔ c ∈ ks := by
      rw [mem_edg]
      constructor
      · rintro ⟨p2, Mx, q2, k2, h1, h2, h3⟩
        obtain ⟨_, rfl⟩ := keyg_uniq hnd2 hm2 h1
        rw [(keyg_uniq hMn2.1 hmb2 h2).2]; exact h3
      · exact fun h => ⟨p, _, q, ks, hm2, hmb2, h⟩
    refine seq ?_
    refine region ?_
    refine op (y (x_move rfl) rfl ?_)
    refine op (y (x_nilPtr rfl) rfl ?_)
    refine op (y (x_fieldAddr fo_120_0 rfl) rfl ?_)
    refine op (y (x_load1 ag_118 rfl (Cell.blk hroot2 rfl)) rfl ?_)
    refine op (y (x_move rfl) rfl ?_)
    refine op (y (x_lookupV Try.underlying118 kI zc_98 rfl rfl hmap2 hA2.outer (by rw [mget_omg hnd2, hlk2])) rfl ?_)
    refine op (y (x_move rfl) rfl ?_)
    refine op (y (x_lookupV Try.underlying98 kI zc_110 rfl rfl (hin2 _ (by simp)) hE3 (by rw [mget_omg hMn2.1, hlb2])) rfl ?_)
    refine op (y (x_move rfl) rfl ?_)
    refine op (y (x_lookupV Try.underlying110 kI zc_4 rfl rfl (hin2 _ (by simp)) hE4 (mget_im hks)) rfl ?_)
    refine op (y (x_not rfl) rfl ?_)
    refine op (y (x_assign rfl) rfl ?_)
    refine nil ?_
    refine n_then ?_
    refine seq ?_
    refine region ?_
    refine op (y (x_move rfl) rfl ?_)
    refine op (y (x_nilPtr rfl) rfl ?_)
    refine op (y (x_fieldAddr fo_120_0 rfl) rfl ?_)
    refine op (y (x_load1 ag_118 rfl (Cell.blk hroot2 rfl)) rfl ?_)
    refine op (y (x_move rfl) rfl ?_)
    refine op (y (x_lookupV Try.underlying118 kI zc_98 rfl rfl hmap2 hA2.outer (by rw [mget_omg hnd2, hlk2])) rfl ?_)
    refine op (y (x_move rfl) rfl ?_)
    refine op (y (x_lookupV Try.underlying98 kI zc_110 rfl rfl (hin2 _ (by simp)) hE3 (by rw [mget_omg hMn2.1, hlb2])) rfl ?_)
    refine op (y (x_move rfl) rfl ?_)
    rw [hRB2]
    refine splitI (S := [(x, .cells [.map (some mo)].toArray 120 (0, 0)), (mo, .map es clk)]) (I1 := I1 ++ (p, .map es3 clk3) :: J1) (I2 := J2 ++ I2) ?_
    refine op (e_mapSet 0 Try.underlying110 kI rfl rfl rfl rfl hE4 (fun _ _ => rfl) fun es5 clk5 hE5 => ?_)
    rw [mset_im] at hE5
    refine nil ?_
    refine n_then ?_
    refine seq ?_
    refine region ?_
    refine op (y (x_move rfl) rfl ?_)
    refine op (y (x_assign rfl) rfl ?_)
    refine nil ?_
    refine n_then ?_
    refine ret ?_
    have hda : decide (c ∈ ks) = decide ((a, b, c) ∈ E) := decide_eq_decide.2 (habc.symm.trans hE2.mem_iff.symm)
    rw [hda]
    refine done rfl (.tmp rfl (.nil)) (Ro.le.refl _) (_ :: L) (⟨_, joinI (S := [(x, .cells [.map (some mo)].toArray 120 (0, 0)), (mo, .map es clk)]), .refl _⟩) (⟨rfl, _, ⟨G1 ++ (a, p, M1 ++ (b, q, if c ∈ ks then ks else ks ++ [c]) :: M2) :: G2, mo, es, clk, (I1 ++ (p, .map es3 clk3) :: J1) ++ (q, .map es5 clk5) :: (J2 ++ I2), rfl, ⟨?_, hU _ _ _ hE5, ?_⟩, ?_, ?_, ?_, ?_⟩, rfl, rfl⟩)
    · rw [← omg_upd (M1 ++ (b, q, ks) :: M2)]; exact hA2.outer
    · intro g hg
      rcases List.mem_append.1 hg with hg | hg
      · exact hA2.okk g (by simp [hg])
      · rcases List.mem_cons.1 hg with rfl | hg
        · refine ⟨ha, fun h hh => ?_⟩
          have h9 := (hA2.okk _ hm2).2
          rcases List.mem_append.1 hh with hh | hh
          · exact h9 h (by simp [hh])
          · rcases List.mem_cons.1 hh with rfl | hh
            · refine ⟨hb, fun k hk => ?_⟩
              have h8 := (h9 _ hmb2).2
              split at hk
              · exact h8 k hk
              · rcases List.mem_append.1 hk with hk | hk
                · exact h8 k hk
                · rw [List.mem_singleton.1 hk]; exact hc
            · exact h9 h (by simp [hh])
        · exact hA2.okk g (by simp [hg])
    · simpa [nds] using hN2
    · by_cases hck : c ∈ ks
      · rw [addE, if_pos (hE2.mem_iff.2 (habc.2 hck)), if_pos hck]; exact hE2
      · rw [addE, if_neg (fun h => hck (habc.1 (hE2.mem_iff.1 h))), if_neg hck]
        exact (hE2.cons _).trans edg_upd.symm
    · have hlen : (addE E (a, b, c)).length = if c ∈ ks then E.length else E.length + 1 := by
        by_cases hck : c ∈ ks
        · rw [addE, if_pos (hE2.mem_iff.2 (habc.2 hck)), if_pos hck]
        · rw [addE, if_neg (fun h => hck (habc.1 (hE2.mem_iff.1 h))), if_neg hck]; simp
      have hb7 : ∀ g ∈ (G1 ++ (a, p, M1 ++ (b, q, ks) :: M2) :: G2), g.2.2.length ≤ (addE E (a, b, c)).length := fun g hg => by
        rw [hlen]
        rcases hGl2 with h | ⟨h1, h⟩
        · have := h g hg; split <;> omega
        · have := h g hg; rw [if_neg h1]; exact this
      intro g hg
      rcases List.mem_append.1 hg with hg | hg
      · exact hb7 g (by simp [hg])
      · rcases List.mem_cons.1 hg with rfl | hg
        · have := hb7 _ hm2; simpa using this
        · exact hb7 g (by simp [hg])
    · intro g hg h hh
      rcases List.mem_append.1 hg with hg | hg
      · exact hNe2 g (by simp [hg]) h hh
      · rcases List.mem_cons.1 hg with rfl | hg
        · rcases List.mem_append.1 hh with hh | hh
          · exact hNe2 (a, p, M1 ++ M2) (by simp) h (by simp [hh])
          · rcases List.mem_cons.1 hh with rfl | hh
            · show (if c ∈ ks then ks else ks ++ [c]) ≠ []
              split
              · rename_i hck; intro e; rw [e] at hck; simp at hck
              · simp
            · exact hNe2 (a, p, M1 ++ M2) (by simp) h (by simp [hh])
        · exact hNe2 g (by simp [hg]) h hh

end Go.Proofs.Ytlmeblhcipkgmaa
namespace Go.Proofs.Ytlmeblhcipkgmaa
open Go Go.U
set_option maxRecDepth 20000
set_option linter.unusedSimpArgs false
set_option linter.unusedVariables false

open Go.RowKit
theorem GrA.outs {G : GrN} {es : Array MapEntry} {clk : Nat} {I Kb : List Blk} (h : GrI G es clk I) (hI : ∀ q ∈ I, q ∈ Kb) (hNe : ∀ g ∈ G, ∀ k ∈ g.2.2, k.2.2 ≠ []) {n : Nat} (hGl : ∀ g ∈ G, g.2.2.length ≤ n) (a : Int) :
    ∃ m : List (Int × Value), ((lkg G a = none ∧ m = []) ∨ ∃ r es clk, lkg G a = some r ∧ (r, Obj.map es clk) ∈ Kb ∧ MapE (fun i : Int => Value.int .i64 i) m es clk) ∧ (∀ b, b ∈ m.map (·.1) ↔ ∃ c, (a, b, c) ∈ edg G) ∧ (m.map (·.1)).Nodup ∧ (∀ p ∈ m, I64 p.1) ∧ m.length ≤ n := by
  rcases h.cases a with ⟨h1, _, h2⟩ | ⟨p, M, es', clk', J, h1, h2, h3, h4, h5, h6, h7⟩
  · exact ⟨[], .inl ⟨h1, rfl⟩, fun b => by simp [h2 b], by simp, by simp, by simp⟩
  · refine ⟨omg M, .inr ⟨p, es', clk', h1, hI _ h3, h4⟩, fun b => ?_, by rw [omg_keys]; exact (h.inner.mnodup _ h2).1, fun q hq => ?_, by simpa [omg] using hGl _ h2⟩
    · rw [omg_keys, List.mem_map]
      constructor
      · rintro ⟨⟨b', q, ks⟩, hm, rfl⟩
        have := hNe _ h2 _ hm
        obtain ⟨c, hc⟩ : ∃ c, c ∈ ks := List.exists_mem_of_ne_nil _ this
        exact ⟨c, (h7 _ _).2 ⟨q, ks, hm, hc⟩⟩
      · rintro ⟨c, hc⟩
        obtain ⟨q, ks, hm, _⟩ := (h7 _ _).1 hc
        exact ⟨_, hm, rfl⟩
    · obtain ⟨g, hg, rfl⟩ := List.mem_map.1 hq
      exact ((h.okk _ h2).2 _ hg).1
theorem edges_len {E : List Ed} {a b : Int} {ks : List Int} (hn : ks.Nodup) (h : ∀ c ∈ ks, (a, b, c) ∈ E) : ks.length ≤ E.length := by
  have h1 := nodup_le hn (m := E.map (·.2.2)) (fun c hc => List.mem_map.2 ⟨_, h c hc, rfl⟩)
  simpa using h1

theorem GrNodes_c (x : Nat) (N : List Int) (E : List Ed) (R : List Blk) (ro : Ro) (L : List (List Blk)) (hR : RelG x N E R) (hL : R ∈ L) (hnN : N.length ≤ 100000) (hnE : E.length ≤ 100000) :
    CT Try.prog 50 [.pointer (some ⟨x, 0, none⟩)].toArray ro L (PN 3 1 encInt (srt N) ro L) := by
  refine enter Try.func50 rfl Try.ntmps50 rfl ?_
  have hRP := hR
  obtain ⟨G, mo, es, clk, I, hRB, hA, hN, hE, hGl, hNe⟩ := hR
  have hroot := relB_root hRB hL
  have hmap := relB_map hRB hL
  have hin := relB_in hRB hL
  have hnd := hA.nodup
  have hse : srt ((omg G).map (·.1)) = srt N := srt_perm (by rw [omg_keys]; exact hN.symm)
  have hgl : (omg G).length ≤ 1000000 := by have := hN.length_eq; simp [omg, nds] at this ⊢; omega
  refine seq ?_
  refine region ?_
  refine op (y (x_assign rfl) rfl ?_)
  refine nil ?_
  refine n_then ?_
  refine seq ?_
  refine region ?_
  refine op (y (x_move rfl) rfl ?_)
  refine op (y (x_nilPtr rfl) rfl ?_)
  refine op (y (x_fieldAddr fo_120_0 rfl) rfl ?_)
  refine op (y (x_load1 ag_118 rfl (Cell.blk hroot rfl)) rfl ?_)
  refine op (e_call rfl fn_94 rfl rfl (KeysG_c _ _ _) fun v7 ro7 L7 hle7 hp7 => ?_)
  obtain ⟨bx, rfl, rfl, rfl⟩ := hp7
  refine op (e_call rfl fn_83 rfl rfl (SortedG_c (omg G) es clk bx mo _ _ hA.outer (fun p hp => by obtain ⟨g, hg, rfl⟩ := List.mem_map.1 hp; exact (hA.okk g hg).1) hgl (List.mem_cons_self) (List.mem_cons_of_mem _ hmap)) fun v8 ro8 L8 hle8 hp8 => ?_)
  obtain ⟨A, cap, R2, rfl, hO, rfl, rfl⟩ := hp8
  rw [hse] at hO ⊢
  refine op (y (x_assign rfl) rfl ?_)
  refine nil ?_
  refine n_then ?_
  refine ret ?_
  refine drop1 ?_
  exact done rfl (.tmp rfl (.nil)) (Ro.le.refl _) (_) (⟨_, .refl _, .refl _⟩) (⟨_, _, _, rfl, hO, rfl, rfl⟩)

theorem GrKinds_c (x : Nat) (N : List Int) (E : List Ed) (R : List Blk) (ro : Ro) (L : List (List Blk)) (hR : RelG x N E R) (hL : R ∈ L) (hnN : N.length ≤ 100000) (hnE : E.length ≤ 100000) (a b : Int) :
    CT Try.prog 49 [.pointer (some ⟨x, 0, none⟩), .int .i64 a, .int .i64 b].toArray ro L (PN 3 1 encInt (kindsR E a b) ro L) := by
  refine enter Try.func49 rfl Try.ntmps49 rfl ?_
  have hRP := hR
  obtain ⟨G, mo, es, clk, I, hRB, hA, hN, hE, hGl, hNe⟩ := hR
  have hroot := relB_root hRB hL
  have hmap := relB_map hRB hL
  have hin := relB_in hRB hL
  have hnd := hA.nodup
  obtain ⟨ks, hks, hmem, hkn, hok⟩ := hA.kinds hin a b
  have hmem2 : ∀ c, c ∈ ks ↔ (a, b, c) ∈ E := fun c => (hmem c).symm.trans hE.mem_iff.symm
  have hkl : ks.length ≤ E.length := edges_len hkn (fun c hc => (hmem2 c).1 hc)
  have hse : srt ks = kindsR E a b := srt_eq hkn (kindsR_spec E a b).1 (fun y => (hmem2 y).trans ((kindsR_spec E a b).2 y).symm)
  refine seq ?_
  refine region ?_
  refine op (y (x_assign rfl) rfl ?_)
  refine nil ?_
  refine n_then ?_
  refine seq ?_
  refine region ?_
  refine op (y (x_move rfl) rfl ?_)
  refine op (y (x_nilPtr rfl) rfl ?_)
  refine op (y (x_fieldAddr fo_120_0 rfl) rfl ?_)
  refine op (y (x_load1 ag_118 rfl (Cell.blk hroot rfl)) rfl ?_)
  refine op (y (x_move rfl) rfl ?_)
  refine op (y (x_lookupV Try.underlying118 kI zc_98 rfl rfl hmap hA.outer (mget_omg hnd a)) rfl ?_)
  refine op (y (x_move rfl) rfl ?_)
  refine op (y (x_lookupO Try.underlying98 kI zc_110 rfl rfl (hA.look2 hin a b)) rfl ?_)
  refine op (e_call rfl fn_87 rfl rfl (KeysI_c _ _ _) fun v15 ro15 L15 hle15 hp15 => ?_)
  obtain ⟨bx, rfl, rfl, rfl⟩ := hp15
  refine op (e_call rfl fn_83 rfl rfl (SortedB_c ks _ bx _ _ (hks.imp id (fun ⟨r, e1, e2, e3, e4, e5⟩ => ⟨r, e1, e2, e3, List.mem_cons_of_mem _ e4, e5⟩)) hok (by omega) (List.mem_cons_self)) fun v16 ro16 L16 hle16 hp16 => ?_)
  obtain ⟨A, cap, R2, rfl, hO, rfl, rfl⟩ := hp16
  rw [hse] at hO ⊢
  refine op (y (x_assign rfl) rfl ?_)
  refine nil ?_
  refine n_then ?_
  refine ret ?_
  refine drop1 ?_
  exact done rfl (.tmp rfl (.nil)) (Ro.le.refl _) (_) (⟨_, .refl _, .refl _⟩) (⟨_, _, _, rfl, hO, rfl, rfl⟩)

theorem GrOut_c (x : Nat) (N : List Int) (E : List Ed) (R : List Blk) (ro : Ro) (L : List (List Blk)) (hR : RelG x N E R) (hL : R ∈ L) (hnN : N.length ≤ 100000) (hnE : E.length ≤ 100000) (a : Int) :
    CT Try.prog 54 [.pointer (some ⟨x, 0, none⟩), .int .i64 a].toArray ro L (PN 3 1 encInt (BehindR (prE E) a) ro L) := by
  refine enter Try.func54 rfl Try.ntmps54 rfl ?_
  have hRP := hR
  obtain ⟨G, mo, es, clk, I, hRB, hA, hN, hE, hGl, hNe⟩ := hR
  have hroot := relB_root hRB hL
  have hmap := relB_map hRB hL
  have hin := relB_in hRB hL
  have hnd := hA.nodup
  obtain ⟨m, hm, hmem, hkn, hok, hml⟩ := GrA.outs hA hin hNe hGl a
  have hse : srt (m.map (·.1)) = BehindR (prE E) a := srt_eq hkn (BehindR_spec _ a).1 (fun y => by
    rw [hmem, (BehindR_spec _ a).2, (prE_spec E).2.2]
    exact ⟨fun ⟨c, hc⟩ => ⟨c, hE.mem_iff.2 hc⟩, fun ⟨c, hc⟩ => ⟨c, hE.mem_iff.1 hc⟩⟩)
  refine seq ?_
  refine region ?_
  refine op (y (x_assign rfl) rfl ?_)
  refine nil ?_
  refine n_then ?_
  refine seq ?_
  refine region ?_
  refine op (y (x_move rfl) rfl ?_)
  refine op (y (x_nilPtr rfl) rfl ?_)
  refine op (y (x_fieldAddr fo_120_0 rfl) rfl ?_)
  refine op (y (x_load1 ag_118 rfl (Cell.blk hroot rfl)) rfl ?_)
  refine op (y (x_move rfl) rfl ?_)
  refine op (y (x_lookupV Try.underlying118 kI zc_98 rfl rfl hmap hA.outer (mget_omg hnd a)) rfl ?_)
  refine op (e_call rfl fn_84 rfl rfl (KeysO_c _ _ _) fun v11 ro11 L11 hle11 hp11 => ?_)
  obtain ⟨bx, rfl, rfl, rfl⟩ := hp11
  refine op (e_call rfl fn_83 rfl rfl (SortedOB_c m _ bx _ _ (hm.imp id (fun ⟨r, e1, e2, e3, e4, e5⟩ => ⟨r, e1, e2, e3, List.mem_cons_of_mem _ e4, e5⟩)) hok (by omega) (List.mem_cons_self)) fun v12 ro12 L12 hle12 hp12 => ?_)
  obtain ⟨A, cap, R2, rfl, hO, rfl, rfl⟩ := hp12
  rw [hse] at hO ⊢
  refine op (y (x_assign rfl) rfl ?_)
  refine nil ?_
  refine n_then ?_
  refine ret ?_
  refine drop1 ?_
  exact done rfl (.tmp rfl (.nil)) (Ro.le.refl _) (_) (⟨_, .refl _, .refl _⟩) (⟨_, _, _, rfl, hO, rfl, rfl⟩)

end Go.Proofs.Ytlmeblhcipkgmaa
