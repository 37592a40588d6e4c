/- The walks of graphs of texts. -/
import Derived.Test.YtlmeblhcipkgmaaG26
import Derived.Test.YtlmeblhcipkgmaaK4
import Derived.Test.YtlmeblhcipkgmaaU26
namespace Go.Proofs.Ytlmeblhcipkgmaa
open Go Go.U
set_option maxRecDepth 20000
set_option linter.unusedSimpArgs false
set_option linter.unusedVariables false

open Go.RowKit
abbrev GrS := GrT (Fin 8) Int
def okA : Fin 8 → Prop := fun _ => True
abbrev encA : Fin 8 → Value := encTx fA
theorem kA : KEnc Try.prog 9 encA := kenc_txt Try.underlying9 txtA
abbrev GrIS (G : GrS) (es : Array MapEntry) (clk : Nat) (I : List Blk) : Prop := GrA encA encZ okA I64 G es clk I
def RelT (x : Nat) (N : List (Fin 8)) (R : List Blk) : Prop := ∃ (G : GrS) (mo : Nat) (es : Array MapEntry) (clk : Nat) (I : List Blk), R = relB 138 x mo es clk I ∧ GrIS G es clk I ∧ N.Perm (nds G)
theorem RelT.nodup {x : Nat} {N : List (Fin 8)} {R : List Blk} (h : RelT x N R) : N.Nodup := by
  obtain ⟨G, mo, es, clk, I, h1, h2, h3⟩ := h
  exact h3.nodup_iff.2 h2.nodup
def addF (N : List (Fin 8)) (a : Fin 8) : List (Fin 8) := if a ∈ N then N else a :: N
theorem fin8_len {N : List (Fin 8)} (h : N.Nodup) : N.length ≤ 8 := by
  have := nodup_le h (m := List.finRange 8) (fun x _ => List.mem_finRange x)
  simpa using this
theorem ndsT_new (G : GrS) (a : Fin 8) (p : Nat) : nds (G ++ [(a, p, [])]) = nds G ++ [a] := by simp [nds]

theorem TNew_c (ro : Ro) (L : List (List Blk)) : CT Try.prog 100 [].toArray ro L (fun v ro' L' => ∃ x R, v = .pointer (some ⟨x, 0, none⟩) ∧ RelT x [] R ∧ ro = ro' ∧ L' = R :: L) := by
  refine enter Try.func100 rfl Try.ntmps100 rfl ?_
  refine seq ?_
  refine region ?_
  refine op (y (x_assign rfl) rfl ?_)
  refine nil ?_
  refine n_then ?_
  refine seq ?_
  refine region ?_
  refine op (e_makeMap rfl fun b1 => ?_)
  refine op (y (x_build bu_138 rfl rfl) rfl ?_)
  refine op (e_box rfl rfl rfl fun b3 => ?_)
  refine op (y (x_assign rfl) rfl ?_)
  refine nil ?_
  refine n_then ?_
  refine ret ?_
  exact done rfl (.tmp rfl (.nil)) (Ro.le.refl _) (relB 138 b3 b1 #[] 0 [] :: L) (⟨_, .refl _, .refl _⟩) (⟨b3, _, rfl, ⟨[], b1, #[], 0, [], rfl, ⟨MapE.empty, .nil, by simp⟩, .refl _⟩, rfl, rfl⟩)

theorem TNode_c (x : Nat) (N : List (Fin 8)) (R : List Blk) (ro : Ro) (L : List (List Blk)) (hR : RelT x N R) (a : Fin 8) :
    CT Try.prog 101 [.pointer (some ⟨x, 0, none⟩), encA a].toArray ro (R :: L) (fun v ro' L' => v = .bool (!decide (a ∈ N)) ∧ ∃ R', RelT x (addF N a) R' ∧ ro = ro' ∧ L' = R' :: L) := by
  refine enter Try.func101 rfl Try.ntmps101 rfl ?_
  have hRP := hR
  obtain ⟨G, mo, es, clk, I, hRB, hA, hN⟩ := hR
  have hroot := relB_root hRB (L := R :: L) (by simp)
  have hmap := relB_map hRB (L := R :: L) (by simp)
  have hnd := hA.nodup
  refine seq ?_
  refine region ?_
  refine op (y (x_assign rfl) rfl ?_)
  refine nil ?_
  refine n_then ?_
  refine seq ?_
  refine seq ?_
  refine region ?_
  refine op (y (x_move rfl) rfl ?_)
  refine op (y (x_nilPtr rfl) rfl ?_)
  refine op (y (x_fieldAddr fo_138_0 rfl) rfl ?_)
  refine op (y (x_load1 ag_135 rfl (Cell.blk hroot rfl)) rfl ?_)
  refine op (y (x_move rfl) rfl ?_)
  refine op (y (x_lookupV Try.underlying135 kA zc_136 rfl rfl hmap hA.outer (mget_omg hnd a)) rfl ?_)
  refine op (y (x_mapNeNil Try.underlying136 rfl rfl) rfl ?_)
  refine nil ?_
  refine n_then ?_
  refine cond rfl (fun h1 => ?_) (fun h1 => ?_)
  · try simp only [decide_eq_true_eq, decide_eq_false_iff_not, beq_iff_eq, bne_iff_ne, ne_eq, beq_eq_false_iff_ne, bne_eq_false_iff_eq, Bool.not_eq_true', Bool.not_eq_false', Bool.not_eq_true, Bool.not_eq_false, Decidable.not_not, Int.not_lt, Int.not_le] at h1
    have hin : a ∈ N := by
      refine hN.mem_iff.2 ?_
      rcases Classical.em (a ∈ G.map (·.1)) with h | h
      · exact h
      · have := lkg_none.2 h; rw [this] at h1; simp at h1
    refine seq ?_
    refine region ?_
    refine op (y (x_assign rfl) rfl ?_)
    refine nil ?_
    refine n_then ?_
    refine ret ?_
    refine r_then ?_
    exact done rfl (.tmp rfl (.nil)) (Ro.le.refl _) (R :: L) (⟨_, .refl _, .refl _⟩) (⟨by simp [tupled, hin], R, by rw [addF, if_pos hin]; exact hRP, rfl, rfl⟩)
  · try simp only [decide_eq_true_eq, decide_eq_false_iff_not, beq_iff_eq, bne_iff_ne, ne_eq, beq_eq_false_iff_ne, bne_eq_false_iff_eq, Bool.not_eq_true', Bool.not_eq_false', Bool.not_eq_true, Bool.not_eq_false, Decidable.not_not, Int.not_lt, Int.not_le] at h1
    have hnone : a ∉ G.map (·.1) := lkg_none.1 (by cases hl : lkg G a with
      | none => rfl
      | some p => rw [hl] at h1; simp at h1)
    have hnin : a ∉ N := fun h => hnone (hN.mem_iff.1 h)
    refine skip ?_
    refine n_then ?_
    refine seq ?_
    refine region ?_
    refine op (y (x_move rfl) rfl ?_)
    refine op (y (x_nilPtr rfl) rfl ?_)
    refine op (y (x_fieldAddr fo_138_0 rfl) rfl ?_)
    refine op (y (x_load1 ag_135 rfl (Cell.blk hroot rfl)) rfl ?_)
    refine op (y (x_move rfl) rfl ?_)
    refine op (e_makeMap rfl fun b17 => ?_)
    rw [hRB]
    refine swap0 ?_
    refine split2 ?_
    refine op (e_mapSet 0 Try.underlying135 kA rfl rfl rfl rfl hA.outer (fun _ _ => rfl) fun es2 clk2 hE2 => ?_)
    rw [mset_omg hnone []] at hE2
    refine nil ?_
    refine n_then ?_
    refine seq ?_
    refine region ?_
    refine op (y (x_assign rfl) rfl ?_)
    refine nil ?_
    refine n_then ?_
    refine ret ?_
    exact done rfl (.tmp rfl (.nil)) (Ro.le.refl _) (_ :: L) (⟨_, newI, .refl _⟩) (⟨by simp [tupled, hnin], _, ⟨G ++ [(a, b17, [])], mo, es2, clk2, I ++ [(b17, .map #[] 0)], rfl, ⟨hE2, hA.inner.snoc MapE.empty, fun g hg => by
        rcases List.mem_append.1 hg with hg | hg
        · exact hA.okk g hg
        · rw [List.mem_singleton.1 hg]; exact ⟨trivial, by simp⟩⟩, by rw [addF, if_neg hnin, ndsT_new]; exact (hN.cons a).trans (List.perm_append_singleton a _).symm⟩, rfl, rfl⟩)

theorem TEdge_c (x : Nat) (N : List (Fin 8)) (R : List Blk) (ro : Ro) (L : List (List Blk)) (hR : RelT x N R) (a b : Fin 8) (c : Int) (hc : I64 c) :
    CT Try.prog 102 [.pointer (some ⟨x, 0, none⟩), encA a, encA b, .int .i64 c].toArray ro (R :: L) (fun v ro' L' => ∃ R', RelT x (addF (addF N a) b) R' ∧ ro = ro' ∧ L' = R' :: L) := by
  refine enter Try.func102 rfl Try.ntmps102 rfl ?_
  refine seq ?_
  refine region ?_
  refine op (y (x_assign rfl) rfl ?_)
  refine nil ?_
  refine n_then ?_
  refine seq ?_
  refine region ?_
  refine op (y (x_move rfl) rfl ?_)
  refine op (y (x_move rfl) rfl ?_)
  refine op (e_call rfl fn_101 rfl rfl (TNode_c x N R _ _ hR a) fun v12 ro12 L12 hle12 hp12 => ?_)
  obtain ⟨rfl, R1, hR1, rfl, rfl⟩ := hp12
  refine nil ?_
  refine n_then ?_
  refine seq ?_
  refine region ?_
  refine op (y (x_move rfl) rfl ?_)
  refine op (y (x_move rfl) rfl ?_)
  refine op (e_call rfl fn_101 rfl rfl (TNode_c x (addF N a) R1 _ _ hR1 b) fun v15 ro15 L15 hle15 hp15 => ?_)
  obtain ⟨rfl, R2, hR2, rfl, rfl⟩ := hp15
  have hain : a ∈ addF (addF N a) b := by unfold addF; split <;> split <;> simp_all
  obtain ⟨G, mo, es, clk, I, hRB, hA, hN⟩ := hR2
  have hroot := relB_root hRB (L := R2 :: L) (by simp)
  have hmap := relB_map hRB (L := R2 :: L) (by simp)
  have hin := relB_in hRB (L := R2 :: L) (by simp)
  have hnd := hA.nodup
  obtain ⟨⟨a', p, M⟩, hm, e'⟩ := List.mem_map.1 (hN.mem_iff.1 hain)
  simp only at e'
  obtain rfl : a = a' := e'.symm
  have hlk := lkg_of hnd hm
  obtain ⟨G1, G2, I1, J, I2, es3, clk3, rfl, rfl, hE3, hJ, hU⟩ := hA.inner.split hm
  have hMn := hA.inner.mnodup _ hm
  refine nil ?_
  refine n_then ?_
  refine seqM (fun F ro' L' => ∃ (G1 : GrS) (G2 : GrS) (p : Nat) (M1 : List (Fin 8 × Nat × List Int)) (M2 : List (Fin 8 × Nat × List Int)) (q : Nat) (ks : List Int) (I1 : List Blk) (J1 : List Blk) (J2 : List Blk) (I2 : List Blk) (es3 : Array MapEntry) (clk3 : Nat) (es4 : Array MapEntry) (clk4 : Nat) (R2 : List Blk), (F = [(0, .pointer (some ⟨x, 0, none⟩)), (1, encA a), (2, encA b), (3, .int .i64 c)]) ∧ (ro = ro') ∧ (L' = R2 :: L) ∧ (R2 = relB 138 x mo es clk ((I1 ++ (p, .map es3 clk3) :: J1) ++ (q, .map es4 clk4) :: (J2 ++ I2))) ∧ (GrIS (G1 ++ (a, p, M1 ++ (b, q, ks) :: M2) :: G2) es clk ((I1 ++ (p, .map es3 clk3) :: J1) ++ (q, .map es4 clk4) :: (J2 ++ I2))) ∧ (MapE encA (omg (M1 ++ (b, q, ks) :: M2)) es3 clk3) ∧ (MapE encZ (im ks) es4 clk4) ∧ (∀ ks2 es5 clk5, MapE encZ (im ks2) es5 clk5 → InG encA encZ (G1 ++ (a, p, M1 ++ (b, q, ks2) :: M2) :: G2) ((I1 ++ (p, .map es3 clk3) :: J1) ++ (q, .map es5 clk5) :: (J2 ++ I2))) ∧ ((addF (addF N a) b).Perm (nds (G1 ++ (a, p, M1 ++ (b, q, ks) :: M2) :: G2)))) ?_ ?_
  · skip
    refine seq ?_
    refine region ?_
    refine op (y (x_move rfl) rfl ?_)
    refine op (y (x_nilPtr rfl) rfl ?_)
    refine op (y (x_fieldAddr fo_138_0 rfl) rfl ?_)
    refine op (y (x_load1 ag_135 rfl (Cell.blk hroot rfl)) rfl ?_)
    refine op (y (x_move rfl) rfl ?_)
    refine op (y (x_lookupV Try.underlying135 kA zc_136 rfl rfl hmap hA.outer (by rw [mget_omg hnd, hlk])) rfl ?_)
    refine op (y (x_move rfl) rfl ?_)
    refine op (y (x_lookupV Try.underlying136 kA zc_110 rfl rfl (hin _ (by simp)) hE3 (mget_omg hMn.1 b)) rfl ?_)
    refine op (y (x_mapNil Try.underlying110 rfl rfl) rfl ?_)
    refine nil ?_
    refine n_then ?_
    refine cond rfl (fun h3 => ?_) (fun h3 => ?_)
    · try simp only [decide_eq_true_eq, decide_eq_false_iff_not, beq_iff_eq, bne_iff_ne, ne_eq, beq_eq_false_iff_ne, bne_eq_false_iff_eq, Bool.not_eq_true', Bool.not_eq_false', Bool.not_eq_true, Bool.not_eq_false, Decidable.not_not, Int.not_lt, Int.not_le] at h3
      have hnb : b ∉ M.map (·.1) := lkg_none.1 h3
      refine region ?_
      refine op (y (x_move rfl) rfl ?_)
      refine op (y (x_nilPtr rfl) rfl ?_)
      refine op (y (x_fieldAddr fo_138_0 rfl) rfl ?_)
      refine op (y (x_load1 ag_135 rfl (Cell.blk hroot rfl)) rfl ?_)
      refine op (y (x_move rfl) rfl ?_)
      refine op (y (x_lookupV Try.underlying135 kA zc_136 rfl rfl hmap hA.outer (by rw [mget_omg hnd, hlk])) rfl ?_)
      refine op (y (x_move rfl) rfl ?_)
      refine op (e_makeMap rfl fun b32 => ?_)
      rw [hRB]
      refine swap0 ?_
      refine splitI (S := [(x, .cells [.map (some mo)].toArray 138 (0, 0)), (mo, .map es clk)]) (I1 := I1) (I2 := J ++ I2) ?_
      refine op (e_mapSet 0 Try.underlying136 kA rfl rfl rfl rfl hE3 (fun _ _ => rfl) fun es5 clk5 hE5 => ?_)
      rw [mset_omg hnb ([] : List Int)] at hE5
      refine nil ?_
      refine subL (relB 138 x mo es clk ((I1 ++ (p, .map es5 clk5) :: J) ++ (b32, .map #[] 0) :: ([] ++ I2)) :: L) ⟨_, newJ (S := [(x, .cells [.map (some mo)].toArray 138 (0, 0)), (mo, .map es clk)]), .refl _⟩ ?_
      have hU5 : ∀ ks2 es6 clk6, MapE encZ (im ks2) es6 clk6 → InG encA encZ (G1 ++ (a, p, M ++ (b, b32, ks2) :: []) :: G2) ((I1 ++ (p, .map es5 clk5) :: J) ++ (b32, .map es6 clk6) :: ([] ++ I2)) := fun ks2 es6 clk6 h6 => by
        have h7 := hU (M ++ [(b, b32, ks2)]) es5 clk5 (J ++ [(b32, .map es6 clk6)]) (by
          have e9 : omg (M ++ [(b, b32, ks2)]) = omg (M ++ [(b, b32, ([] : List Int))]) := by simp [omg]
          rw [e9]; exact hE5) (hJ.snoc h6)
        simpa using h7
      exact mid [(0, .pointer (some ⟨x, 0, none⟩)), (1, encA a), (2, encA b), (3, .int .i64 c)] ⟨rfl, rfl, rfl, rfl, trivial⟩ ⟨G1, G2, p, M, [], b32, [], I1, J, [], I2, es5, clk5, #[], 0, _, rfl, rfl, rfl, rfl, ⟨by rw [← omg_upd M]; exact hA.outer, hU5 _ _ _ MapE.empty, fun g hg => by
          rcases List.mem_append.1 hg with hg | hg
          · exact hA.okk g (by simp [hg])
          · rcases List.mem_cons.1 hg with rfl | hg
            · refine ⟨trivial, fun h hh => ?_⟩
              rcases List.mem_append.1 hh with hh | hh
              · exact (hA.okk _ hm).2 h hh
              · rw [List.mem_singleton.1 hh]; exact ⟨trivial, by simp⟩
            · exact hA.okk g (by simp [hg])⟩, hE5, MapE.empty, hU5, by simpa [nds] using hN⟩
    · try simp only [decide_eq_true_eq, decide_eq_false_iff_not, beq_iff_eq, bne_iff_ne, ne_eq, beq_eq_false_iff_ne, bne_eq_false_iff_eq, Bool.not_eq_true', Bool.not_eq_false', Bool.not_eq_true, Bool.not_eq_false, Decidable.not_not, Int.not_lt, Int.not_le] at h3
      refine skip ?_
      obtain ⟨q, hq⟩ : ∃ q, lkg M b = some q := by
        cases hl : lkg M b with
        | none => rw [hl] at h3; simp at h3
        | some q => exact ⟨q, rfl⟩
      obtain ⟨ks, hmb⟩ := lkg_some hq
      obtain ⟨M1, M2, J1, J2, es4, clk4, rfl, rfl, hE4, hV⟩ := hJ.split hmb
      have hIe : ∀ z : Blk, I1 ++ (p, .map es3 clk3) :: ((J1 ++ z :: J2) ++ I2) = (I1 ++ (p, .map es3 clk3) :: J1) ++ z :: (J2 ++ I2) := fun z => by simp
      rw [hIe] at hRB hA
      exact mid [(0, .pointer (some ⟨x, 0, none⟩)), (1, encA a), (2, encA b), (3, .int .i64 c)] ⟨rfl, rfl, rfl, rfl, trivial⟩ ⟨G1, G2, p, M1, M2, q, ks, I1, J1, J2, I2, es3, clk3, es4, clk4, R2, rfl, rfl, rfl, hRB, hA, hE3, hE4, fun ks2 es5 clk5 h5 => by rw [← hIe]; exact hU _ _ _ _ (by rw [← omg_upd ks]; exact hE3) (hV _ _ _ h5), hN⟩
  · rintro F ro' L' ⟨G1, G2, p, M1, M2, q, ks, I1, J1, J2, I2, es3, clk3, es4, clk4, R2, rfl, rfl, rfl, hRB2, hA2, hE3, hE4, hU, hN2⟩
    have hroot2 := relB_root hRB2 (L := R2 :: L) (by simp)
    have hmap2 := relB_map hRB2 (L := R2 :: L) (by simp)
    have hin2 := relB_in hRB2 (L := R2 :: L) (by simp)
    have hnd2 := hA2.nodup
    have hm2 : (a, p, M1 ++ (b, q, ks) :: M2) ∈ G1 ++ (a, p, M1 ++ (b, q, ks) :: M2) :: G2 := by simp
    have hlk2 := lkg_of hnd2 hm2
    have hMn2 := hA2.inner.mnodup _ hm2
    have hmb2 : (b, q, ks) ∈ M1 ++ (b, q, ks) :: M2 := by simp
    have hlb2 := lkg_of hMn2.1 hmb2
    have hks := hMn2.2 _ hmb2
    refine seq ?_
    refine region ?_
    refine op (y (x_move rfl) rfl ?_)
    refine op (y (x_nilPtr rfl) rfl ?_)
    refine op (y (x_fieldAddr fo_138_0 rfl) rfl ?_)
    refine op (y (x_load1 ag_135 rfl (Cell.blk hroot2 rfl)) rfl ?_)
    refine op (y (x_move rfl) rfl ?_)
    refine op (y (x_lookupV Try.underlying135 kA zc_136 rfl rfl hmap2 hA2.outer (by rw [mget_omg hnd2, hlk2])) rfl ?_)
    refine op (y (x_move rfl) rfl ?_)
    refine op (y (x_lookupV Try.underlying136 kA zc_110 rfl rfl (hin2 _ (by simp)) hE3 (by rw [mget_omg hMn2.1, hlb2])) rfl ?_)
    refine op (y (x_move rfl) rfl ?_)
    refine op (y (x_lookupV Try.underlying110 kI zc_4 rfl rfl (hin2 _ (by simp)) hE4 (mget_im hks)) rfl ?_)
    refine op (y (x_not rfl) rfl ?_)
    refine op (y (x_assign rfl) rfl ?_)
    refine nil ?_
    refine n_then ?_
    refine seq ?_
    refine region ?_
    refine op (y (x_move rfl) rfl ?_)
    refine op (y (x_nilPtr rfl) rfl ?_)
    refine op (y (x_fieldAddr fo_138_0 rfl) rfl ?_)
    refine op (y (x_load1 ag_135 rfl (Cell.blk hroot2 rfl)) rfl ?_)
    refine op (y (x_move rfl) rfl ?_)
    refine op (y (x_lookupV Try.underlying135 kA zc_136 rfl rfl hmap2 hA2.outer (by rw [mget_omg hnd2, hlk2])) rfl ?_)
    refine op (y (x_move rfl) rfl ?_)
    refine op (y (x_lookupV Try.underlying136 kA zc_110 rfl rfl (hin2 _ (by simp)) hE3 (by rw [mget_omg hMn2.1, hlb2])) rfl ?_)
    refine op (y (x_move rfl) rfl ?_)
    rw [hRB2]
    refine splitI (S := [(x, .cells [.map (some mo)].toArray 138 (0, 0)), (mo, .map es clk)]) (I1 := I1 ++ (p, .map es3 clk3) :: J1) (I2 := J2 ++ I2) ?_
    refine op (e_mapSet 0 Try.underlying110 kI rfl rfl rfl rfl hE4 (fun _ _ => rfl) fun es5 clk5 hE5 => ?_)
    rw [mset_im] at hE5
    refine nil ?_
    refine n_then ?_
    refine seq ?_
    refine region ?_
    refine op (y (x_move rfl) rfl ?_)
    refine op (y (x_assign rfl) rfl ?_)
    refine nil ?_
    refine n_then ?_
    refine ret ?_
    refine done rfl (.tmp rfl (.nil)) (Ro.le.refl _) (_ :: L) (⟨_, joinI (S := [(x, .cells [.map (some mo)].toArray 138 (0, 0)), (mo, .map es clk)]), .refl _⟩) (⟨_, ⟨G1 ++ (a, p, M1 ++ (b, q, if c ∈ ks then ks else ks ++ [c]) :: M2) :: G2, mo, es, clk, (I1 ++ (p, .map es3 clk3) :: J1) ++ (q, .map es5 clk5) :: (J2 ++ I2), rfl, ⟨?_, hU _ _ _ hE5, ?_⟩, ?_⟩, rfl, rfl⟩)
    · rw [← omg_upd (M1 ++ (b, q, ks) :: M2)]; exact hA2.outer
    · intro g hg
      rcases List.mem_append.1 hg with hg | hg
      · exact hA2.okk g (by simp [hg])
      · rcases List.mem_cons.1 hg with rfl | hg
        · refine ⟨trivial, fun h hh => ?_⟩
          have h9 := (hA2.okk _ hm2).2
          rcases List.mem_append.1 hh with hh | hh
          · exact h9 h (by simp [hh])
          · rcases List.mem_cons.1 hh with rfl | hh
            · refine ⟨trivial, fun k hk => ?_⟩
              have h8 := (h9 _ hmb2).2
              split at hk
              · exact h8 k hk
              · rcases List.mem_append.1 hk with hk | hk
                · exact h8 k hk
                · rw [List.mem_singleton.1 hk]; exact hc
            · exact h9 h (by simp [hh])
        · exact hA2.okk g (by simp [hg])
    · simpa [nds] using hN2

theorem TNodes_c (x : Nat) (N : List (Fin 8)) (R : List Blk) (ro : Ro) (L : List (List Blk)) (hR : RelT x N R) (hL : R ∈ L) :
    CT Try.prog 74 [.pointer (some ⟨x, 0, none⟩)].toArray ro L (PN 9 1 (encF fA) (srtF N) ro L) := by
  refine enter Try.func74 rfl Try.ntmps74 rfl ?_
  have hNn := hR.nodup
  obtain ⟨G, mo, es, clk, I, hRB, hA, hN⟩ := hR
  have hroot := relB_root hRB hL
  have hmap := relB_map hRB hL
  have hnd := hA.nodup
  have hse : srtF ((omg G).map (·.1)) = srtF N := sortedF_ext (srtF_sorted (by rw [omg_keys]; exact hnd)) (srtF_sorted hNn) (fun z => by rw [mem_srtF, mem_srtF, omg_keys]; exact hN.symm.mem_iff)
  have hgl : (omg G).length ≤ 1000000 := by
    have h1 := fin8_len hNn
    have := hN.length_eq
    simp [omg, nds] at this ⊢; omega
  refine seq ?_
  refine region ?_
  refine op (y (x_assign rfl) rfl ?_)
  refine nil ?_
  refine n_then ?_
  refine seq ?_
  refine region ?_
  refine op (y (x_move rfl) rfl ?_)
  refine op (y (x_nilPtr rfl) rfl ?_)
  refine op (y (x_fieldAddr fo_138_0 rfl) rfl ?_)
  refine op (y (x_load1 ag_135 rfl (Cell.blk hroot rfl)) rfl ?_)
  refine op (e_call rfl fn_103 rfl rfl (KeysGs_c _ _ _) fun v7 ro7 L7 hle7 hp7 => ?_)
  obtain ⟨bx, rfl, rfl, rfl⟩ := hp7
  refine op (e_call rfl fn_80 rfl rfl (SortedGs_c txtA (omg G) es clk bx mo _ _ hA.outer hgl (List.mem_cons_self) (List.mem_cons_of_mem _ hmap)) fun v8 ro8 L8 hle8 hp8 => ?_)
  obtain ⟨A, cap, R2, rfl, hO, rfl, rfl⟩ := hp8
  rw [hse] at hO ⊢
  refine op (y (x_assign rfl) rfl ?_)
  refine nil ?_
  refine n_then ?_
  refine ret ?_
  refine drop1 ?_
  exact done rfl (.tmp rfl (.nil)) (Ro.le.refl _) (_) (⟨_, .refl _, .refl _⟩) (⟨_, _, _, rfl, hO, rfl, rfl⟩)

theorem Letter_c (a : Int) (ro : Ro) (L : List (List Blk)) : CT Try.prog 73 [.int .i64 a].toArray ro L (PQ (encA ⟨kb a, kb_lt a⟩) ro L) := by
  refine enter Try.func73 rfl Try.ntmps73 rfl ?_
  have hkb := kb_lt a
  refine seq ?_
  refine region ?_
  refine op (y (x_assign rfl) rfl ?_)
  refine nil ?_
  refine n_then ?_
  refine seq ?_
  refine region ?_
  refine op (y (x_move rfl) rfl ?_)
  refine op (y (x_and rfl rfl ((kb a : Nat) : Int) (kb_wrap a)) rfl ?_)
  refine op (y (x_move rfl) rfl ?_)
  refine op (y (x_and rfl rfl ((kb a : Nat) : Int) (kb_wrap a)) rfl ?_)
  refine op (y (x_add rfl rfl _ (wr (by omega) (by omega))) rfl ?_)
  refine op (y ((x_sliceStr (s := abc) Try.underlying9 rfl rfl rfl (by omega) (by omega) (by show _ ≤ ((8 : Nat) : Int); omega)).as (v' := encA ⟨kb a, kb_lt a⟩) (by rw [show ((kb a : Nat) : Int).toNat = kb a from rfl, show (((kb a : Nat) : Int) + 1).toNat = kb a + 1 by omega]; exact congrArg Value.string (abc_at ⟨kb a, kb_lt a⟩))) rfl ?_)
  refine op (y (x_assign rfl) rfl ?_)
  refine nil ?_
  refine n_then ?_
  refine ret ?_
  exact done rfl (.tmp rfl (.nil)) (Ro.le.refl _) (L) (⟨_, .refl _, .refl _⟩) (⟨rfl, rfl, rfl⟩)

end Go.Proofs.Ytlmeblhcipkgmaa
