/- The walks of relations of numbers, the second part. -/
import Derived.Test.YtlmeblhcipkgmaaS6
namespace Go.Proofs.Ytlmeblhcipkgmaa
open Go Go.U
set_option maxRecDepth 20000
set_option linter.unusedSimpArgs false
set_option linter.unusedVariables false

open Go.RowKit
def BehF (S : List (Fin 16 × Fin 16)) (a : Fin 16) : List (Fin 16) := (List.finRange 16).filter (fun b => decide ((a, b) ∈ S))
theorem BehF_spec (S : List (Fin 16 × Fin 16)) (a : Fin 16) : (BehF S a).Pairwise (· < ·) ∧ (∀ x, x ∈ BehF S a ↔ (a, x) ∈ S) := by
  refine ⟨List.Pairwise.filter _ (by decide : (List.finRange 16).Pairwise (· < ·)), fun x => ?_⟩
  simp [BehF]
theorem nodupF_lt {l : List (Fin 16)} (h : l.Pairwise (· < ·)) : l.Nodup := h.imp (fun h => by omega)
theorem behind_keysT {x mo : Nat} {G : List (Fin 16 × Nat × List (Fin 16))} {es : Array MapEntry} {clk : Nat} {I : List Blk} {Kb : List Blk} (h : RelA encT okT 103 x G mo es clk I) (hin : ∀ q ∈ I, q ∈ Kb) (a : Fin 16) :
    ∃ ks : List (Fin 16), ((lkp G a = none ∧ ks = []) ∨ ∃ r es clk, lkp G a = some r ∧ (r, Obj.map es clk) ∈ Kb ∧ MapE encT (im ks) es clk) ∧ (∀ b, (a, b) ∈ prs G ↔ b ∈ ks) ∧ ks.Nodup ∧ ∀ k ∈ ks, okT k := by
  rcases h.cases a with ⟨h1, h2⟩ | ⟨p, ks, es', clk', h1, h2, h3, h4, h5⟩
  · exact ⟨[], .inl ⟨h1, rfl⟩, fun b => by simp [h2 b], by simp, by simp⟩
  · exact ⟨ks, .inr ⟨p, es', clk', h1, hin _ h3, h4⟩, h5, h.inner.nodup _ h2, (h.okk _ h2).2⟩
theorem srtF_eq {ks l : List (Fin 16)} (hn : ks.Nodup) (hl : l.Pairwise (· < ·)) (h : ∀ x, x ∈ ks ↔ x ∈ l) : srtF ks = l := sortedF_ext (srtF_sorted hn) hl (fun x => by rw [mem_srtF]; exact h x)
theorem len_prsT {S : List (Fin 16 × Fin 16)} {a : Fin 16} {ks : List (Fin 16)} (hn : ks.Nodup) (h : ∀ b ∈ ks, (a, b) ∈ S) : ks.length ≤ S.length := by
  have h1 : (ks.map (fun k => (a, k))).Nodup := by
    rw [List.Nodup, List.pairwise_map]; exact hn.imp (fun h e => h (by simpa using e))
  have := nodup_le h1 (fun p hp => by obtain ⟨k, hk, rfl⟩ := List.mem_map.1 hp; exact h k hk)
  simpa using this

theorem SBehind_c (x : Nat) (S : List (Fin 16 × Fin 16)) (R : List Blk) (ro : Ro) (L : List (List Blk)) (hR : RelS x S R) (hL : R ∈ L) (hn : S.length ≤ 1000000) (a : Fin 16) :
    CT Try.prog 79 [.pointer (some ⟨x, 0, none⟩), encT a].toArray ro L (PN 9 1 encFT (BehF S a) ro L) := by
  refine enter Try.func79 rfl Try.ntmps79 rfl ?_
  have hRP := hR
  obtain ⟨G, mo, es, clk, I, hRB, hA, hS, hGl⟩ := hR
  have hroot := relB_root hRB hL
  have hmap := relB_map hRB hL
  have hin := relB_in hRB hL
  have hnd := hA.nodup
  obtain ⟨ks, hks, hmem, hkn, hok⟩ := behind_keysT hA hin a
  have hmem2 : ∀ b, b ∈ ks ↔ (a, b) ∈ S := fun b => (hmem b).symm.trans hS.mem_iff.symm
  have hkl : ks.length ≤ S.length := len_prsT hkn (fun b hb => (hmem2 b).1 hb)
  have hse : srtF ks = BehF S a := srtF_eq hkn (BehF_spec S a).1 (fun y => (hmem2 y).trans ((BehF_spec S a).2 y).symm)
  refine seq ?_
  refine region ?_
  refine op (y (x_assign rfl) rfl ?_)
  refine nil ?_
  refine n_then ?_
  refine seq ?_
  refine region ?_
  refine op (y (x_move rfl) rfl ?_)
  refine op (y (x_nilPtr rfl) rfl ?_)
  refine op (y (x_fieldAddr fo_103_0 rfl) rfl ?_)
  refine op (y (x_load1 ag_101 rfl (Cell.blk hroot rfl)) rfl ?_)
  refine op (y (x_move rfl) rfl ?_)
  refine op (y (x_lookupV Try.underlying101 kS zc_104 rfl rfl hmap hA.outer (mget_om hnd a)) rfl ?_)
  refine op (e_call rfl fn_104 rfl rfl (KeysIs_c _ _ _) fun v11 ro11 L11 hle11 hp11 => ?_)
  obtain ⟨bx, rfl, rfl, rfl⟩ := hp11
  refine op (e_call rfl fn_80 rfl rfl (SortedBs_c txt16 ks _ bx _ _ (hks.imp id (fun ⟨r, e1, e2, e3, e4, e5⟩ => ⟨r, e1, e2, e3, List.mem_cons_of_mem _ e4, e5⟩)) (by omega) (List.mem_cons_self)) fun v12 ro12 L12 hle12 hp12 => ?_)
  obtain ⟨A, cap, R2, rfl, hO, rfl, rfl⟩ := hp12
  rw [hse] at hO ⊢
  refine op (y (x_assign rfl) rfl ?_)
  refine nil ?_
  refine n_then ?_
  refine ret ?_
  refine drop1 ?_
  exact done rfl (.tmp rfl (.nil)) (Ro.le.refl _) (_) (⟨_, .refl _, .refl _⟩) (⟨_, _, _, rfl, hO, rfl, rfl⟩)

end Go.Proofs.Ytlmeblhcipkgmaa
