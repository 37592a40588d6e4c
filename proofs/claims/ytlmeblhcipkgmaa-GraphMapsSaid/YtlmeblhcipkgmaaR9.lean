/- The walks of relations of numbers, the fourth part. -/
import Derived.Test.YtlmeblhcipkgmaaR8
namespace Go.Proofs.Ytlmeblhcipkgmaa
open Go Go.U
set_option maxRecDepth 20000
set_option linter.unusedSimpArgs false
set_option linter.unusedVariables false

open Go.RowKit
theorem measure_lt {n c t m : Nat} (hc : c + 1 ≤ n * n) (hm : m ≤ n) : (n * n - (c + 1)) * (n + 1) + (t + m) < (n * n - c) * (n + 1) + (t + 1) := by
  obtain ⟨d, hd⟩ : ∃ d, n * n - c = d + 1 := ⟨n * n - c - 1, by omega⟩
  rw [hd, show n * n - (c + 1) = d by omega, Nat.succ_mul]
  omega

theorem RClosure_c (x : Nat) (S : List (Int × Int)) (R : List Blk) (ro : Ro) (L : List (List Blk)) (hR : RelI x S R) (hL : R ∈ L) (hn : S.length ≤ 10000) :
    CT Try.prog 17 [.pointer (some ⟨x, 0, none⟩)].toArray ro L (fun v ro' L' => ∃ x2 C R2, v = .pointer (some ⟨x2, 0, none⟩) ∧ RelI x2 C R2 ∧ (∀ p, p ∈ C ↔ TG S p.1 p.2) ∧ C.length ≤ S.length * S.length ∧ ro = ro' ∧ L' = R2 :: L) := by
  refine enter Try.func17 rfl Try.ntmps17 rfl ?_
  have hRP := hR
  obtain ⟨G, mo, es, clk, I, hRB, hA, hS, hGl⟩ := hR
  have hroot := relB_root hRB hL
  have hmap := relB_map hRB hL
  have hin := relB_in hRB hL
  have hnd := hA.nodup
  have hI64 : ∀ c d, (c, d) ∈ S → I64 c ∧ I64 d := fun c d h => by
    obtain ⟨q, l, h1, h2⟩ := mem_prs.1 (hS.mem_iff.1 h)
    exact ⟨(hA.okk _ h1).1, (hA.okk _ h1).2 d h2⟩
  refine seq ?_
  refine region ?_
  refine op (y (x_assign rfl) rfl ?_)
  refine nil ?_
  refine n_then ?_
  refine seq ?_
  refine region ?_
  refine op (e_call rfl fn_35 rfl rfl (RNew_c _ _) fun v7 ro7 L7 hle7 hp7 => ?_)
  obtain ⟨x2, R2, rfl, hC, rfl, rfl⟩ := hp7
  refine op (y (x_assign rfl) rfl ?_)
  refine nil ?_
  refine n_then ?_
  refine seq ?_
  refine seq ?_
  refine region ?_
  refine op (y (x_move rfl) rfl ?_)
  refine op (y (x_nilPtr rfl) rfl ?_)
  refine op (y (x_fieldAddr fo_100_0 rfl) rfl ?_)
  refine op (y (x_load1 ag_98 rfl (Cell.blk (mem1 hroot) rfl)) rfl ?_)
  refine op (e_range rfl Try.underlying98 rfl (mem1 hmap) fun b12 => ?_)
  refine nil ?_
  refine n_then ?_
  refine block ?_
  refine loop (fun m F ro' L' => ∃ (Gs : List (Int × Nat × List Int)) (Gr : List (Int × Nat × List Int)) (rem : List (Int × Value)) (seen : Array Nat) (C : List (Int × Int)) (R2 : List Blk), (m = rem.length) ∧ (F = [(0, .pointer (some ⟨x, 0, none⟩)), (3, .pointer (some ⟨x2, 0, none⟩)), (12, .pointer (some ⟨b12, 0, none⟩))]) ∧ (ro = ro') ∧ (L' = [(b12, .mapIter (some mo) clk seen clk)] :: R2 :: L) ∧ (rem.Perm (om Gr)) ∧ ((Gs ++ Gr).Perm G) ∧ (IterM encZ es clk seen rem) ∧ (RelI x2 C R2) ∧ (QO S C (Gs.map (·.1)))) ((om G).length) [(0, .pointer (some ⟨x, 0, none⟩)), (3, .pointer (some ⟨x2, 0, none⟩)), (12, .pointer (some ⟨b12, 0, none⟩))] ⟨rfl, rfl, rfl, trivial⟩ ⟨[], G, om G, #[], [], _, rfl, rfl, rfl, rfl, .refl _, by simp, hA.outer.iter, hC, QO.init⟩ ?_
  rintro m F ro' L' ⟨Gs, Gr, rem, seen, C, R2, rfl, rfl, rfl, rfl, hrem, hG, hIt, hC, hQ⟩
  refine seq ?_
  refine region ?_
  refine op (e_next 0 rfl rfl rfl (mem1 (mem1 hmap)) (hA.outer) (hIt) (fun _ => rfl) (fun hend => ?_) (fun kk vv rem2 seen2 hrem2 hI2 hl2 => ?_))
  · skip
    refine op (y (x_extract rfl rfl) rfl ?_)
    refine nil ?_
    refine n_then ?_
    refine seq ?_
    refine condF rfl ?_
    refine exit ?_
    refine e_then ?_
    refine e_then ?_
    refine e_in ?_
    refine n_then ?_
    refine seq ?_
    refine region ?_
    refine op (y (x_move rfl) rfl ?_)
    refine op (y (x_assign rfl) rfl ?_)
    refine nil ?_
    refine n_then ?_
    refine ret ?_
    subst hend
    have hGr0 : Gr = [] := List.eq_nil_of_length_eq_zero (by have := hrem.length_eq; simpa [om] using this.symm)
    subst hGr0
    have hGp : Gs.Perm G := by simpa using hG
    have hfin := hQ.fin (fun c d h => by
      obtain ⟨q, l, h1, h2⟩ := mem_prs.1 (hS.mem_iff.1 h)
      exact List.mem_map.2 ⟨_, hGp.mem_iff.2 h1, rfl⟩)
    refine drop0 ?_
    exact done rfl (.tmp rfl (.nil)) (Ro.le.refl _) (_) (⟨_, .refl _, .refl _⟩) (⟨x2, C, R2, rfl, hC, hfin, clo_len hC.nodup hQ.snd, rfl, rfl⟩)
  · skip
    obtain ⟨p, ks, Gr2, hGr2, rfl, hrem3⟩ := next_om hrem hrem2
    have hG2 : (Gs ++ (kk, p, ks) :: Gr2).Perm G := (hGr2.symm.append_left Gs).trans hG
    have hG3 : ((Gs ++ [(kk, p, ks)]) ++ Gr2).Perm G := by simpa using hG2
    have hmg : (kk, p, ks) ∈ G := hG2.mem_iff.1 (by simp)
    have hrl : rem.length = rem2.length + 1 := by simpa using hrem2.length_eq
    have hkG : kk ∉ Gs.map (·.1) := by
      have h1 : ((Gs ++ (kk, p, ks) :: Gr2).map (·.1)).Nodup := (hG2.map _).nodup_iff.2 hnd
      rw [List.map_append, List.map_cons, List.nodup_append] at h1
      exact fun h => h1.2.2 kk h kk (by simp) rfl
    have hkI := (hA.okk _ hmg).1
    refine op (y (x_extract rfl rfl) rfl ?_)
    refine nil ?_
    refine n_then ?_
    refine seq ?_
    refine condT rfl ?_
    refine skip ?_
    refine n_then ?_
    refine block ?_
    refine seq ?_
    refine region ?_
    refine op (y (x_entry rfl (List.mem_cons_self) (mem1 (mem1 hmap)) hl2) rfl ?_)
    refine op (y (x_extract rfl rfl) rfl ?_)
    refine op (y (x_assign rfl) rfl ?_)
    refine nil ?_
    refine n_then ?_
    refine seq ?_
    refine region ?_
    refine op (y (x_move rfl) rfl ?_)
    refine op (y (x_move rfl) rfl ?_)
    refine op (e_call rfl fn_42 rfl rfl (RBehind_c x S R _ _ hRP (List.mem_cons_of_mem _ (List.mem_cons_of_mem _ hL)) (by omega) _) fun v19 ro19 L19 hle19 hp19 => ?_)
    obtain ⟨A5, cap5, R5, rfl, hT, rfl, rfl⟩ := hp19
    have hbl : (BehindR S kk).length ≤ S.length := len_prs (nodup_lt (BehindR_spec S kk).1) (fun b hb => ((BehindR_spec S kk).2 b).1 hb)
    refine op (y (x_assign rfl) rfl ?_)
    refine nil ?_
    refine n_then ?_
    refine block ?_
    refine pull 2 rfl rfl ?_
    refine loop (fun m F ro' L' => ∃ (C : List (Int × Int)) (R2 : List Blk) (todo : List Int) (A5 : Option Addr) (cap5 : Nat) (R5 : List Blk), (m = (S.length * S.length - C.length) * (S.length + 1) + todo.length) ∧ (F = [(0, .pointer (some ⟨x, 0, none⟩)), (3, .pointer (some ⟨x2, 0, none⟩)), (12, .pointer (some ⟨b12, 0, none⟩)), (4, .int .i64 kk), (5, .slice A5 todo.length cap5)]) ∧ (ro = ro') ∧ (L' = R2 :: R5 :: [(b12, .mapIter (some mo) clk seen2 clk)] :: L) ∧ (RelI x2 C R2) ∧ (QI S C (Gs.map (·.1)) kk todo) ∧ (OwnS 3 1 A5 todo.length cap5 (todo.flatMap encInt) R5) ∧ (todo.length ≤ (C.length + 1) * S.length)) ((S.length * S.length - C.length) * (S.length + 1) + ((BehindR S kk)).length) [(0, .pointer (some ⟨x, 0, none⟩)), (3, .pointer (some ⟨x2, 0, none⟩)), (12, .pointer (some ⟨b12, 0, none⟩)), (4, .int .i64 kk), (5, .slice _ ((BehindR S kk)).length _)] ⟨rfl, rfl, rfl, rfl, rfl, trivial⟩ ⟨C, _, (BehindR S kk), _, _, _, rfl, rfl, rfl, rfl, hC, hQ.start hkG (BehindR_spec S kk).2, hT, by rw [Nat.add_mul]; omega⟩ ?_
    rintro m F ro' L' ⟨C, R2, todo, A5, cap5, R5, rfl, rfl, rfl, rfl, hC, hQ, hT, htl⟩
    have hcl := clo_len hC.nodup hQ.snd
    have hnn : S.length * S.length ≤ 10000 * 10000 := Nat.mul_le_mul hn hn
    refine seq ?_
    refine seq ?_
    refine region ?_
    refine op (y (x_move rfl) rfl ?_)
    refine op (y (x_lenSl sz_23 rfl) rfl ?_)
    refine op (y (x_gtr rfl rfl) rfl ?_)
    refine nil ?_
    refine n_then ?_
    refine cond rfl (fun h6 => ?_) (fun h6 => ?_)
    · try simp only [decide_eq_true_eq, decide_eq_false_iff_not, beq_iff_eq, bne_iff_ne, ne_eq, beq_eq_false_iff_ne, bne_eq_false_iff_eq, Bool.not_eq_true', Bool.not_eq_false', Bool.not_eq_true, Bool.not_eq_false, Decidable.not_not, Int.not_lt, Int.not_le] at h6
      obtain ⟨y1, tl, rfl⟩ : ∃ y1 tl, todo = y1 :: tl := by
        cases todo with
        | nil => simp at h6
        | cons y1 tl => exact ⟨y1, tl, rfl⟩
      obtain ⟨b5, off5, cur5, rfl, rfl, y2, hy2, hc5⟩ := OwnS.intAt hT (k := 0) (by simp) rfl
      simp only [List.getElem?_cons_zero, Option.some.injEq] at hy2
      subst hy2
      have hT2 := OwnS.tail (v := .int .i64 y1) (xs := tl.flatMap encInt) hT
      have hyI : I64 y1 := by
        obtain ⟨q, h1, h2⟩ := List.mem_map.1 (hQ.tod y1 (by simp)).snd
        rw [← h2]; exact (hI64 q.1 q.2 h1).2
      have htl2 : tl.length + 1 ≤ (C.length + 1) * S.length := by simpa using htl
      have hcs : (C.length + 1) * S.length ≤ (10000 * 10000 + 1) * 10000 := Nat.mul_le_mul (by omega) hn
      refine skip ?_
      refine n_then ?_
      refine block ?_
      refine seq ?_
      refine region ?_
      refine op (y (x_move rfl) rfl ?_)
      refine op (y (x_indexNat (j := 0) sz_23 rfl rfl (by omega)) rfl ?_)
      refine op (y (x_load1 ag_3 rfl (Cell.own 1 rfl hc5)) rfl ?_)
      refine op (y (x_assign rfl) rfl ?_)
      refine nil ?_
      refine n_then ?_
      refine seq ?_
      refine region ?_
      refine op (y (x_move rfl) rfl ?_)
      refine op (y (x_sliceTl tl.length sz_23 rfl) rfl ?_)
      refine op (y (x_assign rfl) rfl ?_)
      refine nil ?_
      refine n_then ?_
      refine seq ?_
      refine region ?_
      refine op (y (x_move rfl) rfl ?_)
      refine op (y (x_move rfl) rfl ?_)
      refine op (y (x_move rfl) rfl ?_)
      refine op (e_call rfl fn_37 rfl rfl (RAdd_c x2 C _ _ _ hC _ _ hkI hyI) fun v31 ro31 L31 hle31 hp31 => ?_)
      obtain ⟨rfl, R6, hC6, rfl, rfl⟩ := hp31
      refine nil ?_
      refine n_then ?_
      refine cond rfl (fun h9 => ?_) (fun h9 => ?_)
      · try simp only [decide_eq_true_eq, decide_eq_false_iff_not, beq_iff_eq, bne_iff_ne, ne_eq, beq_eq_false_iff_ne, bne_eq_false_iff_eq, Bool.not_eq_true', Bool.not_eq_false', Bool.not_eq_true, Bool.not_eq_false, Decidable.not_not, Int.not_lt, Int.not_le] at h9
        refine region ?_
        refine op (y (x_move rfl) rfl ?_)
        refine op (y (x_move rfl) rfl ?_)
        refine op (y (x_move rfl) rfl ?_)
        refine op (e_call rfl fn_42 rfl rfl (RBehind_c x S R _ _ hRP (List.mem_cons_of_mem _ (List.mem_cons_of_mem _ (List.mem_cons_of_mem _ hL))) (by omega) _) fun v35 ro35 L35 hle35 hp35 => ?_)
        obtain ⟨A7, cap7, R7, rfl, hO7, rfl, rfl⟩ := hp35
        have hbl7 : (BehindR S y1).length ≤ S.length := len_prs (nodup_lt (BehindR_spec S y1).1) (fun b hb => ((BehindR_spec S y1).2 b).1 hb)
        refine op (e_append 2 rfl st_23 rfl rfl rfl hT2 (hO7.src (fun q hq => List.mem_append_left _ hq)) (int_ok _) (by omega) (by omega) (fun _ => rfl) fun A8 cap8 R8 hO8 => ?_)
        refine drop0 ?_
        refine op (y (x_assign rfl) rfl ?_)
        refine nil ?_
        refine n_in ?_
        have hQ2 := hQ.add (more := BehindR S y1) (BehindR_spec S y1).2
        have hadd : addP C (kk, y1) = (kk, y1) :: C := by rw [addP, if_neg h9]
        have hcl2 : C.length + 1 ≤ S.length * S.length := by
          have h := clo_len hC6.nodup hQ2.snd
          rw [hadd] at h; exact h
        rw [hadd] at hC6 hQ2
        rw [← List.flatMap_append, ← List.length_append] at hO8
        rw [← List.length_append]
        exact round ((S.length * S.length - (((kk, y1) :: C)).length) * (S.length + 1) + ((tl ++ BehindR S y1)).length) [(0, .pointer (some ⟨x, 0, none⟩)), (3, .pointer (some ⟨x2, 0, none⟩)), (12, .pointer (some ⟨b12, 0, none⟩)), (4, .int .i64 kk), (5, .slice _ ((tl ++ BehindR S y1)).length _)] (by simp only [List.length_append, List.length_cons]; exact measure_lt hcl2 hbl7) ⟨rfl, rfl, rfl, rfl, rfl, trivial⟩ ⟨((kk, y1) :: C), _, (tl ++ BehindR S y1), _, _, _, rfl, rfl, rfl, rfl, hC6, hQ2, hO8, by simp only [List.length_append, List.length_cons, Nat.add_mul] at htl2 ⊢; omega⟩
      · try simp only [decide_eq_true_eq, decide_eq_false_iff_not, beq_iff_eq, bne_iff_ne, ne_eq, beq_eq_false_iff_ne, bne_eq_false_iff_eq, Bool.not_eq_true', Bool.not_eq_false', Bool.not_eq_true, Bool.not_eq_false, Decidable.not_not, Int.not_lt, Int.not_le] at h9
        refine skip ?_
        refine n_in ?_
        have hadd : addP C (kk, y1) = C := by rw [addP, if_pos h9]
        rw [hadd] at hC6
        exact round ((S.length * S.length - C.length) * (S.length + 1) + tl.length) [(0, .pointer (some ⟨x, 0, none⟩)), (3, .pointer (some ⟨x2, 0, none⟩)), (12, .pointer (some ⟨b12, 0, none⟩)), (4, .int .i64 kk), (5, .slice _ tl.length _)] (by simp only [List.length_cons]; omega) ⟨rfl, rfl, rfl, rfl, rfl, trivial⟩ ⟨C, _, tl, _, _, _, rfl, rfl, rfl, rfl, hC6, hQ.skip h9, hT2, by omega⟩
    · try simp only [decide_eq_true_eq, decide_eq_false_iff_not, beq_iff_eq, bne_iff_ne, ne_eq, beq_eq_false_iff_ne, bne_eq_false_iff_eq, Bool.not_eq_true', Bool.not_eq_false', Bool.not_eq_true, Bool.not_eq_false, Decidable.not_not, Int.not_lt, Int.not_le] at h6
      refine exit ?_
      refine e_then ?_
      refine e_then ?_
      refine e_in ?_
      refine n_in ?_
      have ht0 : todo = [] := List.eq_nil_of_length_eq_zero (by omega)
      subst ht0
      have hQ3 := hQ.fin
      refine swap0 ?_
      refine drop0 ?_
      refine swap0 ?_
      exact round (rem2.length) [(0, .pointer (some ⟨x, 0, none⟩)), (3, .pointer (some ⟨x2, 0, none⟩)), (12, .pointer (some ⟨b12, 0, none⟩))] (by omega) ⟨rfl, rfl, rfl, trivial⟩ ⟨Gs ++ [(kk, p, ks)], Gr2, rem2, seen2, C, _, rfl, rfl, rfl, rfl, hrem3, hG3, hI2, hC, by rw [List.map_append]; exact hQ3⟩

theorem RCircle_c (x : Nat) (S : List (Int × Int)) (R : List Blk) (ro : Ro) (L : List (List Blk)) (hR : RelI x S R) (hL : R ∈ L) (hn : S.length ≤ 10000) :
    CT Try.prog 22 [.pointer (some ⟨x, 0, none⟩)].toArray ro L (PB (∃ a, TG S a a) L) := by
  refine enter Try.func22 rfl Try.ntmps22 rfl ?_
  refine seq ?_
  refine region ?_
  refine op (y (x_assign rfl) rfl ?_)
  refine nil ?_
  refine n_then ?_
  refine seq ?_
  refine region ?_
  refine op (y (x_move rfl) rfl ?_)
  refine op (e_call rfl fn_17 rfl rfl (RClosure_c x S R _ _ hR hL hn) fun v6 ro6 L6 hle6 hp6 => ?_)
  obtain ⟨x2, C, R2, rfl, hC, hfin, hCl, rfl, rfl⟩ := hp6
  have hCP := hC
  obtain ⟨G, mo, es, clk, I, hRB, hA, hS, hGl⟩ := hC
  have hroot := relB_root hRB (L := R2 :: L) (by simp)
  have hmap := relB_map hRB (L := R2 :: L) (by simp)
  have hnd := hA.nodup
  refine op (y (x_assign rfl) rfl ?_)
  refine nil ?_
  refine n_then ?_
  refine seq ?_
  refine seq ?_
  refine region ?_
  refine op (y (x_move rfl) rfl ?_)
  refine op (y (x_nilPtr rfl) rfl ?_)
  refine op (y (x_fieldAddr fo_100_0 rfl) rfl ?_)
  refine op (y (x_load1 ag_98 rfl (Cell.blk hroot rfl)) rfl ?_)
  refine op (e_range rfl Try.underlying98 rfl hmap fun b11 => ?_)
  refine nil ?_
  refine n_then ?_
  refine block ?_
  refine loop (fun m F ro' L' => ∃ (Gs : List (Int × Nat × List Int)) (Gr : List (Int × Nat × List Int)) (rem : List (Int × Value)) (seen : Array Nat), (m = rem.length) ∧ (F = [(3, .pointer (some ⟨x2, 0, none⟩)), (11, .pointer (some ⟨b11, 0, none⟩))]) ∧ (ro = ro') ∧ (L' = [(b11, .mapIter (some mo) clk seen clk)] :: R2 :: L) ∧ (rem.Perm (om Gr)) ∧ ((Gs ++ Gr).Perm G) ∧ (IterM encZ es clk seen rem) ∧ (∀ g ∈ Gs, (g.1, g.1) ∉ C)) ((om G).length) [(3, .pointer (some ⟨x2, 0, none⟩)), (11, .pointer (some ⟨b11, 0, none⟩))] ⟨rfl, rfl, trivial⟩ ⟨[], G, om G, #[], rfl, rfl, rfl, rfl, .refl _, by simp, hA.outer.iter, by simp⟩ ?_
  rintro m F ro' L' ⟨Gs, Gr, rem, seen, rfl, rfl, rfl, rfl, hrem, hG, hIt, hno⟩
  refine seq ?_
  refine region ?_
  refine op (e_next 0 rfl rfl rfl (mem1 hmap) (hA.outer) (hIt) (fun _ => rfl) (fun hend => ?_) (fun kk vv rem2 seen2 hrem2 hI2 hl2 => ?_))
  · skip
    refine op (y (x_extract rfl rfl) rfl ?_)
    refine nil ?_
    refine n_then ?_
    refine seq ?_
    refine condF rfl ?_
    refine exit ?_
    refine e_then ?_
    refine e_then ?_
    refine e_in ?_
    refine n_then ?_
    refine seq ?_
    refine region ?_
    refine op (y (x_assign rfl) rfl ?_)
    refine nil ?_
    refine n_then ?_
    refine ret ?_
    subst hend
    have hGr0 : Gr = [] := List.eq_nil_of_length_eq_zero (by have := hrem.length_eq; simpa [om] using this.symm)
    subst hGr0
    have hGp : Gs.Perm G := by simpa using hG
    refine drop0 ?_
    refine drop0 ?_
    exact done rfl (.tmp rfl (.nil)) (Ro.le.refl _) (L) (⟨_, .refl _, .refl _⟩) (⟨false, rfl, ⟨fun h => absurd h (by simp), fun ⟨a, t⟩ => by
        have h1 := (hfin (a, a)).2 t
        obtain ⟨q, l, h2, h3⟩ := mem_prs.1 (hS.mem_iff.1 h1)
        exact absurd h1 (hno _ (hGp.mem_iff.2 h2))⟩, rfl⟩)
  · skip
    obtain ⟨p, ks, Gr2, hGr2, rfl, hrem3⟩ := next_om hrem hrem2
    have hG2 : (Gs ++ (kk, p, ks) :: Gr2).Perm G := (hGr2.symm.append_left Gs).trans hG
    have hG3 : ((Gs ++ [(kk, p, ks)]) ++ Gr2).Perm G := by simpa using hG2
    have hmg : (kk, p, ks) ∈ G := hG2.mem_iff.1 (by simp)
    have hrl : rem.length = rem2.length + 1 := by simpa using hrem2.length_eq
    refine op (y (x_extract rfl rfl) rfl ?_)
    refine nil ?_
    refine n_then ?_
    refine seq ?_
    refine condT rfl ?_
    refine skip ?_
    refine n_then ?_
    refine block ?_
    refine seq ?_
    refine region ?_
    refine op (y (x_entry rfl (List.mem_cons_self) (mem1 hmap) hl2) rfl ?_)
    refine op (y (x_extract rfl rfl) rfl ?_)
    refine op (y (x_assign rfl) rfl ?_)
    refine nil ?_
    refine n_then ?_
    refine seq ?_
    refine region ?_
    refine op (y (x_move rfl) rfl ?_)
    refine op (y (x_move rfl) rfl ?_)
    refine op (y (x_move rfl) rfl ?_)
    refine op (e_call rfl fn_33 rfl rfl (RHas_c x2 C R2 _ _ hCP (List.mem_cons_of_mem _ (List.mem_cons_self)) kk kk) fun v19 ro19 L19 hle19 hp19 => ?_)
    obtain ⟨rfl, rfl, rfl⟩ := hp19
    refine nil ?_
    refine n_then ?_
    refine cond rfl (fun h5 => ?_) (fun h5 => ?_)
    · try simp only [decide_eq_true_eq, decide_eq_false_iff_not, beq_iff_eq, bne_iff_ne, ne_eq, beq_eq_false_iff_ne, bne_eq_false_iff_eq, Bool.not_eq_true', Bool.not_eq_false', Bool.not_eq_true, Bool.not_eq_false, Decidable.not_not, Int.not_lt, Int.not_le] at h5
      refine seq ?_
      refine region ?_
      refine op (y (x_assign rfl) rfl ?_)
      refine nil ?_
      refine n_then ?_
      refine ret ?_
      refine r_in ?_
      refine r_then ?_
      refine r_in ?_
      refine r_then ?_
      refine drop0 ?_
      refine drop0 ?_
      exact done rfl (.tmp rfl (.nil)) (Ro.le.refl _) (L) (⟨_, .refl _, .refl _⟩) (⟨true, rfl, ⟨fun _ => ⟨kk, (hfin _).1 h5⟩, fun _ => rfl⟩, rfl⟩)
    · try simp only [decide_eq_true_eq, decide_eq_false_iff_not, beq_iff_eq, bne_iff_ne, ne_eq, beq_eq_false_iff_ne, bne_eq_false_iff_eq, Bool.not_eq_true', Bool.not_eq_false', Bool.not_eq_true, Bool.not_eq_false, Decidable.not_not, Int.not_lt, Int.not_le] at h5
      refine skip ?_
      refine n_in ?_
      exact round (rem2.length) [(3, .pointer (some ⟨x2, 0, none⟩)), (11, .pointer (some ⟨b11, 0, none⟩))] (by omega) ⟨rfl, rfl, trivial⟩ ⟨Gs ++ [(kk, p, ks)], Gr2, rem2, seen2, rfl, rfl, rfl, rfl, hrem3, hG3, hI2, fun g hg => by
        rcases List.mem_append.1 hg with hg | hg
        · exact hno g hg
        · rw [List.mem_singleton.1 hg]; exact h5⟩

end Go.Proofs.Ytlmeblhcipkgmaa
