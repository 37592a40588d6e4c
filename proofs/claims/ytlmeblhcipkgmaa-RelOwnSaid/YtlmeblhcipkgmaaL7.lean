/- The walk of the statement that lists and relations that are answered are new memory. -/
import Derived.Test.YtlmeblhcipkgmaaL3
import Derived.Test.YtlmeblhcipkgmaaU17
namespace Go.Proofs.Ytlmeblhcipkgmaa
open Go Go.U
set_option maxRecDepth 20000
set_option linter.unusedSimpArgs false
set_option linter.unusedVariables false

open Go.RowKit
theorem eq0 (n : Nat) : ((((n + 1 : Nat) : Int)) == 0) = false := by
  simp; omega

theorem RelOwn_c (l : List (Int × Int)) (A : Option Addr) (cap : Nat) (a b : Int) (ro : Ro) (L : List (List Blk)) (hl : Sl ro 2 encPair A cap l) (h64 : ∀ p ∈ l, I64 p.1 ∧ I64 p.2) (ha : I64 a) (hb : I64 b) :
    CT Try.prog 8 [.slice A l.length cap, .int .i64 a, .int .i64 b].toArray ro L (PV (.bool true) L) := by
  have hcap : l.length ≤ 9223372036854775807 := by have := hl.1; have := hl.2.1; unfold maxLen at this; omega
  refine enter Try.func8 rfl Try.ntmps8 rfl ?_
  refine seq ?_
  refine region ?_
  refine op (y (x_assign rfl) rfl ?_)
  refine nil ?_
  refine n_then ?_
  refine seq ?_
  refine region ?_
  refine op (e_call rfl fn_15 rfl rfl (First_c _ _) fun v20 ro20 L20 hle20 hp20 => ?_)
  obtain ⟨rfl, rfl⟩ := hp20
  have hl1 := hl.mono hle20
  refine op (y (x_assign rfl) rfl ?_)
  refine nil ?_
  refine n_then ?_
  refine seq ?_
  refine seq ?_
  refine region ?_
  refine op (y (x_move rfl) rfl ?_)
  refine op (y (x_not rfl) rfl ?_)
  refine nil ?_
  refine n_then ?_
  refine condF rfl ?_
  refine skip ?_
  refine n_then ?_
  refine seq ?_
  refine seq ?_
  refine region ?_
  refine op (y (x_move rfl) rfl ?_)
  refine op (y (x_lenSl sz_22 rfl) rfl ?_)
  refine op (y (x_gtr rfl rfl) rfl ?_)
  refine op (y (x_move rfl) rfl ?_)
  refine bsplit 26 rfl (fun g26 => ?_) (fun g26 => ?_)
  · try simp only [decide_eq_true_eq, decide_eq_false_iff_not, beq_iff_eq, bne_iff_ne, ne_eq, beq_eq_false_iff_ne, bne_eq_false_iff_eq, Bool.not_eq_true', Bool.not_eq_false', Bool.not_eq_true, Bool.not_eq_false, Decidable.not_not, Int.not_lt, Int.not_le] at g26
    refine opN rfl rfl rfl rfl ?_
    refine opN rfl rfl rfl rfl ?_
    refine op (y (x_pickT rfl rfl) rfl ?_)
    refine nil ?_
    refine n_then ?_
    refine condT rfl ?_
    refine seq ?_
    refine region ?_
    refine op (y (x_move rfl) rfl ?_)
    refine op (y (x_assign rfl) rfl ?_)
    refine nil ?_
    refine n_then ?_
    refine ret ?_
    refine r_then ?_
    exact done rfl (.tmp rfl (.nil)) (hle20) (L) (⟨_, .refl _, .refl _⟩) (⟨rfl, rfl⟩)
  · try simp only [decide_eq_true_eq, decide_eq_false_iff_not, beq_iff_eq, bne_iff_ne, ne_eq, beq_eq_false_iff_ne, bne_eq_false_iff_eq, Bool.not_eq_true', Bool.not_eq_false', Bool.not_eq_true, Bool.not_eq_false, Decidable.not_not, Int.not_lt, Int.not_le] at g26
    refine opG rfl rfl (y (x_move rfl) rfl ?_)
    refine opG rfl rfl (y (x_not rfl) rfl ?_)
    refine op (y (x_pickF rfl rfl) rfl ?_)
    refine nil ?_
    refine n_then ?_
    refine condF rfl ?_
    refine skip ?_
    refine n_then ?_
    refine seq ?_
    refine region ?_
    refine op (y (x_move rfl) rfl ?_)
    refine op (e_call rfl fn_16 rfl rfl (Made_c l A cap _ _ hl1 (by omega) h64) fun v33 ro33 L33 hle33 hp33 => ?_)
    obtain ⟨x, R, A2, cap22, rfl, hR, hm, hLL⟩ := hp33
    subst hLL
    obtain ⟨hs1, hs2, hs3⟩ := mk_spec l l.length (Nat.le_refl _)
    rw [List.take_length] at hs1 hs2 hs3
    have hml : (mk l).length ≤ 60 := by omega
    refine op (y (x_move rfl) rfl ?_)
    refine op (y (x_extract rfl rfl) rfl ?_)
    refine op (y (x_extract rfl rfl) rfl ?_)
    refine op (y (x_assign rfl) rfl ?_)
    refine op (y (x_assign rfl) rfl ?_)
    refine nil ?_
    refine n_then ?_
    refine seq ?_
    refine seq ?_
    refine region ?_
    refine op (y (x_move rfl) rfl ?_)
    refine op (y (x_ptrEqNil Try.underlying25 rfl rfl) rfl ?_)
    refine nil ?_
    refine n_then ?_
    refine condF rfl ?_
    refine skip ?_
    refine n_then ?_
    refine seq ?_
    refine region ?_
    refine op (y (x_move rfl) rfl ?_)
    refine op (e_call rfl fn_17 rfl rfl (RClosure_c x (mk l) R _ _ hR (List.mem_cons_self) (by omega)) fun v39 ro39 L39 hle39 hp39 => ?_)
    obtain ⟨x2, C, R2, rfl, hC, hfin, hCl, rfl, hLL⟩ := hp39
    subst hLL
    refine op (y (x_assign rfl) rfl ?_)
    refine nil ?_
    refine n_then ?_
    refine seq ?_
    refine seq ?_
    refine region ?_
    refine op (y (x_move rfl) rfl ?_)
    refine op (y (x_ptrEqNil Try.underlying25 rfl rfl) rfl ?_)
    refine nil ?_
    refine n_then ?_
    refine condF rfl ?_
    refine skip ?_
    refine n_then ?_
    refine seq ?_
    refine region ?_
    refine op (y (x_move rfl) rfl ?_)
    refine op (y (x_move rfl) rfl ?_)
    refine op (y (x_move rfl) rfl ?_)
    refine op (e_call rfl fn_37 rfl rfl (RAdd_c x2 C _ _ _ hC _ _ ha hb) fun v45 ro45 L45 hle45 hp45 => ?_)
    obtain ⟨rfl, R6, hC6, rfl, rfl⟩ := hp45
    refine drop0 ?_
    refine nil ?_
    refine n_then ?_
    refine seq ?_
    refine seq ?_
    refine region ?_
    refine op (y (x_assign rfl) rfl ?_)
    refine nil ?_
    refine n_then ?_
    refine block ?_
    refine loop (fun m F ro' L' => ∃ (rd : Nat), (m = 2 - rd) ∧ (F = [(1, .int .i64 a), (2, .int .i64 b), (7, .bool true), (8, .pointer (some ⟨x, 0, none⟩)), (9, .slice A2 (mk l).length cap22), (11, .int .i64 (rd : Nat))]) ∧ (L' = R :: L) ∧ (rd ≤ 2) ∧ (ro.le ro') ∧ (Sl ro' 2 encPair A2 cap22 (mk l))) (2 - 0) [(1, .int .i64 a), (2, .int .i64 b), (7, .bool true), (8, .pointer (some ⟨x, 0, none⟩)), (9, .slice A2 (mk l).length cap22), (11, .int .i64 (0 : Nat))] ⟨rfl, rfl, rfl, rfl, rfl, rfl, trivial⟩ ⟨0, rfl, rfl, rfl, by omega, hle20.trans hle33, hm⟩ ?_
    rintro m F ro' L' ⟨rd, rfl, rfl, rfl, hrd, hle, hm⟩
    refine seq ?_
    refine seq ?_
    refine region ?_
    refine op (y (x_move rfl) rfl ?_)
    refine op (y (x_lss rfl rfl) rfl ?_)
    refine nil ?_
    refine n_then ?_
    refine cond rfl (fun h14 => ?_) (fun h14 => ?_)
    · try simp only [decide_eq_true_eq, decide_eq_false_iff_not, beq_iff_eq, bne_iff_ne, ne_eq, beq_eq_false_iff_ne, bne_eq_false_iff_eq, Bool.not_eq_true', Bool.not_eq_false', Bool.not_eq_true, Bool.not_eq_false, Decidable.not_not, Int.not_lt, Int.not_le] at h14
      refine skip ?_
      refine n_then ?_
      refine seq ?_
      refine block ?_
      refine seq ?_
      refine region ?_
      refine op (y (x_move rfl) rfl ?_)
      refine op (e_call rfl fn_32 rfl rfl (RPairs_c x (mk l) R _ _ hR (by simp) (by omega)) fun v51 ro51 L51 hle51 hp51 => ?_)
      obtain ⟨pl, hps, hpp, A12, cap12, R51, rfl, hO12, hLL⟩ := hp51
      subst hLL
      have hn12 : pl.length ≤ 60 := by rw [hpp.length_eq]; omega
      generalize pl.length = n12 at *
      refine op (y (x_assign rfl) rfl ?_)
      refine nil ?_
      refine n_then ?_
      refine seq ?_
      refine region ?_
      refine op (y (x_move rfl) rfl ?_)
      refine op (y (x_move rfl) rfl ?_)
      refine op (e_call rfl fn_40 rfl rfl (RAhead_c x _ R _ _ hR (by simp) (by omega) b) fun v54 ro54 L54 hle54 hp54 => ?_)
      obtain ⟨A13, cap13, R54, rfl, hO13, rfl, rfl⟩ := hp54
      have hn13 : (AheadR (mk l) b).length ≤ 60 := by
        have h1 := nodup_le (nodup_lt (AheadR_spec (mk l) b).1) (m := (mk l).map (·.1)) (fun y hy => List.mem_map.2 ⟨_, ((AheadR_spec (mk l) b).2 y).1 hy, rfl⟩)
        simp at h1; omega
      generalize (AheadR (mk l) b).length = n13 at *
      refine op (y (x_assign rfl) rfl ?_)
      refine nil ?_
      refine n_then ?_
      refine seq ?_
      refine region ?_
      refine op (y (x_move rfl) rfl ?_)
      refine op (y (x_move rfl) rfl ?_)
      refine op (e_call rfl fn_42 rfl rfl (RBehind_c x _ R _ _ hR (by simp) (by omega) a) fun v57 ro57 L57 hle57 hp57 => ?_)
      obtain ⟨A14, cap14, R57, rfl, hO14, rfl, rfl⟩ := hp57
      have hn14 : (BehindR (mk l) a).length ≤ 60 := by
        have h1 := nodup_le (nodup_lt (BehindR_spec (mk l) a).1) (m := (mk l).map (·.2)) (fun y hy => List.mem_map.2 ⟨_, ((BehindR_spec (mk l) a).2 y).1 hy, rfl⟩)
        simp at h1; omega
      generalize (BehindR (mk l) a).length = n14 at *
      refine op (y (x_assign rfl) rfl ?_)
      refine nil ?_
      refine n_then ?_
      refine seq ?_
      refine seq ?_
      refine region ?_
      refine op (y (x_assign rfl) rfl ?_)
      refine nil ?_
      refine n_then ?_
      refine block ?_
      refine loop (fun m F ro' L' => ∃ (i : Nat) (xs : List Value) (Rp : List Blk), (m = n12 - i) ∧ (F = [(1, .int .i64 a), (2, .int .i64 b), (7, .bool true), (8, .pointer (some ⟨x, 0, none⟩)), (9, .slice A2 (mk l).length cap22), (11, .int .i64 (rd : Nat)), (12, .slice A12 n12 cap12), (13, .slice A13 n13 cap13), (14, .slice A14 n14 cap14), (15, .int .i64 (i : Nat))]) ∧ (ro51 = ro') ∧ (L' = R57 :: R54 :: Rp :: R :: L) ∧ (i ≤ n12) ∧ (OwnS 51 2 A12 n12 cap12 xs Rp)) (n12 - 0) [(1, .int .i64 a), (2, .int .i64 b), (7, .bool true), (8, .pointer (some ⟨x, 0, none⟩)), (9, .slice A2 (mk l).length cap22), (11, .int .i64 (rd : Nat)), (12, .slice A12 n12 cap12), (13, .slice A13 n13 cap13), (14, .slice A14 n14 cap14), (15, .int .i64 (0 : Nat))] ⟨rfl, rfl, rfl, rfl, rfl, rfl, rfl, rfl, rfl, rfl, trivial⟩ ⟨0, _, _, rfl, rfl, rfl, rfl, by omega, hO12⟩ ?_
      rintro m F ro' L' ⟨i, xs, Rp, rfl, rfl, rfl, rfl, hi, hOp⟩
      refine seq ?_
      refine seq ?_
      refine region ?_
      refine op (y (x_move rfl) rfl ?_)
      refine op (y (x_move rfl) rfl ?_)
      refine op (y (x_lenSl sz_48 rfl) rfl ?_)
      refine op (y (x_lss rfl rfl) rfl ?_)
      refine nil ?_
      refine n_then ?_
      refine cond rfl (fun h20 => ?_) (fun h20 => ?_)
      · try simp only [decide_eq_true_eq, decide_eq_false_iff_not, beq_iff_eq, bne_iff_ne, ne_eq, beq_eq_false_iff_ne, bne_eq_false_iff_eq, Bool.not_eq_true', Bool.not_eq_false', Bool.not_eq_true, Bool.not_eq_false, Decidable.not_not, Int.not_lt, Int.not_le] at h20
        refine skip ?_
        refine n_then ?_
        refine seq ?_
        refine block ?_
        have hi12 : i < n12 := by omega
        have hOp2 := hOp
        obtain ⟨bs, offs, curs, rfl, rfl, hcs, _⟩ := OwnS.at_ hOp (by omega)
        refine region ?_
        refine op (y (x_move rfl) rfl ?_)
        refine op (y (x_move rfl) rfl ?_)
        refine op (y (x_buildArr ba_51 rfl rfl) rfl ?_)
        refine op (y (x_indexNat sz_48 rfl rfl (by omega)) rfl ?_)
        refine op (e_storeS 2 rfl rfl ts_51 rfl rfl rfl rfl hOp2 (by simp; omega) (fun _ => rfl) fun R67 hO67 => ?_)
        refine nil ?_
        refine n_in ?_
        refine n_then ?_
        refine region ?_
        refine op (y (x_move rfl) rfl ?_)
        refine op (y (x_add rfl rfl _ (wr (by omega) (by omega))) rfl ?_)
        refine op (y (x_assign rfl) rfl ?_)
        refine nil ?_
        exact round (n12 - (i + 1)) [(1, .int .i64 a), (2, .int .i64 b), (7, .bool true), (8, .pointer (some ⟨x, 0, none⟩)), (9, .slice A2 (mk l).length cap22), (11, .int .i64 (rd : Nat)), (12, .slice _ n12 cap12), (13, .slice A13 n13 cap13), (14, .slice A14 n14 cap14), (15, .int .i64 ((i + 1) : Nat))] (by omega) ⟨rfl, rfl, rfl, rfl, rfl, rfl, rfl, rfl, rfl, rfl, trivial⟩ ⟨i + 1, _, _, rfl, rfl, rfl, rfl, by omega, hO67⟩
      · try simp only [decide_eq_true_eq, decide_eq_false_iff_not, beq_iff_eq, bne_iff_ne, ne_eq, beq_eq_false_iff_ne, bne_eq_false_iff_eq, Bool.not_eq_true', Bool.not_eq_false', Bool.not_eq_true, Bool.not_eq_false, Decidable.not_not, Int.not_lt, Int.not_le] at h20
        refine exit ?_
        refine e_then ?_
        refine e_then ?_
        refine e_in ?_
        refine n_then ?_
        refine seq ?_
        refine seq ?_
        refine region ?_
        refine op (y (x_assign rfl) rfl ?_)
        refine nil ?_
        refine n_then ?_
        refine block ?_
        refine loop (fun m F ro' L' => ∃ (i : Nat) (xs : List Value) (Rx : List Blk), (m = n13 - i) ∧ (F = [(1, .int .i64 a), (2, .int .i64 b), (7, .bool true), (8, .pointer (some ⟨x, 0, none⟩)), (9, .slice A2 (mk l).length cap22), (11, .int .i64 (rd : Nat)), (12, .slice A12 n12 cap12), (13, .slice A13 n13 cap13), (14, .slice A14 n14 cap14), (16, .int .i64 (i : Nat))]) ∧ (ro51 = ro') ∧ (L' = R57 :: Rx :: Rp :: R :: L) ∧ (i ≤ n13) ∧ (OwnS 3 1 A13 n13 cap13 xs Rx)) (n13 - 0) [(1, .int .i64 a), (2, .int .i64 b), (7, .bool true), (8, .pointer (some ⟨x, 0, none⟩)), (9, .slice A2 (mk l).length cap22), (11, .int .i64 (rd : Nat)), (12, .slice A12 n12 cap12), (13, .slice A13 n13 cap13), (14, .slice A14 n14 cap14), (16, .int .i64 (0 : Nat))] ⟨rfl, rfl, rfl, rfl, rfl, rfl, rfl, rfl, rfl, rfl, trivial⟩ ⟨0, _, _, rfl, rfl, rfl, rfl, by omega, hO13⟩ ?_
        rintro m F ro' L' ⟨i, xs, Rx, rfl, rfl, rfl, rfl, hi, hOx⟩
        refine seq ?_
        refine seq ?_
        refine region ?_
        refine op (y (x_move rfl) rfl ?_)
        refine op (y (x_move rfl) rfl ?_)
        refine op (y (x_lenSl sz_23 rfl) rfl ?_)
        refine op (y (x_lss rfl rfl) rfl ?_)
        refine nil ?_
        refine n_then ?_
        refine cond rfl (fun h24 => ?_) (fun h24 => ?_)
        · try simp only [decide_eq_true_eq, decide_eq_false_iff_not, beq_iff_eq, bne_iff_ne, ne_eq, beq_eq_false_iff_ne, bne_eq_false_iff_eq, Bool.not_eq_true', Bool.not_eq_false', Bool.not_eq_true, Bool.not_eq_false, Decidable.not_not, Int.not_lt, Int.not_le] at h24
          refine skip ?_
          refine n_then ?_
          refine seq ?_
          refine block ?_
          have hi13 : i < n13 := by omega
          have hOx2 := hOx
          obtain ⟨bs, offs, curs, rfl, rfl, hcs, _⟩ := OwnS.at_ hOx (by omega)
          refine region ?_
          refine op (y (x_move rfl) rfl ?_)
          refine op (y (x_move rfl) rfl ?_)
          refine op (y (x_indexNat sz_23 rfl rfl (by omega)) rfl ?_)
          refine op (e_storeS 1 rfl rfl ts_3 rfl rfl rfl rfl hOx2 (by simp; omega) (fun _ => rfl) fun R76 hO76 => ?_)
          refine nil ?_
          refine n_in ?_
          refine n_then ?_
          refine region ?_
          refine op (y (x_move rfl) rfl ?_)
          refine op (y (x_add rfl rfl _ (wr (by omega) (by omega))) rfl ?_)
          refine op (y (x_assign rfl) rfl ?_)
          refine nil ?_
          exact round (n13 - (i + 1)) [(1, .int .i64 a), (2, .int .i64 b), (7, .bool true), (8, .pointer (some ⟨x, 0, none⟩)), (9, .slice A2 (mk l).length cap22), (11, .int .i64 (rd : Nat)), (12, .slice A12 n12 cap12), (13, .slice _ n13 cap13), (14, .slice A14 n14 cap14), (16, .int .i64 ((i + 1) : Nat))] (by omega) ⟨rfl, rfl, rfl, rfl, rfl, rfl, rfl, rfl, rfl, rfl, trivial⟩ ⟨i + 1, _, _, rfl, rfl, rfl, rfl, by omega, hO76⟩
        · try simp only [decide_eq_true_eq, decide_eq_false_iff_not, beq_iff_eq, bne_iff_ne, ne_eq, beq_eq_false_iff_ne, bne_eq_false_iff_eq, Bool.not_eq_true', Bool.not_eq_false', Bool.not_eq_true, Bool.not_eq_false, Decidable.not_not, Int.not_lt, Int.not_le] at h24
          refine exit ?_
          refine e_then ?_
          refine e_then ?_
          refine e_in ?_
          refine n_then ?_
          refine seq ?_
          refine seq ?_
          refine region ?_
          refine op (y (x_assign rfl) rfl ?_)
          refine nil ?_
          refine n_then ?_
          refine block ?_
          refine loop (fun m F ro' L' => ∃ (i : Nat) (xs : List Value) (Ry : List Blk), (m = n14 - i) ∧ (F = [(1, .int .i64 a), (2, .int .i64 b), (7, .bool true), (8, .pointer (some ⟨x, 0, none⟩)), (9, .slice A2 (mk l).length cap22), (11, .int .i64 (rd : Nat)), (12, .slice A12 n12 cap12), (13, .slice A13 n13 cap13), (14, .slice A14 n14 cap14), (17, .int .i64 (i : Nat))]) ∧ (ro51 = ro') ∧ (L' = Ry :: Rx :: Rp :: R :: L) ∧ (i ≤ n14) ∧ (OwnS 3 1 A14 n14 cap14 xs Ry)) (n14 - 0) [(1, .int .i64 a), (2, .int .i64 b), (7, .bool true), (8, .pointer (some ⟨x, 0, none⟩)), (9, .slice A2 (mk l).length cap22), (11, .int .i64 (rd : Nat)), (12, .slice A12 n12 cap12), (13, .slice A13 n13 cap13), (14, .slice A14 n14 cap14), (17, .int .i64 (0 : Nat))] ⟨rfl, rfl, rfl, rfl, rfl, rfl, rfl, rfl, rfl, rfl, trivial⟩ ⟨0, _, _, rfl, rfl, rfl, rfl, by omega, hO14⟩ ?_
          rintro m F ro' L' ⟨i, xs, Ry, rfl, rfl, rfl, rfl, hi, hOy⟩
          refine seq ?_
          refine seq ?_
          refine region ?_
          refine op (y (x_move rfl) rfl ?_)
          refine op (y (x_move rfl) rfl ?_)
          refine op (y (x_lenSl sz_23 rfl) rfl ?_)
          refine op (y (x_lss rfl rfl) rfl ?_)
          refine nil ?_
          refine n_then ?_
          refine cond rfl (fun h28 => ?_) (fun h28 => ?_)
          · try simp only [decide_eq_true_eq, decide_eq_false_iff_not, beq_iff_eq, bne_iff_ne, ne_eq, beq_eq_false_iff_ne, bne_eq_false_iff_eq, Bool.not_eq_true', Bool.not_eq_false', Bool.not_eq_true, Bool.not_eq_false, Decidable.not_not, Int.not_lt, Int.not_le] at h28
            refine skip ?_
            refine n_then ?_
            refine seq ?_
            refine block ?_
            have hi14 : i < n14 := by omega
            have hOy2 := hOy
            obtain ⟨bs, offs, curs, rfl, rfl, hcs, _⟩ := OwnS.at_ hOy (by omega)
            refine region ?_
            refine op (y (x_move rfl) rfl ?_)
            refine op (y (x_move rfl) rfl ?_)
            refine op (y (x_indexNat sz_23 rfl rfl (by omega)) rfl ?_)
            refine op (e_storeS 0 rfl rfl ts_3 rfl rfl rfl rfl hOy2 (by simp; omega) (fun _ => rfl) fun R85 hO85 => ?_)
            refine nil ?_
            refine n_in ?_
            refine n_then ?_
            refine region ?_
            refine op (y (x_move rfl) rfl ?_)
            refine op (y (x_add rfl rfl _ (wr (by omega) (by omega))) rfl ?_)
            refine op (y (x_assign rfl) rfl ?_)
            refine nil ?_
            exact round (n14 - (i + 1)) [(1, .int .i64 a), (2, .int .i64 b), (7, .bool true), (8, .pointer (some ⟨x, 0, none⟩)), (9, .slice A2 (mk l).length cap22), (11, .int .i64 (rd : Nat)), (12, .slice A12 n12 cap12), (13, .slice A13 n13 cap13), (14, .slice _ n14 cap14), (17, .int .i64 ((i + 1) : Nat))] (by omega) ⟨rfl, rfl, rfl, rfl, rfl, rfl, rfl, rfl, rfl, rfl, trivial⟩ ⟨i + 1, _, _, rfl, rfl, rfl, rfl, by omega, hO85⟩
          · try simp only [decide_eq_true_eq, decide_eq_false_iff_not, beq_iff_eq, bne_iff_ne, ne_eq, beq_eq_false_iff_ne, bne_eq_false_iff_eq, Bool.not_eq_true', Bool.not_eq_false', Bool.not_eq_true, Bool.not_eq_false, Decidable.not_not, Int.not_lt, Int.not_le] at h28
            refine exit ?_
            refine e_then ?_
            refine e_then ?_
            refine e_in ?_
            refine n_then ?_
            refine seq ?_
            refine region ?_
            refine op (y (x_move rfl) rfl ?_)
            refine op (y (x_buildArr ba_51 rfl rfl) rfl ?_)
            refine op (e_slice1 rfl Try.underlying48 ti_51 rfl rfl (by decide) (by decide) rfl rfl rfl fun b88 => ?_)
            refine op (e_append1 2 rfl st_48 rfl rfl rfl hOp rfl rfl (by omega) (by omega) (fun _ => rfl) fun A89 cap89 R89 hO89 => ?_)
            refine op (y (x_assign rfl) rfl ?_)
            refine nil ?_
            refine n_then ?_
            refine seq ?_
            refine region ?_
            refine op (y (x_move rfl) rfl ?_)
            refine op (e_slice1 rfl Try.underlying23 ti_3 rfl rfl (by decide) (by decide) rfl rfl rfl fun b91 => ?_)
            refine op (e_append1 1 rfl st_23 rfl rfl rfl hOx rfl rfl (by omega) (by omega) (fun _ => rfl) fun A92 cap92 R92 hO92 => ?_)
            refine op (y (x_assign rfl) rfl ?_)
            refine nil ?_
            refine n_then ?_
            refine seq ?_
            refine region ?_
            refine op (y (x_move rfl) rfl ?_)
            refine op (e_slice1 rfl Try.underlying23 ti_3 rfl rfl (by decide) (by decide) rfl rfl rfl fun b94 => ?_)
            refine op (e_append1 0 rfl st_23 rfl rfl rfl hOy rfl rfl (by omega) (by omega) (fun _ => rfl) fun A95 cap95 R95 hO95 => ?_)
            refine op (y (x_assign rfl) rfl ?_)
            refine nil ?_
            refine n_then ?_
            refine seq ?_
            refine region ?_
            refine op (y (x_move rfl) rfl ?_)
            refine op (y (x_lenSl sz_48 rfl) rfl ?_)
            refine op (y ((x_eql rfl rfl).as (v' := .bool false) (by rw [eq0])) rfl ?_)
            refine op (y (x_move rfl) rfl ?_)
            refine opG rfl rfl (y (x_move rfl) rfl ?_)
            refine opG rfl rfl (y (x_lenSl sz_23 rfl) rfl ?_)
            refine opG rfl rfl (y ((x_eql rfl rfl).as (v' := .bool false) (by rw [eq0])) rfl ?_)
            refine op (y (x_pickF rfl rfl) rfl ?_)
            refine op (y (x_move rfl) rfl ?_)
            refine opG rfl rfl (y (x_move rfl) rfl ?_)
            refine opG rfl rfl (y (x_lenSl sz_23 rfl) rfl ?_)
            refine opG rfl rfl (y ((x_eql rfl rfl).as (v' := .bool false) (by rw [eq0])) rfl ?_)
            refine op (y (x_pickF rfl rfl) rfl ?_)
            refine nil ?_
            refine n_then ?_
            refine condF rfl ?_
            refine skip ?_
            refine n_in ?_
            refine n_then ?_
            refine region ?_
            refine op (y (x_move rfl) rfl ?_)
            refine op (y (x_add rfl rfl _ (wr (by omega) (by omega))) rfl ?_)
            refine op (y (x_assign rfl) rfl ?_)
            refine nil ?_
            refine drop0 ?_
            refine drop0 ?_
            refine drop0 ?_
            exact round (2 - (rd + 1)) [(1, .int .i64 a), (2, .int .i64 b), (7, .bool true), (8, .pointer (some ⟨x, 0, none⟩)), (9, .slice _ (mk l).length cap22), (11, .int .i64 ((rd + 1) : Nat))] (by omega) ⟨rfl, rfl, rfl, rfl, rfl, rfl, trivial⟩ ⟨rd + 1, rfl, rfl, rfl, by omega, hle.trans hle51, hm.mono hle51⟩
    · try simp only [decide_eq_true_eq, decide_eq_false_iff_not, beq_iff_eq, bne_iff_ne, ne_eq, beq_eq_false_iff_ne, bne_eq_false_iff_eq, Bool.not_eq_true', Bool.not_eq_false', Bool.not_eq_true, Bool.not_eq_false, Decidable.not_not, Int.not_lt, Int.not_le] at h14
      refine exit ?_
      refine e_then ?_
      refine e_then ?_
      refine e_in ?_
      refine n_then ?_
      refine seq ?_
      refine region ?_
      refine op (y (x_move rfl) rfl ?_)
      refine op (y (x_move rfl) rfl ?_)
      refine op (e_call rfl fn_40 rfl rfl (RAhead_c x _ R _ _ hR (by simp) (by omega) b) fun v111 ro111 L111 hle111 hp111 => ?_)
      obtain ⟨A9, cap9, R9, rfl, hO9, rfl, rfl⟩ := hp111
      refine ufreeze fun ro91 hle91 hR91 => ?_
      have hS9 := OwnS.sl hO9 (fun _ _ => rfl) hR91
      refine op (y (x_move rfl) rfl ?_)
      refine op (y (x_move rfl) rfl ?_)
      refine op (e_call rfl fn_41 rfl rfl (AheadR_c (mk l) A2 cap22 b _ _ (hm.mono hle91) (by omega)) fun v114 ro114 L114 hle114 hp114 => ?_)
      obtain ⟨A10, cap10, rfl, hO10, rfl⟩ := hp114
      refine op (e_call rfl fn_39 rfl rfl (SameInts_c _ A9 cap9 _ A10 cap10 _ _ (hS9.mono hle114) hO10) fun v115 ro115 L115 hle115 hp115 => ?_)
      obtain ⟨rfl, rfl, rfl⟩ := hp115
      rw [decide_eq_true rfl]
      refine op (y (x_assign rfl) rfl ?_)
      refine nil ?_
      refine n_then ?_
      refine seq ?_
      refine region ?_
      refine op (y (x_move rfl) rfl ?_)
      refine op (y (x_move rfl) rfl ?_)
      refine op (e_call rfl fn_42 rfl rfl (RBehind_c x _ R _ _ hR (by simp) (by omega) a) fun v118 ro118 L118 hle118 hp118 => ?_)
      obtain ⟨A11, cap11, R11, rfl, hO11, rfl, rfl⟩ := hp118
      refine ufreeze fun ro98 hle98 hR98 => ?_
      have hS11 := OwnS.sl hO11 (fun _ _ => rfl) hR98
      refine op (y (x_move rfl) rfl ?_)
      refine op (y (x_move rfl) rfl ?_)
      refine op (e_call rfl fn_43 rfl rfl (BehindR_c (mk l) A2 cap22 a _ _ (((hm.mono hle91).mono hle114).mono hle98) (by omega)) fun v121 ro121 L121 hle121 hp121 => ?_)
      obtain ⟨A15, cap15, rfl, hO15, rfl⟩ := hp121
      refine op (e_call rfl fn_39 rfl rfl (SameInts_c _ A11 cap11 _ A15 cap15 _ _ (hS11.mono hle121) hO15) fun v122 ro122 L122 hle122 hp122 => ?_)
      obtain ⟨rfl, rfl, rfl⟩ := hp122
      rw [decide_eq_true rfl]
      have hm6 := (((hm.mono hle91).mono hle114).mono hle98).mono hle121
      refine op (y (x_assign rfl) rfl ?_)
      refine nil ?_
      refine n_then ?_
      refine seq ?_
      refine region ?_
      refine op (y (x_move rfl) rfl ?_)
      refine op (y (x_move rfl) rfl ?_)
      refine op (e_call rfl fn_20 rfl rfl (Is_c x (mk l) R (mk l) A2 cap22 _ _ hR (by simp) hm6 hs1 (.refl _) (by omega)) fun v125 ro125 L125 hle125 hp125 => ?_)
      obtain ⟨rfl, rfl⟩ := hp125
      refine op (y (x_move rfl) rfl ?_)
      refine opG rfl rfl (y (x_move rfl) rfl ?_)
      refine op (y (x_pickT rfl rfl) rfl ?_)
      refine op (y (x_move rfl) rfl ?_)
      refine opG rfl rfl (y (x_move rfl) rfl ?_)
      refine op (y (x_pickT rfl rfl) rfl ?_)
      refine op (y (x_assign rfl) rfl ?_)
      refine nil ?_
      refine n_then ?_
      refine ret ?_
      refine drop0 ?_
      exact done rfl (.tmp rfl (.nil)) ((hle.trans (hle91.trans hle114)).trans ((hle98.trans hle121).trans hle125)) (L) (⟨_, .refl _, .refl _⟩) (⟨rfl, rfl⟩)

end Go.Proofs.Ytlmeblhcipkgmaa
