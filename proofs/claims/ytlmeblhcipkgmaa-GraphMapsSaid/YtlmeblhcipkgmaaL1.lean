/- What the statements of relations are made of: the program and the document side by side. -/
import Derived.Test.YtlmeblhcipkgmaaR9
namespace Go.Proofs.Ytlmeblhcipkgmaa
open Go Go.U
set_option maxRecDepth 20000
set_option linter.unusedSimpArgs false
set_option linter.unusedVariables false

open Go.RowKit
theorem putP_perm (l : List (Int × Int)) (p : Int × Int) : (putP l p).Perm (addP l p) := by
  unfold putP addP
  split
  · exact .refl _
  · have h : (l.takeWhile (fun x => ltP x p) ++ l.dropWhile (fun x => ltP x p)) = l := List.takeWhile_append_dropWhile
    have h2 := List.perm_middle (a := p) (l₁ := l.takeWhile (fun x => ltP x p)) (l₂ := l.dropWhile (fun x => ltP x p))
    rwa [h] at h2
theorem mem_putP {l : List (Int × Int)} {p q : Int × Int} : q ∈ putP l p ↔ q = p ∨ q ∈ l := (putP_perm l p).mem_iff.trans mem_addP
theorem mem_twP {f : Int × Int → Bool} : ∀ {l : List (Int × Int)} {x : Int × Int}, x ∈ l.takeWhile f → f x = true
  | a :: l, x, h => by
    rw [List.takeWhile_cons] at h
    split at h
    · rename_i hp
      rcases List.mem_cons.1 h with rfl | h
      · exact hp
      · exact mem_twP h
    · simp at h
theorem ltP_total {x p : Int × Int} (h : ltP x p = false) (hne : x ≠ p) : ltP p x = true := by
  obtain ⟨a, b⟩ := x
  obtain ⟨c, d⟩ := p
  have hne2 : ¬ (a = c ∧ b = d) := fun ⟨h1, h2⟩ => hne (by rw [h1, h2])
  simp [ltP] at *
  omega
theorem dwP_ge {p : Int × Int} : ∀ {l : List (Int × Int)}, SP l → ∀ x ∈ l.dropWhile (fun x => ltP x p), ltP x p = false
  | [], _, x, h => by simp at h
  | a :: l, hs, x, h => by
    unfold SP at hs
    rw [List.dropWhile_cons] at h
    rw [List.pairwise_cons] at hs
    split at h
    · exact dwP_ge hs.2 x h
    · rename_i hp
      have hp' : ltP a p = false := by simpa using hp
      rcases List.mem_cons.1 h with rfl | h
      · exact hp'
      · have h1 := hs.1 x h
        cases hx : ltP x p with
        | false => rfl
        | true =>
          have := ltP_trans h1 hx
          rw [hp'] at this; cases this
theorem SP_putP {l : List (Int × Int)} {p : Int × Int} (hs : SP l) : SP (putP l p) := by
  unfold putP
  split
  · exact hs
  · rename_i hne
    have hs' := hs
    unfold SP at hs ⊢
    rw [List.pairwise_append, List.pairwise_cons]
    have hgt : ∀ x ∈ l.dropWhile (fun x => ltP x p), ltP p x = true := fun x hx =>
      ltP_total (dwP_ge hs' x hx) (fun e => hne (by rw [← e]; exact (List.dropWhile_sublist _).subset hx))
    refine ⟨hs.sublist (List.takeWhile_sublist _), ⟨hgt, hs.sublist (List.dropWhile_sublist _)⟩, fun a ha b hb => ?_⟩
    have h1 := mem_twP ha
    rcases List.mem_cons.1 hb with rfl | hb
    · exact h1
    · exact ltP_trans h1 (hgt b hb)
theorem putP_len (l : List (Int × Int)) (p : Int × Int) : (putP l p).length ≤ l.length + 1 := by
  rw [(putP_perm l p).length_eq]; unfold addP; split <;> simp
def mk (l : List (Int × Int)) : List (Int × Int) := l.foldl putP []
theorem mk_snoc (l : List (Int × Int)) (p : Int × Int) : mk (l ++ [p]) = putP (mk l) p := by simp [mk]
theorem mk_take {l : List (Int × Int)} {k : Nat} {p : Int × Int} (h : l[k]? = some p) : mk (l.take (k + 1)) = putP (mk (l.take k)) p := by rw [take_snoc' h, mk_snoc]
theorem mk_spec (l : List (Int × Int)) : ∀ k, k ≤ l.length → SP (mk (l.take k)) ∧ (mk (l.take k)).length ≤ k ∧ ∀ p, p ∈ mk (l.take k) ↔ p ∈ l.take k := by
  intro k
  induction k with
  | zero => intro _; simp [mk, SP]
  | succ k ih =>
    intro hk
    obtain ⟨h1, h2, h3⟩ := ih (by omega)
    have hx := List.getElem?_eq_getElem (show k < l.length by omega)
    rw [mk_take hx]
    refine ⟨SP_putP h1, ?_, fun p => ?_⟩
    · have := putP_len (mk (l.take k)) l[k]; omega
    · rw [mem_putP, h3, take_snoc' hx, List.mem_append, List.mem_singleton]; exact Or.comm
/-- what made gives -/
def PM (l : List (Int × Int)) (L : List (List Blk)) : Value → Ro → List (List Blk) → Prop := fun v ro' L' => ∃ x R A cap, v = .tuple #[.pointer (some ⟨x, 0, none⟩), .slice A (mk l).length cap] ∧ RelI x (mk l) R ∧ Sl ro' 2 encPair A cap (mk l) ∧ L' = R :: L

theorem Made_c (l : List (Int × Int)) (A : Option Addr) (cap : Nat) (ro : Ro) (L : List (List Blk)) (hl : Sl ro 2 encPair A cap l) (hn : l.length ≤ 100) (h64 : ∀ p ∈ l, I64 p.1 ∧ I64 p.2) :
    CT Try.prog 16 [.slice A l.length cap].toArray ro L (PM l L) := by
  have hcap : l.length ≤ 9223372036854775807 := by have := hl.1; have := hl.2.1; unfold maxLen at this; omega
  refine enter Try.func16 rfl Try.ntmps16 rfl ?_
  refine seq ?_
  refine region ?_
  refine op (y (x_assign rfl) rfl ?_)
  refine op (y (x_assign rfl) rfl ?_)
  refine nil ?_
  refine n_then ?_
  refine seq ?_
  refine region ?_
  refine op (e_call rfl fn_35 rfl rfl (RNew_c _ _) fun v7 ro7 L7 hle7 hp7 => ?_)
  obtain ⟨x, R, rfl, hR, rfl, rfl⟩ := hp7
  refine op (y (x_assign rfl) rfl ?_)
  refine nil ?_
  refine n_then ?_
  refine seq ?_
  refine region ?_
  refine op (y (x_assign rfl) rfl ?_)
  refine nil ?_
  refine n_then ?_
  refine seq ?_
  refine seq ?_
  refine region ?_
  refine op (y (x_assign rfl) rfl ?_)
  refine nil ?_
  refine n_then ?_
  refine block ?_
  refine loop (fun m F ro' L' => ∃ (k : Nat) (R : List Blk) (A2 : Option Addr) (cap2 : Nat), (m = l.length - k) ∧ (F = [(0, .slice A l.length cap), (4, .pointer (some ⟨x, 0, none⟩)), (5, .slice A2 (mk (l.take k)).length cap2), (6, .int .i64 (k : Nat))]) ∧ (L' = R :: L) ∧ (k ≤ l.length) ∧ (ro.le ro') ∧ (Sl ro' 2 encPair A cap l) ∧ (RelI x (mk (l.take k)) R) ∧ (Sl ro' 2 encPair A2 cap2 (mk (l.take k)))) (l.length - 0) [(0, .slice A l.length cap), (4, .pointer (some ⟨x, 0, none⟩)), (5, .slice none (mk (l.take 0)).length 0), (6, .int .i64 (0 : Nat))] ⟨rfl, rfl, rfl, rfl, trivial⟩ ⟨0, _, none, 0, rfl, rfl, rfl, by omega, Ro.le.refl _, hl, hR, ⟨by simp [mk], by simp [maxLen], by simp [mk], fun h => absurd rfl h⟩⟩ ?_
  rintro m F ro' L' ⟨k, R, A2, cap2, rfl, rfl, rfl, hk, hle, hl, hR, hO⟩
  refine seq ?_
  refine seq ?_
  refine region ?_
  refine op (y (x_move rfl) rfl ?_)
  refine op (y (x_move rfl) rfl ?_)
  refine op (y (x_lenSl sz_22 rfl) rfl ?_)
  refine op (y (x_lss rfl rfl) rfl ?_)
  refine nil ?_
  refine n_then ?_
  refine cond rfl (fun h4 => ?_) (fun h4 => ?_)
  · try simp only [decide_eq_true_eq, decide_eq_false_iff_not, beq_iff_eq, bne_iff_ne, ne_eq, beq_eq_false_iff_ne, bne_eq_false_iff_eq, Bool.not_eq_true', Bool.not_eq_false', Bool.not_eq_true, Bool.not_eq_false, Decidable.not_not, Int.not_lt, Int.not_le] at h4
    refine skip ?_
    refine n_then ?_
    refine seq ?_
    refine block ?_
    refine seq ?_
    refine seq ?_
    obtain ⟨bbx, offx, rfl, hcx⟩ := hl.at_ (i := k) (by omega)
    have hx := List.getElem?_eq_getElem (show k < l.length from by omega)
    have cx0 := hcx k _ hx 0 _ rfl
    have cx1 := hcx k _ hx 1 _ rfl
    have h64x := h64 _ (List.mem_of_getElem? hx)
    obtain ⟨hs1, hs2, hs3⟩ := mk_spec l k hk
    have hmt := mk_take hx
    refine region ?_
    refine op (y (x_move rfl) rfl ?_)
    refine op (y (x_ptrNeNil Try.underlying25 rfl rfl) rfl ?_)
    refine nil ?_
    refine n_then ?_
    refine condT rfl ?_
    refine draw ([]) (by kernel_rfl) ?_
    refine d_take 0 rfl (by kernel_rfl) (by kernel_rfl) (by kernel_rfl) (fun _ _ _ h => h) rfl (.inl rfl) (x_move rfl) (fun w hi => J.of_le (Ro.le.refl _) (by simp) hi) ?_
    refine d_take 1 rfl (by kernel_rfl) (by kernel_rfl) (by kernel_rfl) (fun _ _ _ h => h) rfl (.inl rfl) (x_move rfl) (fun w hi => J.of_le (Ro.le.refl _) (by simp) hi) ?_
    refine d_take 2 rfl (by kernel_rfl) (by kernel_rfl) (by kernel_rfl) (fun _ _ _ h => h) rfl (.inl rfl) (x_move rfl) (fun w hi => J.of_le (Ro.le.refl _) (by simp) hi) ?_
    refine d_take 3 rfl (by kernel_rfl) (by kernel_rfl) (by kernel_rfl) (fun _ _ _ h => h) rfl (.inl rfl) (x_indexNat sz_22 rfl rfl (by omega)) (fun w hi => J.of_le (Ro.le.refl _) (by simp) hi) ?_
    refine d_take 4 rfl (by kernel_rfl) (by kernel_rfl) (by kernel_rfl) (fun _ _ _ h => h) rfl (.inl rfl) (x_fieldAddr fo_40_0 rfl) (fun w hi => J.of_le (Ro.le.refl _) (by simp) hi) ?_
    refine d_take 5 rfl (by kernel_rfl) (by kernel_rfl) (by kernel_rfl) (fun _ _ _ h => h) rfl (.inl rfl) (x_load1 ag_3 rfl (by first | assumption | exact Cell.own 0 rfl rfl | exact Cell.own 1 rfl rfl | exact Cell.own 2 rfl rfl | exact Cell.own 3 rfl rfl | exact Cell.own 4 rfl rfl | exact Cell.own 5 rfl rfl | exact Cell.ofRo (by assumption))) (fun w hi => J.of_le (Ro.le.refl _) (by simp) hi) ?_
    refine d_take 6 rfl (by kernel_rfl) (by kernel_rfl) (by kernel_rfl) (fun _ _ _ h => h) rfl (.inl rfl) (x_move rfl) (fun w hi => J.of_le (Ro.le.refl _) (by simp) hi) ?_
    refine d_take 7 rfl (by kernel_rfl) (by kernel_rfl) (by kernel_rfl) (fun _ _ _ h => h) rfl (.inl rfl) (x_move rfl) (fun w hi => J.of_le (Ro.le.refl _) (by simp) hi) ?_
    refine d_take 8 rfl (by kernel_rfl) (by kernel_rfl) (by kernel_rfl) (fun _ _ _ h => h) rfl (.inl rfl) (x_indexNat sz_22 rfl rfl (by omega)) (fun w hi => J.of_le (Ro.le.refl _) (by simp) hi) ?_
    refine d_take 9 rfl (by kernel_rfl) (by kernel_rfl) (by kernel_rfl) (fun _ _ _ h => h) rfl (.inl rfl) (x_fieldAddr fo_40_1 rfl) (fun w hi => J.of_le (Ro.le.refl _) (by simp) hi) ?_
    refine d_take 10 rfl (by kernel_rfl) (by kernel_rfl) (by kernel_rfl) (fun _ _ _ h => h) rfl (.inl rfl) (x_load1 ag_3 rfl (by first | assumption | exact Cell.own 0 rfl rfl | exact Cell.own 1 rfl rfl | exact Cell.own 2 rfl rfl | exact Cell.own 3 rfl rfl | exact Cell.own 4 rfl rfl | exact Cell.own 5 rfl rfl | exact Cell.ofRo (by assumption))) (fun w hi => J.of_le (Ro.le.refl _) (by simp) hi) ?_
    refine d_one 11 rfl (by kernel_rfl) (.inl rfl) (e_call rfl fn_37 rfl rfl (RAdd_c x _ _ _ _ hR _ _ h64x.1 h64x.2) fun v27 ro27 L27 hle27 hp27 => ?_)
    obtain ⟨rfl, R2, hR2, rfl, rfl⟩ := hp27
    have hR3 := hR2.perm (putP_perm _ _)
    rw [← hmt] at hR3
    refine d_next (fun w hi => J.of_le (Ro.le.refl _) (by simp) hi) ?_
    refine d_end (by kernel_rfl) ?_
    refine n_then ?_
    refine draw ([]) (by kernel_rfl) ?_
    refine d_take 0 rfl (by kernel_rfl) (by kernel_rfl) (by kernel_rfl) (fun _ _ _ h => h) rfl (.inl rfl) (x_move rfl) (fun w hi => J.of_le (by first | exact Ro.le.refl _ | assumption) (by simp) hi) ?_
    refine d_take 1 rfl (by kernel_rfl) (by kernel_rfl) (by kernel_rfl) (fun _ _ _ h => h) rfl (.inl rfl) (x_move rfl) (fun w hi => J.of_le (by first | exact Ro.le.refl _ | assumption) (by simp) hi) ?_
    refine d_take 2 rfl (by kernel_rfl) (by kernel_rfl) (by kernel_rfl) (fun _ _ _ h => h) rfl (.inl rfl) (x_move rfl) (fun w hi => J.of_le (by first | exact Ro.le.refl _ | assumption) (by simp) hi) ?_
    refine d_take 3 rfl (by kernel_rfl) (by kernel_rfl) (by kernel_rfl) (fun _ _ _ h => h) rfl (.inl rfl) (x_indexNat sz_22 rfl rfl (by omega)) (fun w hi => J.of_le (by first | exact Ro.le.refl _ | assumption) (by simp) hi) ?_
    refine d_take 4 rfl (by kernel_rfl) (by kernel_rfl) (by kernel_rfl) (fun _ _ _ h => h) rfl (.inl rfl) (x_fieldAddr fo_40_0 rfl) (fun w hi => J.of_le (by first | exact Ro.le.refl _ | assumption) (by simp) hi) ?_
    refine d_take 5 rfl (by kernel_rfl) (by kernel_rfl) (by kernel_rfl) (fun _ _ _ h => h) rfl (.inl rfl) (x_load1 ag_3 rfl (by first | assumption | exact Cell.own 0 rfl rfl | exact Cell.own 1 rfl rfl | exact Cell.own 2 rfl rfl | exact Cell.own 3 rfl rfl | exact Cell.own 4 rfl rfl | exact Cell.own 5 rfl rfl | exact Cell.ofRo (by assumption))) (fun w hi => J.of_le (by first | exact Ro.le.refl _ | assumption) (by simp) hi) ?_
    refine d_take 6 rfl (by kernel_rfl) (by kernel_rfl) (by kernel_rfl) (fun _ _ _ h => h) rfl (.inl rfl) (x_move rfl) (fun w hi => J.of_le (by first | exact Ro.le.refl _ | assumption) (by simp) hi) ?_
    refine d_take 7 rfl (by kernel_rfl) (by kernel_rfl) (by kernel_rfl) (fun _ _ _ h => h) rfl (.inl rfl) (x_move rfl) (fun w hi => J.of_le (by first | exact Ro.le.refl _ | assumption) (by simp) hi) ?_
    refine d_take 8 rfl (by kernel_rfl) (by kernel_rfl) (by kernel_rfl) (fun _ _ _ h => h) rfl (.inl rfl) (x_indexNat sz_22 rfl rfl (by omega)) (fun w hi => J.of_le (by first | exact Ro.le.refl _ | assumption) (by simp) hi) ?_
    refine d_take 9 rfl (by kernel_rfl) (by kernel_rfl) (by kernel_rfl) (fun _ _ _ h => h) rfl (.inl rfl) (x_fieldAddr fo_40_1 rfl) (fun w hi => J.of_le (by first | exact Ro.le.refl _ | assumption) (by simp) hi) ?_
    refine d_take 10 rfl (by kernel_rfl) (by kernel_rfl) (by kernel_rfl) (fun _ _ _ h => h) rfl (.inl rfl) (x_load1 ag_3 rfl (by first | assumption | exact Cell.own 0 rfl rfl | exact Cell.own 1 rfl rfl | exact Cell.own 2 rfl rfl | exact Cell.own 3 rfl rfl | exact Cell.own 4 rfl rfl | exact Cell.own 5 rfl rfl | exact Cell.ofRo (by assumption))) (fun w hi => J.of_le (by first | exact Ro.le.refl _ | assumption) (by simp) hi) ?_
    refine d_one 11 rfl (by kernel_rfl) (.inl rfl) (e_call rfl fn_38 rfl rfl (Put_c _ A2 cap2 _ _ _ _ hO (by omega)) fun v39 ro39 L39 hle39 hp39 => ?_)
    obtain ⟨A3, cap3, rfl, hO3, rfl⟩ := hp39
    rw [← hmt] at hO3 ⊢
    refine d_next (fun w hi => J.of_le (by first | exact Ro.le.refl _ | assumption) (by simp) hi) ?_
    refine d_take 12 rfl (by kernel_rfl) (by kernel_rfl) (by kernel_rfl) (fun _ _ _ h => h) rfl (.inl rfl) (x_assign rfl) (fun w hi => J.of_le (by first | exact Ro.le.refl _ | assumption) (by simp) hi) ?_
    refine d_end (by kernel_rfl) ?_
    refine n_in ?_
    refine n_then ?_
    refine region ?_
    refine op (y (x_move rfl) rfl ?_)
    refine op (y (x_add rfl rfl _ (wr (by omega) (by omega))) rfl ?_)
    refine op (y (x_assign rfl) rfl ?_)
    refine nil ?_
    exact round (l.length - (k + 1)) [(0, .slice _ l.length cap), (4, .pointer (some ⟨x, 0, none⟩)), (5, .slice _ (mk (l.take (k + 1))).length _), (6, .int .i64 ((k + 1) : Nat))] (by omega) ⟨rfl, rfl, rfl, rfl, trivial⟩ ⟨k + 1, _, _, _, rfl, rfl, rfl, by omega, hle.trans hle39, hl.mono hle39, hR3, hO3⟩
  · try simp only [decide_eq_true_eq, decide_eq_false_iff_not, beq_iff_eq, bne_iff_ne, ne_eq, beq_eq_false_iff_ne, bne_eq_false_iff_eq, Bool.not_eq_true', Bool.not_eq_false', Bool.not_eq_true, Bool.not_eq_false, Decidable.not_not, Int.not_lt, Int.not_le] at h4
    refine exit ?_
    refine e_then ?_
    refine e_then ?_
    refine e_in ?_
    refine n_then ?_
    refine seq ?_
    refine region ?_
    refine op (y (x_move rfl) rfl ?_)
    refine op (y (x_move rfl) rfl ?_)
    refine op (y (x_assign rfl) rfl ?_)
    refine op (y (x_assign rfl) rfl ?_)
    refine nil ?_
    refine n_then ?_
    refine ret ?_
    obtain rfl : k = l.length := by omega
    rw [List.take_length] at *
    exact done rfl (.tmp rfl (.tmp rfl (.nil))) (hle) (_) (⟨_, .refl _, .refl _⟩) (⟨x, R, A2, cap2, rfl, hR, hO, rfl⟩)

theorem Is_c (x : Nat) (S : List (Int × Int)) (R : List Blk) (l : List (Int × Int)) (A : Option Addr) (cap : Nat) (ro : Ro) (L : List (List Blk)) (hR : RelI x S R) (hL : R ∈ L) (hl : Sl ro 2 encPair A cap l) (hs : SP l) (hp : S.Perm l) (hn : l.length ≤ 20000) :
    CT Try.prog 20 [.pointer (some ⟨x, 0, none⟩), .slice A l.length cap].toArray ro L (PV (.bool true) L) := by
  have hcap : l.length ≤ 9223372036854775807 := by have := hl.1; have := hl.2.1; unfold maxLen at this; omega
  refine enter Try.func20 rfl Try.ntmps20 rfl ?_
  refine seq ?_
  refine region ?_
  refine op (y (x_assign rfl) rfl ?_)
  refine nil ?_
  refine n_then ?_
  refine seq ?_
  refine seq ?_
  refine region ?_
  refine op (y (x_move rfl) rfl ?_)
  refine op (y (x_ptrEqNil Try.underlying25 rfl rfl) rfl ?_)
  refine nil ?_
  refine n_then ?_
  refine condF rfl ?_
  refine skip ?_
  refine n_then ?_
  refine seq ?_
  refine region ?_
  refine op (y (x_move rfl) rfl ?_)
  refine op (e_call rfl fn_32 rfl rfl (RPairs_c x S R _ _ hR hL (by rw [hp.length_eq]; omega)) fun v10 ro10 L10 hle10 hp10 => ?_)
  obtain ⟨p, hps, hpp, A2, cap2, R2, rfl, hO, hLL⟩ := hp10
  subst hLL
  obtain rfl : l = p := (hps.ext hs (fun q => hpp.mem_iff.trans hp.mem_iff)).symm
  refine ufreeze fun ro2 hle2 hR2 => ?_
  have hP := OwnS.sl hO (fun _ _ => rfl) hR2
  have hl2 := hl.mono (hle10.trans hle2)
  refine op (y (x_assign rfl) rfl ?_)
  refine nil ?_
  refine n_then ?_
  refine seq ?_
  refine seq ?_
  refine region ?_
  refine op (y (x_move rfl) rfl ?_)
  refine op (y (x_lenSl sz_48 rfl) rfl ?_)
  refine op (y (x_move rfl) rfl ?_)
  refine op (y (x_lenSl sz_26 rfl) rfl ?_)
  refine op (y ((x_neq rfl rfl).as (v' := .bool false) (by simp)) rfl ?_)
  refine op (y (x_move rfl) rfl ?_)
  refine opG rfl rfl (y (x_move rfl) rfl ?_)
  refine opG rfl rfl (e_call rfl fn_31 rfl rfl (RLen_c x S R _ _ hR hL (by rw [hp.length_eq]; omega)) fun v18 ro18 L18 hle18 hp18 => ?_)
  obtain ⟨rfl, rfl, rfl⟩ := hp18
  rw [hp.length_eq]
  refine opG rfl rfl (y (x_move rfl) rfl ?_)
  refine opG rfl rfl (y (x_lenSl sz_26 rfl) rfl ?_)
  refine opG rfl rfl (y ((x_neq rfl rfl).as (v' := .bool false) (by simp)) rfl ?_)
  refine op (y (x_pickF rfl rfl) rfl ?_)
  refine nil ?_
  refine n_then ?_
  refine condF rfl ?_
  refine skip ?_
  refine n_then ?_
  refine seq ?_
  refine seq ?_
  refine region ?_
  refine op (y (x_assign rfl) rfl ?_)
  refine nil ?_
  refine n_then ?_
  refine block ?_
  refine loop (fun m F ro' L' => ∃ (k : Nat), (m = l.length - k) ∧ (F = [(1, .slice A l.length cap), (5, .slice A2 l.length cap2), (6, .int .i64 (k : Nat))]) ∧ (ro2 = ro') ∧ (L = L') ∧ (k ≤ l.length)) (l.length - 0) [(1, .slice A l.length cap), (5, .slice A2 l.length cap2), (6, .int .i64 (0 : Nat))] ⟨rfl, rfl, rfl, trivial⟩ ⟨0, rfl, rfl, rfl, rfl, by omega⟩ ?_
  rintro m F ro' L' ⟨k, rfl, rfl, rfl, rfl, hk⟩
  refine seq ?_
  refine seq ?_
  refine region ?_
  refine op (y (x_move rfl) rfl ?_)
  refine op (y (x_move rfl) rfl ?_)
  refine op (y (x_lenSl sz_48 rfl) rfl ?_)
  refine op (y (x_lss rfl rfl) rfl ?_)
  refine nil ?_
  refine n_then ?_
  refine cond rfl (fun h7 => ?_) (fun h7 => ?_)
  · try simp only [decide_eq_true_eq, decide_eq_false_iff_not, beq_iff_eq, bne_iff_ne, ne_eq, beq_eq_false_iff_ne, bne_eq_false_iff_eq, Bool.not_eq_true', Bool.not_eq_false', Bool.not_eq_true, Bool.not_eq_false, Decidable.not_not, Int.not_lt, Int.not_le] at h7
    refine skip ?_
    refine n_then ?_
    refine seq ?_
    refine block ?_
    refine seq ?_
    obtain ⟨bbx, offx, rfl, hcx⟩ := hl2.at_ (i := k) (by omega)
    have hx := List.getElem?_eq_getElem (show k < l.length from by omega)
    have cx0 := hcx k _ hx 0 _ rfl
    have cx1 := hcx k _ hx 1 _ rfl
    obtain ⟨bbz, offz, rfl, hcz⟩ := hP.at_ (i := k) (by omega)
    have hz := List.getElem?_eq_getElem (show k < l.length from by omega)
    have cz0 := hcz k _ hz 0 _ rfl
    have cz1 := hcz k _ hz 1 _ rfl
    refine drawL (by kernel_rfl) ?_
    refine d_take 0 rfl (by kernel_rfl) (by kernel_rfl) (by kernel_rfl) (fun _ _ _ h => h) rfl (.inl rfl) (x_move rfl) (fun w hi => by first | exact hi.j | exact J.of_le (Ro.le.refl _) (fun x hx => List.mem_append_right _ hx) hi | exact J.of_le (Ro.le.refl _) (fun x hx => List.mem_append_right _ (List.mem_append_right _ hx)) hi | exact J.of_le (Ro.le.refl _) (fun x hx => absurd hx (by simp)) hi | exact J.of_le (by assumption) (fun x hx => absurd hx (by simp)) hi) ?_
    refine d_take 1 rfl (by kernel_rfl) (by kernel_rfl) (by kernel_rfl) (fun _ _ _ h => h) rfl (.inl rfl) (x_move rfl) (fun w hi => by first | exact hi.j | exact J.of_le (Ro.le.refl _) (fun x hx => List.mem_append_right _ hx) hi | exact J.of_le (Ro.le.refl _) (fun x hx => List.mem_append_right _ (List.mem_append_right _ hx)) hi | exact J.of_le (Ro.le.refl _) (fun x hx => absurd hx (by simp)) hi | exact J.of_le (by assumption) (fun x hx => absurd hx (by simp)) hi) ?_
    refine d_take 2 rfl (by kernel_rfl) (by kernel_rfl) (by kernel_rfl) (fun _ _ _ h => h) rfl (.inl rfl) (x_indexNat sz_48 rfl rfl (by omega)) (fun w hi => by first | exact hi.j | exact J.of_le (Ro.le.refl _) (fun x hx => List.mem_append_right _ hx) hi | exact J.of_le (Ro.le.refl _) (fun x hx => List.mem_append_right _ (List.mem_append_right _ hx)) hi | exact J.of_le (Ro.le.refl _) (fun x hx => absurd hx (by simp)) hi | exact J.of_le (by assumption) (fun x hx => absurd hx (by simp)) hi) ?_
    refine d_take 3 rfl (by kernel_rfl) (by kernel_rfl) (by kernel_rfl) (fun _ _ _ h => h) rfl (.inl rfl) (x_indexArrNat (j := 0) ar_51 rfl rfl (by decide)) (fun w hi => by first | exact hi.j | exact J.of_le (Ro.le.refl _) (fun x hx => List.mem_append_right _ hx) hi | exact J.of_le (Ro.le.refl _) (fun x hx => List.mem_append_right _ (List.mem_append_right _ hx)) hi | exact J.of_le (Ro.le.refl _) (fun x hx => absurd hx (by simp)) hi | exact J.of_le (by assumption) (fun x hx => absurd hx (by simp)) hi) ?_
    refine d_take 4 rfl (by kernel_rfl) (by kernel_rfl) (by kernel_rfl) (fun _ _ _ h => h) rfl (.inl rfl) (x_load1 ag_3 rfl (by first | assumption | exact Cell.own 0 rfl rfl | exact Cell.own 1 rfl rfl | exact Cell.own 2 rfl rfl | exact Cell.own 3 rfl rfl | exact Cell.own 4 rfl rfl | exact Cell.own 5 rfl rfl | exact Cell.ofRo (by assumption))) (fun w hi => by first | exact hi.j | exact J.of_le (Ro.le.refl _) (fun x hx => List.mem_append_right _ hx) hi | exact J.of_le (Ro.le.refl _) (fun x hx => List.mem_append_right _ (List.mem_append_right _ hx)) hi | exact J.of_le (Ro.le.refl _) (fun x hx => absurd hx (by simp)) hi | exact J.of_le (by assumption) (fun x hx => absurd hx (by simp)) hi) ?_
    refine d_take 5 rfl (by kernel_rfl) (by kernel_rfl) (by kernel_rfl) (fun _ _ _ h => h) rfl (.inl rfl) (x_move rfl) (fun w hi => by first | exact hi.j | exact J.of_le (Ro.le.refl _) (fun x hx => List.mem_append_right _ hx) hi | exact J.of_le (Ro.le.refl _) (fun x hx => List.mem_append_right _ (List.mem_append_right _ hx)) hi | exact J.of_le (Ro.le.refl _) (fun x hx => absurd hx (by simp)) hi | exact J.of_le (by assumption) (fun x hx => absurd hx (by simp)) hi) ?_
    refine d_take 6 rfl (by kernel_rfl) (by kernel_rfl) (by kernel_rfl) (fun _ _ _ h => h) rfl (.inl rfl) (x_move rfl) (fun w hi => by first | exact hi.j | exact J.of_le (Ro.le.refl _) (fun x hx => List.mem_append_right _ hx) hi | exact J.of_le (Ro.le.refl _) (fun x hx => List.mem_append_right _ (List.mem_append_right _ hx)) hi | exact J.of_le (Ro.le.refl _) (fun x hx => absurd hx (by simp)) hi | exact J.of_le (by assumption) (fun x hx => absurd hx (by simp)) hi) ?_
    refine d_take 7 rfl (by kernel_rfl) (by kernel_rfl) (by kernel_rfl) (fun _ _ _ h => h) rfl (.inl rfl) (x_indexNat sz_26 rfl rfl (by omega)) (fun w hi => by first | exact hi.j | exact J.of_le (Ro.le.refl _) (fun x hx => List.mem_append_right _ hx) hi | exact J.of_le (Ro.le.refl _) (fun x hx => List.mem_append_right _ (List.mem_append_right _ hx)) hi | exact J.of_le (Ro.le.refl _) (fun x hx => absurd hx (by simp)) hi | exact J.of_le (by assumption) (fun x hx => absurd hx (by simp)) hi) ?_
    refine d_take 8 rfl (by kernel_rfl) (by kernel_rfl) (by kernel_rfl) (fun _ _ _ h => h) rfl (.inl rfl) (x_fieldAddr fo_46_0 rfl) (fun w hi => by first | exact hi.j | exact J.of_le (Ro.le.refl _) (fun x hx => List.mem_append_right _ hx) hi | exact J.of_le (Ro.le.refl _) (fun x hx => List.mem_append_right _ (List.mem_append_right _ hx)) hi | exact J.of_le (Ro.le.refl _) (fun x hx => absurd hx (by simp)) hi | exact J.of_le (by assumption) (fun x hx => absurd hx (by simp)) hi) ?_
    refine d_take 9 rfl (by kernel_rfl) (by kernel_rfl) (by kernel_rfl) (fun _ _ _ h => h) rfl (.inl rfl) (x_load1 ag_3 rfl (by first | assumption | exact Cell.own 0 rfl rfl | exact Cell.own 1 rfl rfl | exact Cell.own 2 rfl rfl | exact Cell.own 3 rfl rfl | exact Cell.own 4 rfl rfl | exact Cell.own 5 rfl rfl | exact Cell.ofRo (by assumption))) (fun w hi => by first | exact hi.j | exact J.of_le (Ro.le.refl _) (fun x hx => List.mem_append_right _ hx) hi | exact J.of_le (Ro.le.refl _) (fun x hx => List.mem_append_right _ (List.mem_append_right _ hx)) hi | exact J.of_le (Ro.le.refl _) (fun x hx => absurd hx (by simp)) hi | exact J.of_le (by assumption) (fun x hx => absurd hx (by simp)) hi) ?_
    refine d_take 10 rfl (by kernel_rfl) (by kernel_rfl) (by kernel_rfl) (fun _ _ _ h => h) rfl (.inl rfl) ((x_neq rfl rfl).as (v' := .bool false) (by simp)) (fun w hi => by first | exact hi.j | exact J.of_le (Ro.le.refl _) (fun x hx => List.mem_append_right _ hx) hi | exact J.of_le (Ro.le.refl _) (fun x hx => List.mem_append_right _ (List.mem_append_right _ hx)) hi | exact J.of_le (Ro.le.refl _) (fun x hx => absurd hx (by simp)) hi | exact J.of_le (by assumption) (fun x hx => absurd hx (by simp)) hi) ?_
    refine d_take 11 rfl (by kernel_rfl) (by kernel_rfl) (by kernel_rfl) (fun _ _ _ h => h) rfl (.inl rfl) (x_move rfl) (fun w hi => by first | exact hi.j | exact J.of_le (Ro.le.refl _) (fun x hx => List.mem_append_right _ hx) hi | exact J.of_le (Ro.le.refl _) (fun x hx => List.mem_append_right _ (List.mem_append_right _ hx)) hi | exact J.of_le (Ro.le.refl _) (fun x hx => absurd hx (by simp)) hi | exact J.of_le (by assumption) (fun x hx => absurd hx (by simp)) hi) ?_
    refine d_take 12 rfl (by kernel_rfl) (by kernel_rfl) (by kernel_rfl) (fun _ _ _ h => h) rfl (.inr ⟨_, _, _, rfl, rfl, rfl⟩) (x_move rfl) (fun w hi => by first | exact hi.j | exact J.of_le (Ro.le.refl _) (fun x hx => List.mem_append_right _ hx) hi | exact J.of_le (Ro.le.refl _) (fun x hx => List.mem_append_right _ (List.mem_append_right _ hx)) hi | exact J.of_le (Ro.le.refl _) (fun x hx => absurd hx (by simp)) hi | exact J.of_le (by assumption) (fun x hx => absurd hx (by simp)) hi) ?_
    refine d_take 13 rfl (by kernel_rfl) (by kernel_rfl) (by kernel_rfl) (fun _ _ _ h => h) rfl (.inr ⟨_, _, _, rfl, rfl, rfl⟩) (x_move rfl) (fun w hi => by first | exact hi.j | exact J.of_le (Ro.le.refl _) (fun x hx => List.mem_append_right _ hx) hi | exact J.of_le (Ro.le.refl _) (fun x hx => List.mem_append_right _ (List.mem_append_right _ hx)) hi | exact J.of_le (Ro.le.refl _) (fun x hx => absurd hx (by simp)) hi | exact J.of_le (by assumption) (fun x hx => absurd hx (by simp)) hi) ?_
    refine d_take 14 rfl (by kernel_rfl) (by kernel_rfl) (by kernel_rfl) (fun _ _ _ h => h) rfl (.inr ⟨_, _, _, rfl, rfl, rfl⟩) (x_indexNat sz_48 rfl rfl (by omega)) (fun w hi => by first | exact hi.j | exact J.of_le (Ro.le.refl _) (fun x hx => List.mem_append_right _ hx) hi | exact J.of_le (Ro.le.refl _) (fun x hx => List.mem_append_right _ (List.mem_append_right _ hx)) hi | exact J.of_le (Ro.le.refl _) (fun x hx => absurd hx (by simp)) hi | exact J.of_le (by assumption) (fun x hx => absurd hx (by simp)) hi) ?_
    refine d_take 15 rfl (by kernel_rfl) (by kernel_rfl) (by kernel_rfl) (fun _ _ _ h => h) rfl (.inr ⟨_, _, _, rfl, rfl, rfl⟩) (x_indexArrNat (j := 1) ar_51 rfl rfl (by decide)) (fun w hi => by first | exact hi.j | exact J.of_le (Ro.le.refl _) (fun x hx => List.mem_append_right _ hx) hi | exact J.of_le (Ro.le.refl _) (fun x hx => List.mem_append_right _ (List.mem_append_right _ hx)) hi | exact J.of_le (Ro.le.refl _) (fun x hx => absurd hx (by simp)) hi | exact J.of_le (by assumption) (fun x hx => absurd hx (by simp)) hi) ?_
    refine d_take 16 rfl (by kernel_rfl) (by kernel_rfl) (by kernel_rfl) (fun _ _ _ h => h) rfl (.inr ⟨_, _, _, rfl, rfl, rfl⟩) (x_load1 ag_3 rfl (by first | assumption | exact Cell.own 0 rfl rfl | exact Cell.own 1 rfl rfl | exact Cell.own 2 rfl rfl | exact Cell.own 3 rfl rfl | exact Cell.own 4 rfl rfl | exact Cell.own 5 rfl rfl | exact Cell.ofRo (by assumption))) (fun w hi => by first | exact hi.j | exact J.of_le (Ro.le.refl _) (fun x hx => List.mem_append_right _ hx) hi | exact J.of_le (Ro.le.refl _) (fun x hx => List.mem_append_right _ (List.mem_append_right _ hx)) hi | exact J.of_le (Ro.le.refl _) (fun x hx => absurd hx (by simp)) hi | exact J.of_le (by assumption) (fun x hx => absurd hx (by simp)) hi) ?_
    refine d_take 17 rfl (by kernel_rfl) (by kernel_rfl) (by kernel_rfl) (fun _ _ _ h => h) rfl (.inr ⟨_, _, _, rfl, rfl, rfl⟩) (x_move rfl) (fun w hi => by first | exact hi.j | exact J.of_le (Ro.le.refl _) (fun x hx => List.mem_append_right _ hx) hi | exact J.of_le (Ro.le.refl _) (fun x hx => List.mem_append_right _ (List.mem_append_right _ hx)) hi | exact J.of_le (Ro.le.refl _) (fun x hx => absurd hx (by simp)) hi | exact J.of_le (by assumption) (fun x hx => absurd hx (by simp)) hi) ?_
    refine d_take 18 rfl (by kernel_rfl) (by kernel_rfl) (by kernel_rfl) (fun _ _ _ h => h) rfl (.inr ⟨_, _, _, rfl, rfl, rfl⟩) (x_move rfl) (fun w hi => by first | exact hi.j | exact J.of_le (Ro.le.refl _) (fun x hx => List.mem_append_right _ hx) hi | exact J.of_le (Ro.le.refl _) (fun x hx => List.mem_append_right _ (List.mem_append_right _ hx)) hi | exact J.of_le (Ro.le.refl _) (fun x hx => absurd hx (by simp)) hi | exact J.of_le (by assumption) (fun x hx => absurd hx (by simp)) hi) ?_
    refine d_take 19 rfl (by kernel_rfl) (by kernel_rfl) (by kernel_rfl) (fun _ _ _ h => h) rfl (.inr ⟨_, _, _, rfl, rfl, rfl⟩) (x_indexNat sz_26 rfl rfl (by omega)) (fun w hi => by first | exact hi.j | exact J.of_le (Ro.le.refl _) (fun x hx => List.mem_append_right _ hx) hi | exact J.of_le (Ro.le.refl _) (fun x hx => List.mem_append_right _ (List.mem_append_right _ hx)) hi | exact J.of_le (Ro.le.refl _) (fun x hx => absurd hx (by simp)) hi | exact J.of_le (by assumption) (fun x hx => absurd hx (by simp)) hi) ?_
    refine d_take 20 rfl (by kernel_rfl) (by kernel_rfl) (by kernel_rfl) (fun _ _ _ h => h) rfl (.inr ⟨_, _, _, rfl, rfl, rfl⟩) (x_fieldAddr fo_46_1 rfl) (fun w hi => by first | exact hi.j | exact J.of_le (Ro.le.refl _) (fun x hx => List.mem_append_right _ hx) hi | exact J.of_le (Ro.le.refl _) (fun x hx => List.mem_append_right _ (List.mem_append_right _ hx)) hi | exact J.of_le (Ro.le.refl _) (fun x hx => absurd hx (by simp)) hi | exact J.of_le (by assumption) (fun x hx => absurd hx (by simp)) hi) ?_
    refine d_take 21 rfl (by kernel_rfl) (by kernel_rfl) (by kernel_rfl) (fun _ _ _ h => h) rfl (.inr ⟨_, _, _, rfl, rfl, rfl⟩) (x_load1 ag_3 rfl (by first | assumption | exact Cell.own 0 rfl rfl | exact Cell.own 1 rfl rfl | exact Cell.own 2 rfl rfl | exact Cell.own 3 rfl rfl | exact Cell.own 4 rfl rfl | exact Cell.own 5 rfl rfl | exact Cell.ofRo (by assumption))) (fun w hi => by first | exact hi.j | exact J.of_le (Ro.le.refl _) (fun x hx => List.mem_append_right _ hx) hi | exact J.of_le (Ro.le.refl _) (fun x hx => List.mem_append_right _ (List.mem_append_right _ hx)) hi | exact J.of_le (Ro.le.refl _) (fun x hx => absurd hx (by simp)) hi | exact J.of_le (by assumption) (fun x hx => absurd hx (by simp)) hi) ?_
    refine d_take 22 rfl (by kernel_rfl) (by kernel_rfl) (by kernel_rfl) (fun _ _ _ h => h) rfl (.inr ⟨_, _, _, rfl, rfl, rfl⟩) ((x_neq rfl rfl).as (v' := .bool false) (by simp)) (fun w hi => by first | exact hi.j | exact J.of_le (Ro.le.refl _) (fun x hx => List.mem_append_right _ hx) hi | exact J.of_le (Ro.le.refl _) (fun x hx => List.mem_append_right _ (List.mem_append_right _ hx)) hi | exact J.of_le (Ro.le.refl _) (fun x hx => absurd hx (by simp)) hi | exact J.of_le (by assumption) (fun x hx => absurd hx (by simp)) hi) ?_
    refine d_take 23 rfl (by kernel_rfl) (by kernel_rfl) (by kernel_rfl) (fun _ _ _ h => h) rfl (.inl rfl) (x_pickF rfl rfl) (fun w hi => by first | exact hi.j | exact J.of_le (Ro.le.refl _) (fun x hx => List.mem_append_right _ hx) hi | exact J.of_le (Ro.le.refl _) (fun x hx => List.mem_append_right _ (List.mem_append_right _ hx)) hi | exact J.of_le (Ro.le.refl _) (fun x hx => absurd hx (by simp)) hi | exact J.of_le (by assumption) (fun x hx => absurd hx (by simp)) hi) ?_
    refine d_end (by kernel_rfl) ?_
    refine n_then ?_
    refine condF rfl ?_
    refine skip ?_
    refine n_in ?_
    refine n_then ?_
    refine region ?_
    refine op (y (x_move rfl) rfl ?_)
    refine op (y (x_add rfl rfl _ (wr (by omega) (by omega))) rfl ?_)
    refine op (y (x_assign rfl) rfl ?_)
    refine nil ?_
    exact round (l.length - (k + 1)) [(1, .slice _ l.length cap), (5, .slice _ l.length cap2), (6, .int .i64 ((k + 1) : Nat))] (by omega) ⟨rfl, rfl, rfl, trivial⟩ ⟨k + 1, rfl, rfl, rfl, rfl, by omega⟩
  · try simp only [decide_eq_true_eq, decide_eq_false_iff_not, beq_iff_eq, bne_iff_ne, ne_eq, beq_eq_false_iff_ne, bne_eq_false_iff_eq, Bool.not_eq_true', Bool.not_eq_false', Bool.not_eq_true, Bool.not_eq_false, Decidable.not_not, Int.not_lt, Int.not_le] at h7
    refine exit ?_
    refine e_then ?_
    refine e_then ?_
    refine e_in ?_
    refine n_then ?_
    refine seq ?_
    refine region ?_
    refine op (y (x_assign rfl) rfl ?_)
    refine nil ?_
    refine n_then ?_
    refine ret ?_
    exact done rfl (.tmp rfl (.nil)) (hle10.trans hle2) (L) (⟨_, .refl _, .refl _⟩) (⟨rfl, rfl⟩)

end Go.Proofs.Ytlmeblhcipkgmaa
