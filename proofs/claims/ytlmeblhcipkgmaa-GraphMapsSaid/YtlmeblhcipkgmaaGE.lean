/- The walks of the library functions that the order of a graph uses. -/
import Derived.Test.YtlmeblhcipkgmaaGD
namespace Go.Proofs.Ytlmeblhcipkgmaa
open Go Go.U
set_option maxRecDepth 20000
set_option linter.unusedSimpArgs false
set_option linter.unusedVariables false

open Go.RowKit
/-- counts by node -/
def CntM (c : Int → Int) (m : List (Int × Value)) : Prop := ∀ b, (mget m b).getD (.int .i64 0) = .int .i64 (c b)

theorem TFree_c (kk : Int) (b4 b13 : Nat) (m : List (Int × Value)) (es : Array MapEntry) (clk : Nat) (c : Int → Int) (ro : Ro) (L : List (List Blk)) (hb : (b4, Obj.cells #[.map (some b13)] 117 (0, 0)) ∈ L.flatten) (hm : (b13, Obj.map es clk) ∈ L.flatten) (hE : MapE encZ m es clk) (hc : CntM c m) :
    CT Try.prog 89 [.int .i64 kk, .pointer (some ⟨b4, 0, none⟩)].toArray ro L (PQ (.bool (decide (c kk = 0))) ro L) := by
  refine enter Try.func89 rfl Try.ntmps89 rfl ?_
  refine seq ?_
  refine region ?_
  refine op (y (x_assign rfl) rfl ?_)
  refine nil ?_
  refine n_then ?_
  refine seq ?_
  refine region ?_
  refine op (y (x_load1 ag_117 rfl (Cell.blk hb rfl)) rfl ?_)
  refine op (y (x_move rfl) rfl ?_)
  refine op (y ((x_lookup Try.underlying117 kI zc_3 rfl rfl hm hE).as (hc kk)) rfl ?_)
  refine op (y (x_eql rfl rfl) rfl ?_)
  refine op (y (x_assign rfl) rfl ?_)
  refine nil ?_
  refine n_then ?_
  refine ret ?_
  exact done rfl (.tmp rfl (.nil)) (Ro.le.refl _) (L) (⟨_, .refl _, .refl _⟩) (⟨rfl, rfl, rfl⟩)

theorem IndexF_c (l : List Int) (A : Option Addr) (cap : Nat) (R : List Blk) (ro : Ro) (L : List (List Blk)) (hO : OwnS 3 1 A l.length cap (l.flatMap encInt) R) (hL : ∀ q ∈ R, q ∈ L.flatten) (hn : l.length ≤ 100000) (cv : Value) (p : Int → Bool) (hp : ∀ c, CT Try.prog 89 [.int .i64 c, cv].toArray ro L (PQ (.bool (p c)) ro L)) :
    CT Try.prog 88 [.slice A l.length cap, .func (.func 89) #[] #[cv]].toArray ro L (fun v ro' L' => ro = ro' ∧ L = L' ∧ ((v = .int .i64 (-1) ∧ ∀ q : Nat, q < l.length → ∀ c, l[q]? = some c → p c = false) ∨ ∃ j c, v = .int .i64 (j : Nat) ∧ l[j]? = some c ∧ p c = true ∧ ∀ q : Nat, q < j → ∀ c, l[q]? = some c → p c = false)) := by
  refine enter Try.func88 rfl Try.ntmps88 rfl ?_
  refine seq ?_
  refine region ?_
  refine op (y (x_assign rfl) rfl ?_)
  refine nil ?_
  refine n_then ?_
  refine seq ?_
  refine seq ?_
  refine region ?_
  refine op (y (x_move rfl) rfl ?_)
  refine op (y (x_lenSl sz_23 rfl) rfl ?_)
  refine op (y (x_move rfl) rfl ?_)
  refine nil ?_
  refine n_then ?_
  refine block ?_
  refine loop (fun m F ro' L' => ∃ (j : Nat), (m = l.length - j) ∧ (F = [(0, .slice A l.length cap), (1, .func (.func 89) #[] #[cv]), (7, .int .i64 (l.length : Nat)), (8, .int .i64 (j : Nat))]) ∧ (ro = ro') ∧ (L = L') ∧ (j ≤ l.length) ∧ (∀ q : Nat, q < j → ∀ c, l[q]? = some c → p c = false)) (l.length - 0) [(0, .slice A l.length cap), (1, .func (.func 89) #[] #[cv]), (7, .int .i64 (l.length : Nat)), (8, .int .i64 (0 : Nat))] ⟨rfl, rfl, rfl, rfl, trivial⟩ ⟨0, rfl, rfl, rfl, rfl, by omega, by intro j hj; omega⟩ ?_
  rintro m F ro' L' ⟨j, rfl, rfl, rfl, rfl, hj, hall⟩
  refine seq ?_
  refine region ?_
  refine op (y (x_lss rfl rfl) rfl ?_)
  refine nil ?_
  refine n_then ?_
  refine seq ?_
  refine cond rfl (fun h2 => ?_) (fun h2 => ?_)
  · try simp only [decide_eq_true_eq, decide_eq_false_iff_not, beq_iff_eq, bne_iff_ne, ne_eq, beq_eq_false_iff_ne, bne_eq_false_iff_eq, Bool.not_eq_true', Bool.not_eq_false', Bool.not_eq_true, Bool.not_eq_false, Decidable.not_not, Int.not_lt, Int.not_le] at h2
    refine skip ?_
    refine n_then ?_
    refine seq ?_
    refine block ?_
    refine seq ?_
    refine region ?_
    refine op (y (x_move rfl) rfl ?_)
    refine op (y (x_assign rfl) rfl ?_)
    refine nil ?_
    refine n_then ?_
    refine seq ?_
    have hjl : j < l.length := by omega
    obtain ⟨b5, off5, cur5, rfl, rfl, y2, hy2, hc5⟩ := OwnS.intAt hO hjl rfl
    refine region ?_
    refine op (y (x_move rfl) rfl ?_)
    refine op (y (x_move rfl) rfl ?_)
    refine op (y (x_move rfl) rfl ?_)
    refine op (y (x_indexNat sz_23 rfl rfl (by omega)) rfl ?_)
    refine op (y (x_load1 ag_3 rfl (Cell.blk (hL _ (List.mem_singleton.2 rfl)) hc5)) rfl ?_)
    refine op (e_call (caps := [cv]) rfl fn_89 rfl rfl (hp _) fun v16 ro16 L16 hle16 hp16 => ?_)
    obtain ⟨rfl, rfl, rfl⟩ := hp16
    refine nil ?_
    refine n_then ?_
    refine cond rfl (fun h4 => ?_) (fun h4 => ?_)
    · try simp only [decide_eq_true_eq, decide_eq_false_iff_not, beq_iff_eq, bne_iff_ne, ne_eq, beq_eq_false_iff_ne, bne_eq_false_iff_eq, Bool.not_eq_true', Bool.not_eq_false', Bool.not_eq_true, Bool.not_eq_false, Decidable.not_not, Int.not_lt, Int.not_le] at h4
      refine seq ?_
      refine region ?_
      refine op (y (x_move rfl) rfl ?_)
      refine op (y (x_assign rfl) rfl ?_)
      refine nil ?_
      refine n_then ?_
      refine ret ?_
      refine r_in ?_
      refine r_then ?_
      refine r_then ?_
      refine r_in ?_
      refine r_then ?_
      exact done rfl (.tmp rfl (.nil)) (Ro.le.refl _) (L) (⟨_, .refl _, .refl _⟩) (⟨rfl, rfl, .inr ⟨j, y2, rfl, hy2, h4, hall⟩⟩)
    · try simp only [decide_eq_true_eq, decide_eq_false_iff_not, beq_iff_eq, bne_iff_ne, ne_eq, beq_eq_false_iff_ne, bne_eq_false_iff_eq, Bool.not_eq_true', Bool.not_eq_false', Bool.not_eq_true, Bool.not_eq_false, Decidable.not_not, Int.not_lt, Int.not_le] at h4
      refine skip ?_
      refine n_in ?_
      refine n_then ?_
      refine region ?_
      refine op (y (x_add rfl rfl _ (wr (by omega) (by omega))) rfl ?_)
      refine op (y (x_move rfl) rfl ?_)
      refine nil ?_
      exact round (l.length - (j + 1)) [(0, .slice _ l.length cap), (1, .func (.func 89) #[] #[cv]), (7, .int .i64 (l.length : Nat)), (8, .int .i64 ((j + 1) : Nat))] (by omega) ⟨rfl, rfl, rfl, rfl, trivial⟩ ⟨j + 1, rfl, rfl, rfl, rfl, by omega, upto (p := fun q => ∀ c, l[q]? = some c → p c = false) hall (fun c e => by rw [hy2] at e; cases e; simpa using h4)⟩
  · try simp only [decide_eq_true_eq, decide_eq_false_iff_not, beq_iff_eq, bne_iff_ne, ne_eq, beq_eq_false_iff_ne, bne_eq_false_iff_eq, Bool.not_eq_true', Bool.not_eq_false', Bool.not_eq_true, Bool.not_eq_false, Decidable.not_not, Int.not_lt, Int.not_le] at h2
    refine exit ?_
    refine e_then ?_
    refine e_then ?_
    refine e_in ?_
    refine n_then ?_
    refine seq ?_
    refine region ?_
    refine op (y (x_assign rfl) rfl ?_)
    refine nil ?_
    refine n_then ?_
    refine ret ?_
    obtain rfl : j = l.length := by omega
    exact done rfl (.tmp rfl (.nil)) (Ro.le.refl _) (L) (⟨_, .refl _, .refl _⟩) (⟨rfl, rfl, .inl ⟨rfl, hall⟩⟩)

theorem fm_take (l : List Int) (j : Nat) : (l.flatMap encInt).take j = (l.take j).flatMap encInt := by rw [fm_int, fm_int, List.map_take]
theorem eraseIdx_eq (l : List Int) (j : Nat) : l.eraseIdx j = l.take j ++ l.drop (j + 1) := List.eraseIdx_eq_take_drop_succ l j

theorem Delete_c (l : List Int) (A : Option Addr) (cap : Nat) (R : List Blk) (ro : Ro) (L : List (List Blk)) (hO : OwnS 3 1 A l.length cap (l.flatMap encInt) R) (hn : l.length ≤ 100000) (hcap : cap ≤ 9223372036854775807) (j : Nat) (hj : j < l.length) :
    CT Try.prog 90 [.slice A l.length cap, .int .i64 (j : Nat), .int .i64 ((j + 1 : Nat) : Int)].toArray ro (R :: L) (fun v ro' L' => ro = ro' ∧ ∃ R', v = .slice A (l.eraseIdx j).length cap ∧ OwnS 3 1 A (l.eraseIdx j).length cap ((l.eraseIdx j).flatMap encInt) R' ∧ L' = R' :: L) := by
  refine enter Try.func90 rfl Try.ntmps90 rfl ?_
  obtain ⟨b5, off5, cur5, rfl, rfl, hmc, hcc⟩ := OwnS.at_ hO (by omega)
  refine seq ?_
  refine region ?_
  refine op (y (x_assign rfl) rfl ?_)
  refine nil ?_
  refine n_then ?_
  refine seq ?_
  refine region ?_
  refine op (y (x_move rfl) rfl ?_)
  refine op (y (x_move rfl) rfl ?_)
  refine op (y (x_move rfl) rfl ?_)
  refine op (y (x_move rfl) rfl ?_)
  refine op (y (x_lenSl sz_23 rfl) rfl ?_)
  refine op (y (x_slice3 sz_23 rfl rfl rfl rfl (by omega) (by omega) (by omega)) rfl ?_)
  refine nil ?_
  refine n_then ?_
  refine seq ?_
  refine seq ?_
  refine region ?_
  refine op (y (x_move rfl) rfl ?_)
  refine op (y (x_move rfl) rfl ?_)
  refine op (y ((x_eql rfl rfl).as (v' := .bool false) (by simp; omega)) rfl ?_)
  refine nil ?_
  refine n_then ?_
  refine condF rfl ?_
  refine skip ?_
  refine n_then ?_
  refine seq ?_
  refine region ?_
  refine op (y (x_move rfl) rfl ?_)
  refine op (y (x_lenSl sz_23 rfl) rfl ?_)
  refine op (y (x_assign rfl) rfl ?_)
  refine nil ?_
  refine n_then ?_
  refine seq ?_
  refine draw ([]) (by kernel_rfl) ?_
  refine d_take 0 rfl (by kernel_rfl) (by kernel_rfl) (by kernel_rfl) (fun _ _ _ h => h) rfl (.inl rfl) (x_move rfl) (fun w hi => J.of_le (Ro.le.refl _) (by simp) hi) ?_
  refine d_take 1 rfl (by kernel_rfl) (by kernel_rfl) (by kernel_rfl) (fun _ _ _ h => h) rfl (.inl rfl) (x_move rfl) (fun w hi => J.of_le (Ro.le.refl _) (by simp) hi) ?_
  refine d_take 2 rfl (by kernel_rfl) (by kernel_rfl) (by kernel_rfl) (fun _ _ _ h => h) rfl (.inl rfl) (x_sliceHiN sz_23 rfl rfl (by omega)) (fun w hi => J.of_le (Ro.le.refl _) (by simp) hi) ?_
  refine d_take 3 rfl (by kernel_rfl) (by kernel_rfl) (by kernel_rfl) (fun _ _ _ h => h) rfl (.inl rfl) (x_move rfl) (fun w hi => J.of_le (Ro.le.refl _) (by simp) hi) ?_
  refine d_take 4 rfl (by kernel_rfl) (by kernel_rfl) (by kernel_rfl) (fun _ _ _ h => h) rfl (.inl rfl) (x_move rfl) (fun w hi => J.of_le (Ro.le.refl _) (by simp) hi) ?_
  refine d_take 5 rfl (by kernel_rfl) (by kernel_rfl) (by kernel_rfl) (fun _ _ _ h => h) rfl (.inl rfl) ((x_sliceLo sz_23 rfl rfl (by omega) (by omega)).as (v' := .slice (cutA (some ⟨b5, off5, none⟩) cap (j + 1) 1) (l.length - (j + 1)) (cap - (j + 1))) rfl) (fun w hi => J.of_le (Ro.le.refl _) (by simp) hi) ?_
  have hsrc : Src ro ([(b5, .cells cur5 3 (0, 0))] :: L).flatten 1 (cutA (some ⟨b5, off5, none⟩) cap (j + 1) 1) (l.length - (j + 1)) ((l.drop (j + 1)).flatMap encInt) := by
    refine ⟨by rw [fm_int]; simp, fun hpos => ?_⟩
    have hne : ¬ cap = j + 1 := by omega
    refine ⟨b5, off5 + (j + 1) * 1, by rw [cutA, if_neg hne]; rfl, fun q u hq => Cell.blk (mem0 (List.mem_singleton.2 rfl)) ?_⟩
    have h1 := hcc (j + 1 + q) u (by rw [fm_int] at hq ⊢; rw [List.map_drop, List.getElem?_drop] at hq; exact hq)
    rw [show off5 + (j + 1) * 1 + q = off5 + (j + 1 + q) by omega]
    exact h1
  have hel : (l.eraseIdx j).length = j + (l.length - (j + 1)) := by rw [List.length_eraseIdx]; split <;> omega
  refine d_one 6 rfl (by kernel_rfl) (.inl rfl) (e_appendRoom 0 rfl st_23 rfl rfl rfl (hO.takeS (j := j) (by omega)) hsrc (int_ok _) (by omega) (fun _ => rfl) fun R26 hO26 => ?_)
  rw [Nat.mul_one, fm_take, ← List.flatMap_append, ← eraseIdx_eq, ← hel] at hO26
  rw [← hel]
  refine d_next (fun w hi => J.of_le (Ro.le.refl _) (by simp) hi) ?_
  refine d_take 7 rfl (by kernel_rfl) (by kernel_rfl) (by kernel_rfl) (fun _ _ _ h => h) rfl (.inl rfl) (x_assign rfl) (fun w hi => J.of_le (Ro.le.refl _) (by simp) hi) ?_
  refine d_end (by kernel_rfl) ?_
  refine n_then ?_
  refine seq ?_
  refine region ?_
  refine op (y (x_move rfl) rfl ?_)
  refine op (y (x_move rfl) rfl ?_)
  refine op (y (x_lenSl sz_23 rfl) rfl ?_)
  refine op (y (x_move rfl) rfl ?_)
  refine op (y (x_sliceN sz_23 rfl rfl rfl (by omega) (by omega) (by omega)) rfl ?_)
  refine op (e_clear 0 st_23 zc_3 rfl rfl hO26 (by omega) (by omega) (by decide) (fun _ => rfl) fun R31 hO31 => ?_)
  refine nil ?_
  refine n_then ?_
  refine seq ?_
  refine region ?_
  refine op (y (x_move rfl) rfl ?_)
  refine op (y (x_assign rfl) rfl ?_)
  refine nil ?_
  refine n_then ?_
  refine ret ?_
  exact done rfl (.tmp rfl (.nil)) (Ro.le.refl _) (_) (⟨_, .refl _, .refl _⟩) (⟨rfl, R31, rfl, hO31, rfl⟩)

end Go.Proofs.Ytlmeblhcipkgmaa
namespace Go.Proofs.Ytlmeblhcipkgmaa
open Go Go.U
set_option maxRecDepth 20000
set_option linter.unusedSimpArgs false
set_option linter.unusedVariables false

open Go.RowKit
def cnt (E : List Ed) (l : List Int) (b : Int) : Int := ((l.filter (fun a => decide (b ∈ Ob E a))).length : Nat)
def one1 (ks : List Int) (b : Int) : Int := if b ∈ ks then 1 else 0
def lf (N done : List Int) : List Int := N.filter (fun n => !decide (n ∈ done))
theorem CntM.set {c : Int → Int} {m : List (Int × Value)} (h : CntM c m) (k v : Int) : CntM (fun b => if k = b then v else c b) (mset m k (.int .i64 v)) := fun b => by
  rw [mget_mset]
  by_cases h1 : k = b
  · simp [h1]
  · simp only [if_neg h1]; exact h b
theorem CntM.cong {c c' : Int → Int} {m : List (Int × Value)} (h : CntM c m) (hc : ∀ b, c b = c' b) : CntM c' m := fun b => by rw [h b, hc]
theorem cnt_le (E : List Ed) (l : List Int) (b : Int) : 0 ≤ cnt E l b ∧ cnt E l b ≤ (l.length : Nat) := by
  unfold cnt
  have : (l.filter (fun a => decide (b ∈ Ob E a))).length ≤ l.length := List.length_filter_le _ _
  omega
theorem cnt_snoc (E : List Ed) (l : List Int) (a b : Int) : cnt E (l ++ [a]) b = cnt E l b + one1 (Ob E a) b := by
  unfold cnt one1
  by_cases h : b ∈ Ob E a <;> simp [h]
theorem cnt_perm {E : List Ed} {l m : List Int} (h : l.Perm m) (b : Int) : cnt E l b = cnt E m b := by
  unfold cnt
  rw [(h.filter _).length_eq]
theorem cnt_cons (E : List Ed) (l : List Int) (a b : Int) : cnt E (a :: l) b = one1 (Ob E a) b + cnt E l b := by
  rw [cnt_perm (List.perm_append_singleton a l).symm, cnt_snoc]; omega
theorem one1_snoc {ks : List Int} {k : Int} (h : k ∉ ks) (b : Int) : one1 (ks ++ [k]) b = if k = b then one1 ks k + 1 else one1 ks b := by
  unfold one1
  by_cases h1 : k = b
  · subst h1; simp [h]
  · have : ¬ b = k := fun e => h1 e.symm
    simp [h1, this]
theorem one1_le (ks : List Int) (b : Int) : 0 ≤ one1 ks b ∧ one1 ks b ≤ 1 := by unfold one1; split <;> omega
theorem one1_eq {ks ks' : List Int} (h : ∀ b, b ∈ ks ↔ b ∈ ks') (b : Int) : one1 ks b = one1 ks' b := by
  unfold one1
  by_cases h1 : b ∈ ks
  · rw [if_pos h1, if_pos ((h b).1 h1)]
  · rw [if_neg h1, if_neg (fun h2 => h1 ((h b).2 h2))]
theorem one1_nil (b : Int) : one1 [] b = 0 := by simp [one1]
theorem erase_filter : ∀ {l : List Int} {j : Nat} {k : Int}, l.Nodup → l[j]? = some k → l.eraseIdx j = l.filter (fun n => !decide (n = k)) ∧ l.Perm (k :: l.eraseIdx j)
  | [], j, k, _, h => by simp at h
  | a :: l, 0, k, hn, h => by
    simp only [List.getElem?_cons_zero, Option.some.injEq] at h
    subst h
    rw [List.nodup_cons] at hn
    refine ⟨?_, .refl _⟩
    rw [List.eraseIdx_cons_zero, List.filter_cons]
    simp only [decide_true, Bool.not_true, Bool.false_eq_true, if_false]
    symm
    rw [List.filter_eq_self]
    intro x hx
    simp only [Bool.not_eq_true', decide_eq_false_iff_not]
    intro e; subst e; exact hn.1 hx
  | a :: l, j + 1, k, hn, h => by
    rw [List.nodup_cons] at hn
    have h2 : l[j]? = some k := by simpa using h
    obtain ⟨h3, h4⟩ := erase_filter hn.2 h2
    have hk : k ∈ l := List.mem_of_getElem? h2
    have hne : ¬ a = k := fun e => by subst e; exact hn.1 hk
    refine ⟨?_, ?_⟩
    · rw [List.eraseIdx_cons_succ, List.filter_cons, h3]; simp [hne]
    · rw [List.eraseIdx_cons_succ]
      exact (h4.cons a).trans (.swap _ _ _)
theorem lf_snoc {N done : List Int} {j : Nat} {k : Int} (hn : N.Nodup) (h : (lf N done)[j]? = some k) : (lf N done).eraseIdx j = lf N (done ++ [k]) ∧ (lf N done).Perm (k :: lf N (done ++ [k])) := by
  have hn2 : (lf N done).Nodup := List.Nodup.sublist List.filter_sublist hn
  obtain ⟨h1, h2⟩ := erase_filter hn2 h
  have h3 : (lf N done).eraseIdx j = lf N (done ++ [k]) := by
    rw [h1]
    unfold lf
    rw [List.filter_filter]
    apply List.filter_congr
    intro x _
    simp only [List.mem_append, List.mem_singleton]
    by_cases e1 : x = k <;> by_cases e2 : x ∈ done <;> simp [e1, e2]
  exact ⟨h3, by rw [← h3]; exact h2⟩
theorem tpick_eq (E : List Ed) (N done : List Int) : tpick (Ob E) N done = (lf N done).find? (fun c => decide (cnt E (lf N done) c = 0)) := by
  unfold tpick
  conv => rhs; rw [show lf N done = N.filter (fun n => !decide (n ∈ done)) from rfl]
  rw [List.find?_filter]
  congr 1
  funext n
  have h : N.all (fun a => decide (a ∈ done) || !decide (n ∈ Ob E a)) = decide (cnt E (lf N done) n = 0) := by
    rw [Bool.eq_iff_iff]
    simp only [List.all_eq_true, decide_eq_true_eq, Bool.or_eq_true, Bool.not_eq_true', decide_eq_false_iff_not]
    unfold cnt lf
    constructor
    · intro h
      have : (N.filter (fun n => !decide (n ∈ done))).filter (fun a => decide (n ∈ Ob E a)) = [] := by
        rw [List.filter_eq_nil_iff]
        intro a ha
        obtain ⟨h1, h2⟩ := List.mem_filter.1 ha
        simp only [Bool.not_eq_true', decide_eq_false_iff_not] at h2
        rcases h a h1 with h3 | h3
        · exact absurd h3 h2
        · simpa using h3
      unfold lf at *
      rw [this]; rfl
    · intro h a ha
      by_cases hd : a ∈ done
      · exact .inl hd
      · refine .inr fun hb => ?_
        have h0 : (N.filter (fun n => !decide (n ∈ done))).filter (fun a => decide (n ∈ Ob E a)) = [] := List.eq_nil_of_length_eq_zero (by omega)
        have : a ∈ (N.filter (fun n => !decide (n ∈ done))).filter (fun a => decide (n ∈ Ob E a)) := List.mem_filter.2 ⟨List.mem_filter.2 ⟨ha, by simpa using hd⟩, by simpa using hb⟩
        rw [h0] at this; cases this
  unfold tfree
  rw [h, Bool.decide_and, Bool.decide_eq_true, Bool.decide_eq_true]
  rfl
theorem OwnS.capLe {e k : Nat} {A : Option Addr} {m cap : Nat} {xs : List Value} {R : List Blk} (h : OwnS e k A m cap xs R) : cap ≤ 9223372036854775807 := by
  obtain ⟨_, ⟨_, _, rfl, _⟩ | ⟨_, _, _, _, _, _, h3, _⟩⟩ := h
  · omega
  · unfold maxLen at h3; omega
theorem lf_nil (N : List Int) : lf N [] = N := by unfold lf; rw [List.filter_eq_self]; simp
/-- the order that comes back, or none -/
def PT (E : List Ed) (N : List Int) (L : List (List Blk)) : Value → Ro → List (List Blk) → Prop := fun v ro' L' => ∃ A cap R, L' = R :: L ∧ ((topoR (Ob E) N = none ∧ v = .tuple #[.slice A 0 cap, .bool false] ∧ OwnS 3 1 A 0 cap [] R) ∨ ∃ l, topoR (Ob E) N = some l ∧ l.length = N.length ∧ v = .tuple #[.slice A l.length cap, .bool true] ∧ OwnS 3 1 A l.length cap (l.flatMap encInt) R)

theorem GrTopo_c (x : Nat) (N : List Int) (E : List Ed) (R : List Blk) (ro : Ro) (L : List (List Blk)) (hR : RelG x N E R) (hL : R ∈ L) (hNs : N.Pairwise (· < ·)) (hnN : N.length ≤ 1000) (hnE : E.length ≤ 1000) :
    CT Try.prog 46 [.pointer (some ⟨x, 0, none⟩)].toArray ro L (PT E N L) := by
  refine enter Try.func46 rfl Try.ntmps46 rfl ?_
  have hRP := hR
  obtain ⟨G, mo, es, clk, I, hRB, hA, hN, hE, hGl, hNe⟩ := hR
  have hroot := relB_root hRB hL
  have hmap := relB_map hRB hL
  have hin := relB_in hRB hL
  have hnd := hA.nodup
  have hNO := RelG.ob hRP
  have hNn := nodup_lt hNs
  refine seq ?_
  refine region ?_
  refine op (y (x_assign rfl) rfl ?_)
  refine op (y (x_assign rfl) rfl ?_)
  refine nil ?_
  refine n_then ?_
  refine seq ?_
  refine region ?_
  refine op (e_makeMap rfl fun b13 => ?_)
  refine op (e_alloc rfl zc_117 rfl fun b4 => ?_)
  first | refine op (e_store 0 rfl rfl ts_117 rfl rfl rfl rfl rfl rfl ?_) | refine op (e_store 1 rfl rfl ts_117 rfl rfl rfl rfl rfl rfl ?_) | refine op (e_store 2 rfl rfl ts_117 rfl rfl rfl rfl rfl rfl ?_) | refine op (e_store 3 rfl rfl ts_117 rfl rfl rfl rfl rfl rfl ?_) | refine op (e_store 4 rfl rfl ts_117 rfl rfl rfl rfl rfl rfl ?_) | refine op (e_store 5 rfl rfl ts_117 rfl rfl rfl rfl rfl rfl ?_)
  refine nil ?_
  refine n_then ?_
  refine seq ?_
  refine seq ?_
  refine region ?_
  refine op (y (x_move rfl) rfl ?_)
  refine op (y (x_nilPtr rfl) rfl ?_)
  refine op (y (x_fieldAddr fo_120_0 rfl) rfl ?_)
  refine op (y (x_load1 ag_118 rfl (Cell.blk (mem1 (mem1 hroot)) rfl)) rfl ?_)
  refine op (e_range rfl Try.underlying118 rfl (mem1 (mem1 hmap)) fun b18 => ?_)
  refine nil ?_
  refine n_then ?_
  refine block ?_
  refine loop (fun m F ro' L' => ∃ (Gs : GrN) (Gr : GrN) (rem : List (Int × Value)) (seen : Array Nat) (mq : List (Int × Value)) (esc : Array MapEntry) (clkc : Nat), (m = rem.length) ∧ (F = [(0, .pointer (some ⟨x, 0, none⟩)), (4, .pointer (some ⟨b4, 0, none⟩)), (18, .pointer (some ⟨b18, 0, none⟩))]) ∧ (ro = ro') ∧ (L' = [(b18, .mapIter (some mo) clk seen clk)] :: [(b4, .cells [.map (some b13)].toArray 117 (0, 0))] :: [(b13, .map esc clkc)] :: L) ∧ (rem.Perm (omg Gr)) ∧ ((Gs ++ Gr).Perm G) ∧ (IterM encZ es clk seen rem) ∧ (MapE encZ mq esc clkc) ∧ (CntM (cnt E (Gs.map (·.1))) mq)) ((omg G).length) [(0, .pointer (some ⟨x, 0, none⟩)), (4, .pointer (some ⟨b4, 0, none⟩)), (18, .pointer (some ⟨b18, 0, none⟩))] ⟨rfl, rfl, rfl, trivial⟩ ⟨([] : GrN), G, omg G, #[], [], #[], 0, rfl, rfl, rfl, rfl, .refl _, by simp, hA.outer.iter, MapE.empty, fun b => rfl⟩ ?_
  rintro m F ro' L' ⟨Gs, Gr, rem, seen, mq, esc, clkc, rfl, rfl, rfl, rfl, hrem, hG, hIt, hEc, hc⟩
  refine seq ?_
  refine region ?_
  refine op (e_next 0 rfl rfl rfl (mem1 (mem1 (mem1 hmap))) (hA.outer) (hIt) (fun _ => rfl) (fun hend => ?_) (fun kk vv rem2 seen2 hrem2 hI2 hl2 => ?_))
  · skip
    subst hend
    have hGr0 : Gr = [] := List.eq_nil_of_length_eq_zero (by have := hrem.length_eq; simpa [omg] using this.symm)
    subst hGr0
    have hGp : Gs.Perm G := by simpa using hG
    have hcN : CntM (cnt E (lf N [])) mq := hc.cong (fun b => by rw [lf_nil]; exact cnt_perm ((hGp.map (·.1)).trans (show (G.map (·.1)).Perm N from hN.symm)) b)
    refine drop0 ?_
    refine op (y (x_extract rfl rfl) rfl ?_)
    refine nil ?_
    refine n_then ?_
    refine seq ?_
    refine condF rfl ?_
    refine exit ?_
    refine e_then ?_
    refine e_then ?_
    refine e_in ?_
    refine n_then ?_
    refine seq ?_
    refine region ?_
    refine op (y (x_move rfl) rfl ?_)
    refine op (y (x_nilPtr rfl) rfl ?_)
    refine op (y (x_fieldAddr fo_120_0 rfl) rfl ?_)
    refine op (y (x_load1 ag_118 rfl (Cell.blk (mem1 (mem1 hroot)) rfl)) rfl ?_)
    refine op (y (x_lenMap Try.underlying118 rfl (mem1 (mem1 hmap))) rfl ?_)
    
    have hesz : es.size ≤ 1000 := by
      rw [hA.outer.size]
      have h3 := hN.length_eq
      simp [nds, omg] at h3 ⊢; omega
    refine op (e_make rfl st_23 rfl rfl (by omega) (by omega) (by omega) (by omega) fun b38 R8 xs hO8 hR8 => ?_)
    have hxs : xs = [] := List.eq_nil_of_length_eq_zero (by rw [hO8.1]; rfl)
    subst hxs
    clear hR8
    refine op (y (x_assign rfl) rfl ?_)
    refine nil ?_
    refine n_then ?_
    refine seq ?_
    refine region ?_
    refine op (y (x_move rfl) rfl ?_)
    refine op (e_call rfl fn_50 rfl rfl (GrNodes_c x N E R _ _ hRP (List.mem_cons_of_mem _ (List.mem_cons_of_mem _ (List.mem_cons_of_mem _ hL))) (by omega) (by omega)) fun v40 ro40 L40 hle40 hp40 => ?_)
    obtain ⟨A9, cap9, R9, rfl, hO9, rfl, rfl⟩ := hp40
    rw [srt_id hNs] at hO9 ⊢
    rw [← lf_nil N] at hO9
    refine op (y (x_assign rfl) rfl ?_)
    refine nil ?_
    refine n_then ?_
    refine seq ?_
    refine block ?_
    rw [show N.length = (lf N []).length by rw [lf_nil]]
    refine loop (fun m F ro' L' => ∃ (dn : List Int) (A8 : Option Addr) (cap8 : Nat) (R8 : List Blk) (A9 : Option Addr) (cap9 : Nat) (R9 : List Blk) (mq : List (Int × Value)) (esc : Array MapEntry) (clkc : Nat), (m = (lf N dn).length) ∧ (F = [(0, .pointer (some ⟨x, 0, none⟩)), (4, .pointer (some ⟨b4, 0, none⟩)), (8, .slice A8 dn.length cap8), (9, .slice A9 (lf N dn).length cap9)]) ∧ (ro = ro') ∧ (L' = R9 :: R8 :: [(b4, .cells [.map (some b13)].toArray 117 (0, 0))] :: [(b13, .map esc clkc)] :: L) ∧ (dn.length + (lf N dn).length = N.length) ∧ (∀ a ∈ dn, a ∈ N) ∧ (topoR (Ob E) N = tgo (Ob E) N (lf N dn).length dn) ∧ (OwnS 3 1 A8 dn.length cap8 (dn.flatMap encInt) R8) ∧ (OwnS 3 1 A9 (lf N dn).length cap9 ((lf N dn).flatMap encInt) R9) ∧ (MapE encZ mq esc clkc) ∧ (CntM (cnt E (lf N dn)) mq)) ((lf N (([] : List Int))).length) [(0, .pointer (some ⟨x, 0, none⟩)), (4, .pointer (some ⟨b4, 0, none⟩)), (8, .slice _ (([] : List Int)).length _), (9, .slice A9 (lf N (([] : List Int))).length cap9)] ⟨rfl, rfl, rfl, rfl, trivial⟩ ⟨([] : List Int), _, _, _, A9, cap9, _, _, _, _, rfl, rfl, rfl, rfl, by rw [lf_nil]; simp, by simp, by rw [lf_nil]; rfl, hO8, hO9, hEc, hcN⟩ ?_
    rintro m F ro' L' ⟨dn, A8, cap8, R8, A9, cap9, R9, mq, esc, clkc, rfl, rfl, rfl, rfl, hlen, hdn, htg, hO8, hO9, hEc, hc⟩
    refine seq ?_
    refine seq ?_
    refine region ?_
    refine op (y (x_move rfl) rfl ?_)
    refine op (y (x_lenSl sz_23 rfl) rfl ?_)
    refine op (y (x_gtr rfl rfl) rfl ?_)
    refine nil ?_
    refine n_then ?_
    refine cond rfl (fun h11 => ?_) (fun h11 => ?_)
    · try simp only [decide_eq_true_eq, decide_eq_false_iff_not, beq_iff_eq, bne_iff_ne, ne_eq, beq_eq_false_iff_ne, bne_eq_false_iff_eq, Bool.not_eq_true', Bool.not_eq_false', Bool.not_eq_true, Bool.not_eq_false, Decidable.not_not, Int.not_lt, Int.not_le] at h11
      refine skip ?_
      refine n_then ?_
      refine block ?_
      refine seq ?_
      have hln : (lf N dn).length ≤ 1000 := by omega
      have hcap9 := OwnS.capLe hO9
      refine region ?_
      refine op (y (x_move rfl) rfl ?_)
      refine op (y (x_makeFunc rfl rfl) rfl ?_)
      refine op (e_call rfl fn_88 rfl rfl (IndexF_c (lf N dn) A9 cap9 R9 _ _ hO9 (fun q hq => List.mem_append_left _ hq) (by omega) (.pointer (some ⟨b4, 0, none⟩)) (fun c => decide (cnt E (lf N dn) c = 0)) (fun c => TFree_c c b4 b13 mq esc clkc _ _ _ (mem1 (mem1 (mem0 (List.mem_singleton.2 rfl)))) (mem1 (mem1 (mem1 (mem0 (List.mem_singleton.2 rfl))))) hEc hc)) fun v46 ro46 L46 hle46 hp46 => ?_)
      obtain ⟨rfl, rfl, hcase⟩ := hp46
      obtain ⟨iv, rfl, hiv⟩ : ∃ iv : Int, v46 = .int .i64 iv ∧ ((iv = -1 ∧ tpick (Ob E) N dn = none) ∨ ∃ (j : Nat) (c : Int), iv = (j : Nat) ∧ (lf N dn)[j]? = some c ∧ tpick (Ob E) N dn = some c) := by
        rcases hcase with ⟨rfl, h1⟩ | ⟨j, c, rfl, h1, h2, h3⟩
        · exact ⟨-1, rfl, .inl ⟨rfl, by rw [tpick_eq]; exact find_no h1⟩⟩
        · exact ⟨_, rfl, .inr ⟨j, c, rfl, h1, by rw [tpick_eq]; exact find_at h3 h1 h2⟩⟩
      refine op (y (x_assign rfl) rfl ?_)
      refine nil ?_
      refine n_then ?_
      refine seq ?_
      refine seq ?_
      refine region ?_
      refine op (y (x_move rfl) rfl ?_)
      refine op (y (x_lss rfl rfl) rfl ?_)
      refine nil ?_
      refine n_then ?_
      refine cond rfl (fun h13 => ?_) (fun h13 => ?_)
      · try simp only [decide_eq_true_eq, decide_eq_false_iff_not, beq_iff_eq, bne_iff_ne, ne_eq, beq_eq_false_iff_ne, bne_eq_false_iff_eq, Bool.not_eq_true', Bool.not_eq_false', Bool.not_eq_true, Bool.not_eq_false, Decidable.not_not, Int.not_lt, Int.not_le] at h13
        refine seq ?_
        refine region ?_
        refine op (y (x_assign rfl) rfl ?_)
        refine op (y (x_assign rfl) rfl ?_)
        refine nil ?_
        refine n_then ?_
        refine ret ?_
        refine r_then ?_
        refine r_in ?_
        refine r_then ?_
        refine r_in ?_
        refine r_then ?_
        have hpn : tpick (Ob E) N dn = none := by
          rcases hiv with ⟨_, h⟩ | ⟨j, c, rfl, _⟩
          · exact h
          · omega
        obtain ⟨ll, hll⟩ : ∃ z, (lf N dn).length = z + 1 := ⟨(lf N dn).length - 1, by omega⟩
        have htn : topoR (Ob E) N = none := by rw [htg, hll]; simp only [tgo, hpn]
        refine drop0 ?_
        refine drop0 ?_
        refine drop0 ?_
        refine drop0 ?_
        refine emp ?_
        exact done rfl (.tmp rfl (.tmp rfl (.nil))) (Ro.le.refl _) (_) (⟨_, .refl _, .refl _⟩) (⟨none, 0, [], rfl, .inl ⟨htn, rfl, OwnS.none_ 3 1⟩⟩)
      · try simp only [decide_eq_true_eq, decide_eq_false_iff_not, beq_iff_eq, bne_iff_ne, ne_eq, beq_eq_false_iff_ne, bne_eq_false_iff_eq, Bool.not_eq_true', Bool.not_eq_false', Bool.not_eq_true, Bool.not_eq_false, Decidable.not_not, Int.not_lt, Int.not_le] at h13
        refine skip ?_
        refine n_then ?_
        refine seq ?_
        obtain ⟨j, k, rfl, hjk, hpk⟩ : ∃ (j : Nat) (c : Int), iv = (j : Nat) ∧ (lf N dn)[j]? = some c ∧ tpick (Ob E) N dn = some c := by
          rcases hiv with ⟨rfl, _⟩ | h
          · omega
          · exact h
        have hjl : j < (lf N dn).length := (List.getElem?_eq_some_iff.1 hjk).1
        have hO9b := hO9
        obtain ⟨b5, off5, cur5, rfl, rfl, y2, hy2, hc5⟩ := OwnS.intAt hO9 hjl rfl
        obtain rfl : k = y2 := by rw [hjk] at hy2; cases hy2; rfl
        have hkN : k ∈ N := (List.mem_filter.1 (List.mem_of_getElem? hjk)).1
        obtain ⟨hls1, hls2⟩ := lf_snoc hNn hjk
        refine region ?_
        refine op (y (x_move rfl) rfl ?_)
        refine op (y (x_move rfl) rfl ?_)
        refine op (y (x_indexNat sz_23 rfl rfl (by omega)) rfl ?_)
        refine op (y (x_load1 ag_3 rfl (Cell.own 0 rfl hc5)) rfl ?_)
        refine op (y (x_assign rfl) rfl ?_)
        refine nil ?_
        refine n_then ?_
        refine seq ?_
        refine region ?_
        refine op (y (x_move rfl) rfl ?_)
        refine op (y (x_move rfl) rfl ?_)
        refine op (y (x_move rfl) rfl ?_)
        refine op (y (x_add rfl rfl _ (wr (by omega) (by omega))) rfl ?_)
        refine op (e_call rfl fn_90 rfl rfl (Delete_c (lf N dn) _ cap9 _ _ _ hO9b (by omega) hcap9 j hjl) fun v57 ro57 L57 hle57 hp57 => ?_)
        obtain ⟨rfl, R57, rfl, hO57, rfl⟩ := hp57
        refine op (y (x_assign rfl) rfl ?_)
        refine nil ?_
        refine n_then ?_
        refine seq ?_
        refine region ?_
        refine op (y (x_move rfl) rfl ?_)
        refine op (y (x_move rfl) rfl ?_)
        refine op (e_slice1 rfl Try.underlying23 ti_3 rfl rfl (by decide) (by decide) rfl rfl rfl fun b60 => ?_)
        refine op (e_append1 1 rfl st_23 rfl rfl rfl hO8 rfl rfl (by omega) (by omega) (fun _ => rfl) fun A61 cap61 R61 hO61 => ?_)
        refine op (y (x_assign rfl) rfl ?_)
        refine nil ?_
        refine n_then ?_
        refine seq ?_
        obtain ⟨g, hgm, hgk⟩ := List.mem_map.1 (hN.mem_iff.1 hkN)
        obtain ⟨k', p, M⟩ := g
        simp only at hgk
        obtain rfl : k = k' := hgk.symm
        obtain ⟨es5, clk5, J5, hm5, hE5, _, _⟩ := hA.inner.mem hgm
        have hm6 := hin _ hm5
        have hO := outs_of hA hE hNe hgm
        have hMn := (hA.inner.mnodup _ hgm).1
        refine region ?_
        refine op (y (x_move rfl) rfl ?_)
        refine op (y (x_nilPtr rfl) rfl ?_)
        refine op (y (x_fieldAddr fo_120_0 rfl) rfl ?_)
        refine op (y (x_load1 ag_118 rfl (Cell.blk (mem1 (mem1 (mem1 (mem1 hroot)))) rfl)) rfl ?_)
        refine op (y (x_move rfl) rfl ?_)
        refine op (y (x_lookupV Try.underlying118 kI zc_98 rfl rfl (mem1 (mem1 (mem1 (mem1 hmap)))) hA.outer (by rw [mget_omg_some hnd hgm])) rfl ?_)
        refine op (e_range rfl Try.underlying98 rfl (mem1 (mem1 (mem1 (mem1 hm6)))) fun b68 => ?_)
        refine nil ?_
        refine n_then ?_
        refine block ?_
        refine loop (fun m F ro' L' => ∃ (Ms : List (Int × Nat × List Int)) (Mr : List (Int × Nat × List Int)) (rem : List (Int × Value)) (seen : Array Nat) (mq : List (Int × Value)) (esc : Array MapEntry) (clkc : Nat), (m = rem.length) ∧ (F = [(0, .pointer (some ⟨x, 0, none⟩)), (4, .pointer (some ⟨b4, 0, none⟩)), (8, .slice A61 (dn.length + 1) cap61), (9, .slice (some ⟨b5, off5, none⟩) ((lf N dn).eraseIdx j).length cap9), (68, .pointer (some ⟨b68, 0, none⟩))]) ∧ (ro = ro') ∧ (L' = [(b68, .mapIter (some p) clk5 seen clk5)] :: R57 :: R61 :: [(b4, .cells [.map (some b13)].toArray 117 (0, 0))] :: [(b13, .map esc clkc)] :: L) ∧ (rem.Perm (omg Mr)) ∧ ((Ms ++ Mr).Perm M) ∧ (IterM encZ es5 clk5 seen rem) ∧ (MapE encZ mq esc clkc) ∧ (CntM (fun b => cnt E (lf N dn) b - one1 (Ms.map (·.1)) b) mq)) ((omg M).length) [(0, .pointer (some ⟨x, 0, none⟩)), (4, .pointer (some ⟨b4, 0, none⟩)), (8, .slice A61 (dn.length + 1) cap61), (9, .slice (some ⟨b5, off5, none⟩) ((lf N dn).eraseIdx j).length cap9), (68, .pointer (some ⟨b68, 0, none⟩))] ⟨rfl, rfl, rfl, rfl, rfl, trivial⟩ ⟨([] : List (Int × Nat × List Int)), M, omg M, #[], _, _, _, rfl, rfl, rfl, rfl, .refl _, by simp, hE5.iter, hEc, hc.cong (fun b => by simp [one1])⟩ ?_
        rintro m F ro' L' ⟨Ms, Mr, rem, seen, mq, esc, clkc, rfl, rfl, rfl, rfl, hrem, hM, hIt, hEc, hc⟩
        refine seq ?_
        refine region ?_
        refine op (e_next 0 rfl rfl rfl (mem1 (mem1 (mem1 (mem1 (mem1 hm6))))) (hE5) (hIt) (fun _ => rfl) (fun hend => ?_) (fun kk vv rem2 seen2 hrem2 hI2 hl2 => ?_))
        · skip
          subst hend
          have hMr0 : Mr = [] := List.eq_nil_of_length_eq_zero (by have := hrem.length_eq; simpa [omg] using this.symm)
          subst hMr0
          have hMp : Ms.Perm M := by simpa using hM
          have hOM : ∀ b, one1 (Ms.map (·.1)) b = one1 (Ob E k) b := one1_eq (fun b => ((hMp.map (·.1)).mem_iff).trans (hO b))
          refine drop0 ?_
          refine op (y (x_extract rfl rfl) rfl ?_)
          refine nil ?_
          refine n_then ?_
          refine seq ?_
          refine condF rfl ?_
          refine exit ?_
          refine e_then ?_
          refine e_then ?_
          refine e_in ?_
          refine n_in ?_
          have hdl : (dn ++ [k]).length = dn.length + 1 := by simp
          have hpl := hls2.length_eq
          rw [List.length_cons] at hpl
          rw [hls1] at hO57 ⊢
          rw [← hdl] at hO61 ⊢
          exact round ((lf N ((dn ++ [k]))).length) [(0, .pointer (some ⟨x, 0, none⟩)), (4, .pointer (some ⟨b4, 0, none⟩)), (8, .slice _ ((dn ++ [k])).length _), (9, .slice _ (lf N ((dn ++ [k]))).length _)] (by omega) ⟨rfl, rfl, rfl, rfl, trivial⟩ ⟨(dn ++ [k]), _, _, _, _, _, _, _, _, _, rfl, rfl, rfl, rfl, by omega, fun a ha => by
            rcases List.mem_append.1 ha with ha | ha
            · exact hdn a ha
            · rw [List.mem_singleton.1 ha]; exact hkN, by rw [htg, hpl]; simp only [tgo, hpk], hO61.snoc, hO57, hEc, hc.cong (fun b => by rw [hOM, cnt_perm hls2, cnt_cons]; omega)⟩
        · skip
          obtain ⟨q, ksq, Mr2, hMr2, rfl, hrem5⟩ := next_omg hrem hrem2
          have hM2 : (Ms ++ (kk, q, ksq) :: Mr2).Perm M := (hMr2.symm.append_left Ms).trans hM
          have hM3 : ((Ms ++ [(kk, q, ksq)]) ++ Mr2).Perm M := by simpa using hM2
          have hrl2 : rem.length = rem2.length + 1 := by simpa using hrem2.length_eq
          have hmq : (kk, q, ksq) ∈ M := hM2.mem_iff.1 (by simp)
          have hkO : kk ∈ Ob E k := (hO kk).1 (List.mem_map.2 ⟨_, hmq, rfl⟩)
          have hkM : kk ∉ Ms.map (·.1) := by
            have h1 : ((Ms ++ (kk, q, ksq) :: Mr2).map (·.1)).Nodup := (hM2.map _).nodup_iff.2 hMn
            rw [List.map_append, List.map_cons, List.nodup_append] at h1
            exact fun h => h1.2.2 kk h kk (by simp) rfl
          have ho0 : one1 (Ms.map (·.1)) kk = 0 := by unfold one1; rw [if_neg hkM]
          obtain ⟨hc0, hc1⟩ := cnt_le E (lf N dn) kk
          refine op (y (x_extract rfl rfl) rfl ?_)
          refine nil ?_
          refine n_then ?_
          refine seq ?_
          refine condT rfl ?_
          refine skip ?_
          refine n_then ?_
          refine block ?_
          refine seq ?_
          refine region ?_
          refine op (y (x_entry rfl (mem0 (List.mem_singleton.2 rfl)) (mem1 (mem1 (mem1 (mem1 (mem1 hm6))))) hl2) rfl ?_)
          refine op (y (x_extract rfl rfl) rfl ?_)
          refine op (y (x_assign rfl) rfl ?_)
          refine nil ?_
          refine n_then ?_
          refine region ?_
          refine op (y (x_load1 ag_117 rfl (Cell.own 3 rfl rfl)) rfl ?_)
          refine op (y (x_move rfl) rfl ?_)
          refine op (y ((x_lookup Try.underlying117 kI zc_3 rfl rfl (mem1 (mem1 (mem1 (mem1 (mem0 (List.mem_singleton.2 rfl)))))) hEc).as (v' := .int .i64 (cnt E (lf N dn) kk - one1 (Ms.map (·.1)) kk)) (hc kk)) rfl ?_)
          refine op (y (x_sub rfl rfl _ (wr (by omega) (by omega))) rfl ?_)
          refine op (e_mapSet 4 Try.underlying117 kI rfl rfl rfl rfl hEc (fun _ _ => rfl) fun es2 clk2 hE2 => ?_)
          refine nil ?_
          refine n_in ?_
          exact round (rem2.length) [(0, .pointer (some ⟨x, 0, none⟩)), (4, .pointer (some ⟨b4, 0, none⟩)), (8, .slice A61 (dn.length + 1) cap61), (9, .slice (some ⟨b5, off5, none⟩) ((lf N dn).eraseIdx j).length cap9), (68, .pointer (some ⟨b68, 0, none⟩))] (by omega) ⟨rfl, rfl, rfl, rfl, rfl, trivial⟩ ⟨Ms ++ [(kk, q, ksq)], Mr2, rem2, seen2, _, _, _, rfl, rfl, rfl, rfl, hrem5, hM3, hI2, hE2, (hc.set kk _).cong (fun b => by
              rw [List.map_append, List.map_cons, List.map_nil, one1_snoc hkM]
              by_cases e : kk = b
              · subst e; simp only [if_true]; omega
              · simp only [if_neg e])⟩
    · try simp only [decide_eq_true_eq, decide_eq_false_iff_not, beq_iff_eq, bne_iff_ne, ne_eq, beq_eq_false_iff_ne, bne_eq_false_iff_eq, Bool.not_eq_true', Bool.not_eq_false', Bool.not_eq_true, Bool.not_eq_false, Decidable.not_not, Int.not_lt, Int.not_le] at h11
      refine exit ?_
      refine e_then ?_
      refine e_then ?_
      refine e_in ?_
      refine n_then ?_
      refine seq ?_
      refine region ?_
      refine op (y (x_move rfl) rfl ?_)
      refine op (y (x_assign rfl) rfl ?_)
      refine op (y (x_assign rfl) rfl ?_)
      refine nil ?_
      refine n_then ?_
      refine ret ?_
      have hl0 : (lf N dn).length = 0 := by omega
      have htn : topoR (Ob E) N = some dn := by rw [htg, hl0]; rfl
      refine drop0 ?_
      refine drop1 ?_
      refine drop1 ?_
      exact done rfl (.tmp rfl (.tmp rfl (.nil))) (Ro.le.refl _) (_) (⟨_, .refl _, .refl _⟩) (⟨A8, cap8, R8, rfl, .inr ⟨dn, htn, by omega, rfl, hO8⟩⟩)
  · skip
    obtain ⟨ka, hka⟩ : ∃ z, z = kk := ⟨_, rfl⟩
    subst hka
    obtain ⟨sa, hsa⟩ : ∃ z, z = seen2 := ⟨_, rfl⟩
    subst hsa
    have hIa := hI2
    have hla := hl2
    obtain ⟨p, M, Gr2, hGr2, rfl, hrem3⟩ := next_omg hrem hrem2
    have hG2 : (Gs ++ (ka, p, M) :: Gr2).Perm G := (hGr2.symm.append_left Gs).trans hG
    have hG3 : ((Gs ++ [(ka, p, M)]) ++ Gr2).Perm G := by simpa using hG2
    have hmg : (ka, p, M) ∈ G := hG2.mem_iff.1 (by simp)
    have hrl : rem.length = rem2.length + 1 := by simpa using hrem2.length_eq
    obtain ⟨ra, hra⟩ : ∃ z, z = rem2 := ⟨_, rfl⟩
    subst hra
    obtain ⟨es5, clk5, J5, hm5, hE5, _, _⟩ := hA.inner.mem hmg
    have hm6 := hin _ hm5
    have hO := outs_of hA hE hNe hmg
    have hMn := (hA.inner.mnodup _ hmg).1
    have hGl0 : Gs.length ≤ 1000 := by
      have h2 := (hG2.map (·.1)).length_eq
      have h3 := hN.length_eq
      have h4 : (nds G).length = (G.map (·.1)).length := rfl
      simp only [List.map_append, List.length_append, List.length_map] at h2 h4
      omega
    refine op (y (x_extract rfl rfl) rfl ?_)
    refine nil ?_
    refine n_then ?_
    refine seq ?_
    refine condT rfl ?_
    refine skip ?_
    refine n_then ?_
    refine block ?_
    refine seq ?_
    refine region ?_
    refine op (y (x_entry rfl (mem0 (List.mem_singleton.2 rfl)) (mem1 (mem1 (mem1 hmap))) hla) rfl ?_)
    refine op (y (x_extract rfl rfl) rfl ?_)
    refine op (y (x_assign rfl) rfl ?_)
    refine nil ?_
    refine n_then ?_
    refine seq ?_
    refine region ?_
    refine op (y (x_move rfl) rfl ?_)
    refine op (e_range rfl Try.underlying98 rfl (mem1 (mem1 (mem1 hm6))) fun b24 => ?_)
    refine nil ?_
    refine n_then ?_
    refine block ?_
    refine loop (fun m F ro' L' => ∃ (Ms : List (Int × Nat × List Int)) (Mr : List (Int × Nat × List Int)) (rem : List (Int × Value)) (seen : Array Nat) (mq : List (Int × Value)) (esc : Array MapEntry) (clkc : Nat), (m = rem.length) ∧ (F = [(0, .pointer (some ⟨x, 0, none⟩)), (4, .pointer (some ⟨b4, 0, none⟩)), (18, .pointer (some ⟨b18, 0, none⟩)), (24, .pointer (some ⟨b24, 0, none⟩))]) ∧ (ro = ro') ∧ (L' = [(b24, .mapIter (some p) clk5 seen clk5)] :: [(b18, .mapIter (some mo) clk sa clk)] :: [(b4, .cells [.map (some b13)].toArray 117 (0, 0))] :: [(b13, .map esc clkc)] :: L) ∧ (rem.Perm (omg Mr)) ∧ ((Ms ++ Mr).Perm M) ∧ (IterM encZ es5 clk5 seen rem) ∧ (MapE encZ mq esc clkc) ∧ (CntM (fun b => cnt E (Gs.map (·.1)) b + one1 (Ms.map (·.1)) b) mq)) ((omg M).length) [(0, .pointer (some ⟨x, 0, none⟩)), (4, .pointer (some ⟨b4, 0, none⟩)), (18, .pointer (some ⟨b18, 0, none⟩)), (24, .pointer (some ⟨b24, 0, none⟩))] ⟨rfl, rfl, rfl, rfl, trivial⟩ ⟨([] : List (Int × Nat × List Int)), M, omg M, #[], _, _, _, rfl, rfl, rfl, rfl, .refl _, by simp, hE5.iter, hEc, hc.cong (fun b => by simp [one1])⟩ ?_
    rintro m F ro' L' ⟨Ms, Mr, rem, seen, mq, esc, clkc, rfl, rfl, rfl, rfl, hrem, hM, hIt, hEc, hc⟩
    refine seq ?_
    refine region ?_
    refine op (e_next 0 rfl rfl rfl (mem1 (mem1 (mem1 (mem1 hm6)))) (hE5) (hIt) (fun _ => rfl) (fun hend => ?_) (fun kk vv rem2 seen2 hrem2 hI2 hl2 => ?_))
    · skip
      subst hend
      have hMr0 : Mr = [] := List.eq_nil_of_length_eq_zero (by have := hrem.length_eq; simpa [omg] using this.symm)
      subst hMr0
      have hMp : Ms.Perm M := by simpa using hM
      have hOM : ∀ b, one1 (Ms.map (·.1)) b = one1 (Ob E ka) b := one1_eq (fun b => ((hMp.map (·.1)).mem_iff).trans (hO b))
      refine drop0 ?_
      refine op (y (x_extract rfl rfl) rfl ?_)
      refine nil ?_
      refine n_then ?_
      refine seq ?_
      refine condF rfl ?_
      refine exit ?_
      refine e_then ?_
      refine e_then ?_
      refine e_in ?_
      refine n_in ?_
      exact round (ra.length) [(0, .pointer (some ⟨x, 0, none⟩)), (4, .pointer (some ⟨b4, 0, none⟩)), (18, .pointer (some ⟨b18, 0, none⟩))] (by omega) ⟨rfl, rfl, rfl, trivial⟩ ⟨Gs ++ [(ka, p, M)], Gr2, ra, sa, _, _, _, rfl, rfl, rfl, rfl, hrem3, hG3, hIa, hEc, hc.cong (fun b => by rw [hOM, List.map_append, List.map_cons, List.map_nil, cnt_snoc])⟩
    · skip
      obtain ⟨q, ksq, Mr2, hMr2, rfl, hrem5⟩ := next_omg hrem hrem2
      have hM2 : (Ms ++ (kk, q, ksq) :: Mr2).Perm M := (hMr2.symm.append_left Ms).trans hM
      have hM3 : ((Ms ++ [(kk, q, ksq)]) ++ Mr2).Perm M := by simpa using hM2
      have hrl2 : rem.length = rem2.length + 1 := by simpa using hrem2.length_eq
      have hmq : (kk, q, ksq) ∈ M := hM2.mem_iff.1 (by simp)
      have hkO : kk ∈ Ob E ka := (hO kk).1 (List.mem_map.2 ⟨_, hmq, rfl⟩)
      have hkM : kk ∉ Ms.map (·.1) := by
        have h1 : ((Ms ++ (kk, q, ksq) :: Mr2).map (·.1)).Nodup := (hM2.map _).nodup_iff.2 hMn
        rw [List.map_append, List.map_cons, List.nodup_append] at h1
        exact fun h => h1.2.2 kk h kk (by simp) rfl
      have ho0 : one1 (Ms.map (·.1)) kk = 0 := by unfold one1; rw [if_neg hkM]
      obtain ⟨hc0, hc1⟩ := cnt_le E (Gs.map (·.1)) kk
      simp only [List.length_map] at hc1
      refine op (y (x_extract rfl rfl) rfl ?_)
      refine nil ?_
      refine n_then ?_
      refine seq ?_
      refine condT rfl ?_
      refine skip ?_
      refine n_then ?_
      refine block ?_
      refine seq ?_
      refine region ?_
      refine op (y (x_entry rfl (mem0 (List.mem_singleton.2 rfl)) (mem1 (mem1 (mem1 (mem1 hm6)))) hl2) rfl ?_)
      refine op (y (x_extract rfl rfl) rfl ?_)
      refine op (y (x_assign rfl) rfl ?_)
      refine nil ?_
      refine n_then ?_
      refine region ?_
      refine op (y (x_load1 ag_117 rfl (Cell.own 2 rfl rfl)) rfl ?_)
      refine op (y (x_move rfl) rfl ?_)
      refine op (y ((x_lookup Try.underlying117 kI zc_3 rfl rfl (mem1 (mem1 (mem1 (mem0 (List.mem_singleton.2 rfl))))) hEc).as (v' := .int .i64 (cnt E (Gs.map (·.1)) kk + one1 (Ms.map (·.1)) kk)) (hc kk)) rfl ?_)
      refine op (y (x_add rfl rfl _ (wr (by omega) (by omega))) rfl ?_)
      refine op (e_mapSet 3 Try.underlying117 kI rfl rfl rfl rfl hEc (fun _ _ => rfl) fun es2 clk2 hE2 => ?_)
      refine nil ?_
      refine n_in ?_
      exact round (rem2.length) [(0, .pointer (some ⟨x, 0, none⟩)), (4, .pointer (some ⟨b4, 0, none⟩)), (18, .pointer (some ⟨b18, 0, none⟩)), (24, .pointer (some ⟨b24, 0, none⟩))] (by omega) ⟨rfl, rfl, rfl, rfl, trivial⟩ ⟨Ms ++ [(kk, q, ksq)], Mr2, rem2, seen2, _, _, _, rfl, rfl, rfl, rfl, hrem5, hM3, hI2, hE2, (hc.set kk _).cong (fun b => by
          rw [List.map_append, List.map_cons, List.map_nil, one1_snoc hkM]
          by_cases e : kk = b
          · subst e; simp only [if_true]; omega
          · simp only [if_neg e])⟩

end Go.Proofs.Ytlmeblhcipkgmaa
namespace Go.Proofs.Ytlmeblhcipkgmaa
open Go Go.U
set_option maxRecDepth 20000
set_option linter.unusedSimpArgs false
set_option linter.unusedVariables false

open Go.RowKit
theorem wk_snoc {O : Int → List Int} {b c : Int} (hc : c ∈ O b) : ∀ {d : Nat} {a : Int}, Wk O b d a → Wk O c (d + 1) a
  | 0, a, h => by
    have h : a = b := h
    subst h; exact ⟨c, hc, rfl⟩
  | d + 1, a, ⟨x, hx, hw⟩ => ⟨x, hx, wk_snoc hc hw⟩
theorem wk_app {O : Int → List Int} {b c : Int} {e : Nat} (hc : Wk O c e b) : ∀ {d : Nat} {a : Int}, Wk O b d a → Wk O c (d + e) a
  | 0, a, h => by
    have h : a = b := h
    subst h; simpa using hc
  | d + 1, a, ⟨x, hx, hw⟩ => by rw [show d + 1 + e = (d + e) + 1 by omega]; exact ⟨x, hx, wk_app hc hw⟩
theorem tg_wk {E : List Ed} {a b : Int} : TG (prE E) a b ↔ ∃ d, 1 ≤ d ∧ Wk (Ob E) b d a := by
  constructor
  · intro h
    induction h with
    | one h => exact ⟨1, by omega, _, ((BehindR_spec _ _).2 _).2 h, rfl⟩
    | step _ h ih =>
      obtain ⟨d, h1, h2⟩ := ih
      exact ⟨d + 1, by omega, wk_snoc (((BehindR_spec _ _).2 _).2 h) h2⟩
  · rintro ⟨d, h1, h2⟩
    have key : ∀ d a, Wk (Ob E) b (d + 1) a → TG (prE E) a b := by
      intro d
      induction d with
      | zero =>
        rintro a ⟨x, hx, hw⟩
        have hw : x = b := hw
        subst hw
        exact .one (((BehindR_spec _ _).2 _).1 hx)
      | succ d ih =>
        rintro a ⟨x, hx, hw⟩
        exact (TG.one (((BehindR_spec _ _).2 _).1 hx)).trans (ih x hw)
    obtain ⟨e, rfl⟩ : ∃ e, d = e + 1 := ⟨d - 1, by omega⟩
    exact key e a h2
theorem fin_wk {O : Int → List Int} {N : List Int} (hN : ∀ a b, b ∈ O a → a ∈ N) {k a : Int} : (fin O N k a).isSome = true ↔ ∃ d, 1 ≤ d ∧ Wk O k d a := by
  rw [Option.isSome_iff_exists]
  constructor
  · rintro ⟨d, h⟩
    have := (fin_spec hN a d).1 h
    exact ⟨d, this.1, this.2.1⟩
  · rintro ⟨d, h1, h2⟩
    obtain ⟨e, _, h3⟩ := Lst.of h1 h2
    exact ⟨e, (fin_spec hN a e).2 h3⟩
theorem fin_tg {E : List Ed} {N : List Int} (hN : ∀ a b, b ∈ Ob E a → a ∈ N) {a b : Int} : (fin (Ob E) N b a).isSome = true ↔ TG (prE E) a b := by rw [fin_wk hN, tg_wk]
/-- slices of numbers, each of its own memory -/
def InS (ps : List (List Int)) (vs : List Value) (RI : List Blk) : Prop := ∃ T : List (List Int × Option Addr × List Blk), ps = T.map (·.1) ∧ vs = T.map (fun t => Value.slice t.2.1 t.1.length t.1.length) ∧ RI = T.flatMap (·.2.2) ∧ ∀ t ∈ T, OwnS 3 1 t.2.1 t.1.length t.1.length (t.1.flatMap encInt) t.2.2
theorem InS.nil : InS [] [] [] := ⟨[], rfl, rfl, rfl, by simp⟩
theorem InS.snoc {ps : List (List Int)} {vs : List Value} {RI : List Blk} (h : InS ps vs RI) {p : List Int} {A : Option Addr} {R : List Blk} (ho : OwnS 3 1 A p.length p.length (p.flatMap encInt) R) : InS (ps ++ [p]) (vs ++ [.slice A p.length p.length]) (RI ++ R) := by
  obtain ⟨T, rfl, rfl, rfl, h4⟩ := h
  refine ⟨T ++ [(p, A, R)], by simp, by simp, by simp, fun t ht => ?_⟩
  rcases List.mem_append.1 ht with ht | ht
  · exact h4 t ht
  · rw [List.mem_singleton.1 ht]; exact ho
theorem OwnS.clip {e k : Nat} {A : Option Addr} {m cap : Nat} {xs : List Value} {R : List Blk} (h : OwnS e k A m cap xs R) : OwnS e k A m m xs R := by
  obtain ⟨h1, ⟨rfl, rfl, rfl, rfl⟩ | ⟨g, off, cur, rfl, rfl, h2, h3, h4, h5⟩⟩ := h
  · exact ⟨h1, .inl ⟨rfl, rfl, rfl, rfl⟩⟩
  · have : m * k ≤ cap * k := Nat.mul_le_mul_right _ h2
    exact ⟨h1, .inr ⟨g, off, cur, rfl, rfl, Nat.le_refl _, by omega, by omega, h5⟩⟩
/-- the map of what each node leads to -/
def RM (E : List Ed) (mq : List (Int × Value)) (IB : List Blk) (D : List Int) : Prop := ∀ a ∈ D, ∃ r es clk ks, mget mq a = some (.map (some r)) ∧ (r, Obj.map es clk) ∈ IB ∧ MapE encZ (im ks) es clk ∧ ks.Nodup ∧ ∀ b, b ∈ ks ↔ TG (prE E) a b
theorem RM.add {E : List Ed} {mq : List (Int × Value)} {IB : List Blk} {D : List Int} (h : RM E mq IB D) {a : Int} {r : Nat} {es : Array MapEntry} {clk : Nat} {ks : List Int} (hE : MapE encZ (im ks) es clk) (hk : ks.Nodup) (hm : ∀ b, b ∈ ks ↔ TG (prE E) a b) : RM E (mset mq a (.map (some r))) ((r, .map es clk) :: IB) (D ++ [a]) := fun c hc => by
  by_cases e : a = c
  · subst e
    exact ⟨r, es, clk, ks, by rw [mget_mset, if_pos rfl], by simp, hE, hk, hm⟩
  · have hc2 : c ∈ D := by
      rcases List.mem_append.1 hc with h1 | h1
      · exact h1
      · exact absurd (List.mem_singleton.1 h1).symm e
    obtain ⟨r', es', clk', ks', h1, h2, h3, h4, h5⟩ := h c hc2
    exact ⟨r', es', clk', ks', by rw [mget_mset, if_neg e]; exact h1, by simp [h2], h3, h4, h5⟩
theorem pgo_cong (M : Int → Int → Bool) (N : List Int) : ∀ {rest met met' : List Int}, (∀ x, x ∈ met ↔ x ∈ met') → pgo M N rest met = pgo M N rest met'
  | [], _, _, _ => rfl
  | a :: rest, met, met', h => by
    simp only [pgo]
    by_cases h1 : a ∈ met
    · rw [if_pos h1, if_pos ((h a).1 h1)]; exact pgo_cong M N h
    · rw [if_neg h1, if_neg (fun h2 => h1 ((h a).2 h2))]
      rw [pgo_cong M N (met := met ++ N.filter (M a)) (met' := met' ++ N.filter (M a)) (fun x => by simp only [List.mem_append, h x])]
def PPs (E : List Ed) (N : List Int) (L : List (List Blk)) : Value → Ro → List (List Blk) → Prop := fun v ro' L' => ∃ ps vs A cap R RI, v = .slice A ps.length cap ∧ OwnS 23 1 A ps.length cap vs R ∧ InS ps vs RI ∧ ps = partsR (Ob E) N ∧ L' = R :: RI :: L
theorem InS.len {ps : List (List Int)} {vs : List Value} {RI : List Blk} (h : InS ps vs RI) : vs.length = ps.length := by
  obtain ⟨T, rfl, rfl, _, _⟩ := h; simp

theorem Clip_c (A : Option Addr) (m cap : Nat) (ro : Ro) (L : List (List Blk)) (hm : m ≤ cap) :
    CT Try.prog 93 [.slice A m cap].toArray ro L (PQ (.slice A m m) ro L) := by
  refine enter Try.func93 rfl Try.ntmps93 rfl ?_
  refine seq ?_
  refine region ?_
  refine op (y (x_assign rfl) rfl ?_)
  refine nil ?_
  refine n_then ?_
  refine seq ?_
  refine region ?_
  refine op (y (x_move rfl) rfl ?_)
  refine op (y (x_move rfl) rfl ?_)
  refine op (y (x_lenSl sz_23 rfl) rfl ?_)
  refine op (y (x_move rfl) rfl ?_)
  refine op (y (x_lenSl sz_23 rfl) rfl ?_)
  refine op (y (x_sliceHi3 sz_23 rfl rfl rfl (by omega) (by omega)) rfl ?_)
  refine op (y (x_assign rfl) rfl ?_)
  refine nil ?_
  refine n_then ?_
  refine ret ?_
  exact done rfl (.tmp rfl (.nil)) (Ro.le.refl _) (L) (⟨_, .refl _, .refl _⟩) (⟨rfl, rfl, rfl⟩)

theorem GrParts_c (x : Nat) (N : List Int) (E : List Ed) (R : List Blk) (ro : Ro) (L : List (List Blk)) (hR : RelG x N E R) (hL : R ∈ L) (hNs : N.Pairwise (· < ·)) (hnN : N.length ≤ 1000) (hnE : E.length ≤ 1000) :
    CT Try.prog 48 [.pointer (some ⟨x, 0, none⟩)].toArray ro L (PPs E N L) := by
  refine enter Try.func48 rfl Try.ntmps48 rfl ?_
  have hRP := hR
  obtain ⟨G, mo, es, clk, I, hRB, hA, hN, hE, hGl, hNe⟩ := hR
  have hroot := relB_root hRB hL
  have hmap := relB_map hRB hL
  have hin := relB_in hRB hL
  have hnd := hA.nodup
  have hNO := RelG.ob hRP
  have hNn := nodup_lt hNs
  refine seq ?_
  refine region ?_
  refine op (y (x_assign rfl) rfl ?_)
  refine nil ?_
  refine n_then ?_
  refine seq ?_
  refine region ?_
  refine op (e_makeMap rfl fun b12 => ?_)
  refine op (y (x_assign rfl) rfl ?_)
  refine nil ?_
  refine n_then ?_
  refine seq ?_
  refine seq ?_
  refine region ?_
  refine op (y (x_move rfl) rfl ?_)
  refine op (y (x_nilPtr rfl) rfl ?_)
  refine op (y (x_fieldAddr fo_120_0 rfl) rfl ?_)
  refine op (y (x_load1 ag_118 rfl (Cell.blk (mem1 hroot) rfl)) rfl ?_)
  refine op (e_range rfl Try.underlying118 rfl (mem1 hmap) fun b17 => ?_)
  refine swap0 ?_
  refine emp ?_
  refine pull 2 rfl rfl ?_
  refine subL ([(b17, .mapIter (some mo) clk #[] clk)] :: [(b12, .map #[] 0)] :: [] :: L) ⟨_, .refl _, .refl _⟩ ?_
  refine nil ?_
  refine n_then ?_
  refine block ?_
  refine loop (fun m F ro' L' => ∃ (Gs : GrN) (Gr : GrN) (rem : List (Int × Value)) (seen : Array Nat) (mq : List (Int × Value)) (esr : Array MapEntry) (clkr : Nat) (IB : List Blk), (m = rem.length) ∧ (F = [(0, .pointer (some ⟨x, 0, none⟩)), (3, .map (some b12)), (17, .pointer (some ⟨b17, 0, none⟩))]) ∧ (ro = ro') ∧ (L' = [(b17, .mapIter (some mo) clk seen clk)] :: [(b12, .map esr clkr)] :: IB :: L) ∧ (rem.Perm (omg Gr)) ∧ ((Gs ++ Gr).Perm G) ∧ (IterM encZ es clk seen rem) ∧ (MapE encZ mq esr clkr) ∧ (RM E mq IB (Gs.map (·.1)))) ((omg G).length) [(0, .pointer (some ⟨x, 0, none⟩)), (3, .map (some b12)), (17, .pointer (some ⟨b17, 0, none⟩))] ⟨rfl, rfl, rfl, trivial⟩ ⟨([] : GrN), G, omg G, #[], [], #[], 0, [], rfl, rfl, rfl, rfl, .refl _, by simp, hA.outer.iter, MapE.empty, fun a h => absurd h (by simp)⟩ ?_
  rintro m F ro' L' ⟨Gs, Gr, rem, seen, mq, esr, clkr, IB, rfl, rfl, rfl, rfl, hrem, hG, hIt, hEr, hRM⟩
  refine seq ?_
  refine region ?_
  refine op (e_next 0 rfl rfl rfl (mem1 (mem1 (mem1 hmap))) (hA.outer) (hIt) (fun _ => rfl) (fun hend => ?_) (fun kk vv rem2 seen2 hrem2 hI2 hl2 => ?_))
  · skip
    subst hend
    have hGr0 : Gr = [] := List.eq_nil_of_length_eq_zero (by have := hrem.length_eq; simpa [omg] using this.symm)
    subst hGr0
    have hGp : Gs.Perm G := by simpa using hG
    have hRN : RM E mq IB N := fun a ha => hRM a ((hGp.map (·.1)).mem_iff.2 (hN.mem_iff.1 ha))
    refine drop0 ?_
    refine op (y (x_extract rfl rfl) rfl ?_)
    refine nil ?_
    refine n_then ?_
    refine seq ?_
    refine condF rfl ?_
    refine exit ?_
    refine e_then ?_
    refine e_then ?_
    refine e_in ?_
    refine n_then ?_
    refine seq ?_
    refine region ?_
    refine op (e_makeMap rfl fun b27 => ?_)
    refine op (y (x_assign rfl) rfl ?_)
    refine nil ?_
    refine n_then ?_
    refine seq ?_
    refine region ?_
    refine op (y (x_assign rfl) rfl ?_)
    refine nil ?_
    refine n_then ?_
    refine seq ?_
    refine seq ?_
    refine region ?_
    refine op (y (x_move rfl) rfl ?_)
    refine op (e_call rfl fn_50 rfl rfl (GrNodes_c x N E R _ _ hRP (List.mem_cons_of_mem _ (List.mem_cons_of_mem _ (List.mem_cons_of_mem _ hL))) (by omega) (by omega)) fun v29 ro29 L29 hle29 hp29 => ?_)
    obtain ⟨A29, cap29, R29, rfl, hO29, rfl, rfl⟩ := hp29
    refine ufreeze fun ro2 hle2 hR2 => ?_
    rw [srt_id hNs] at hO29 ⊢
    have hK := OwnS.sl hO29 (fun _ _ => rfl) hR2
    refine emp ?_
    refine emp ?_
    refine op (y (x_lenSl sz_23 rfl) rfl ?_)
    refine op (y (x_move rfl) rfl ?_)
    refine nil ?_
    refine n_then ?_
    refine block ?_
    refine loop (fun m F ro' L' => ∃ (i : Nat) (ps : List (List Int)) (vs : List Value) (A6 : Option Addr) (cap6 : Nat) (R6 : List Blk) (RI : List Blk) (mt : List Int) (esm : Array MapEntry) (clkm : Nat), (m = N.length - i) ∧ (F = [(0, .pointer (some ⟨x, 0, none⟩)), (3, .map (some b12)), (5, .map (some b27)), (29, .slice A29 N.length cap29), (30, .int .i64 (N.length : Nat)), (31, .int .i64 (i : Nat)), (6, .slice A6 ps.length cap6)]) ∧ (ro2 = ro') ∧ (L' = R6 :: RI :: [(b27, .map esm clkm)] :: [(b12, .map esr clkr)] :: IB :: L) ∧ (i ≤ N.length) ∧ (OwnS 23 1 A6 ps.length cap6 vs R6) ∧ (InS ps vs RI) ∧ (MapE encZ (im mt) esm clkm) ∧ (mt.Nodup) ∧ (partsR (Ob E) N = ps ++ pgo (mutu (Ob E) N) N (N.drop i) mt) ∧ (ps.length ≤ i)) (N.length - 0) [(0, .pointer (some ⟨x, 0, none⟩)), (3, .map (some b12)), (5, .map (some b27)), (29, .slice A29 N.length cap29), (30, .int .i64 (N.length : Nat)), (31, .int .i64 (0 : Nat)), (6, .slice none (([] : List (List Int))).length 0)] ⟨rfl, rfl, rfl, rfl, rfl, rfl, rfl, trivial⟩ ⟨0, ([] : List (List Int)), [], none, 0, _, _, ([] : List Int), _, _, rfl, rfl, rfl, rfl, by omega, OwnS.none_ 23 1, InS.nil, MapE.empty, by simp, rfl, by simp⟩ ?_
    rintro m F ro' L' ⟨i, ps, vs, A6, cap6, R6, RI, mt, esm, clkm, rfl, rfl, rfl, rfl, hi, hO6, hIn, hEm, hmt, hpg, hpi⟩
    refine seq ?_
    refine region ?_
    refine op (y (x_lss rfl rfl) rfl ?_)
    refine nil ?_
    refine n_then ?_
    refine seq ?_
    refine cond rfl (fun h9 => ?_) (fun h9 => ?_)
    · try simp only [decide_eq_true_eq, decide_eq_false_iff_not, beq_iff_eq, bne_iff_ne, ne_eq, beq_eq_false_iff_ne, bne_eq_false_iff_eq, Bool.not_eq_true', Bool.not_eq_false', Bool.not_eq_true, Bool.not_eq_false, Decidable.not_not, Int.not_lt, Int.not_le] at h9
      refine skip ?_
      refine n_then ?_
      refine seqM (fun F ro' L' => ∃ (ps : List (List Int)) (vs : List Value) (A6 : Option Addr) (cap6 : Nat) (R6 : List Blk) (RI : List Blk) (mt : List Int) (esm : Array MapEntry) (clkm : Nat), (F = [(0, .pointer (some ⟨x, 0, none⟩)), (3, .map (some b12)), (5, .map (some b27)), (29, .slice A29 N.length cap29), (30, .int .i64 (N.length : Nat)), (31, .int .i64 (i : Nat)), (6, .slice A6 ps.length cap6)]) ∧ (ro2 = ro') ∧ (L' = R6 :: RI :: [(b27, .map esm clkm)] :: [(b12, .map esr clkr)] :: IB :: L) ∧ (OwnS 23 1 A6 ps.length cap6 vs R6) ∧ (InS ps vs RI) ∧ (MapE encZ (im mt) esm clkm) ∧ (mt.Nodup) ∧ (partsR (Ob E) N = ps ++ pgo (mutu (Ob E) N) N (N.drop (i + 1)) mt) ∧ (ps.length ≤ i + 1) ∧ (i < N.length)) ?_ ?_
      · skip
        refine block ?_
        refine seq ?_
        have hil : i < N.length := by omega
        obtain ⟨bbx, offx, rfl, hcx⟩ := hK.at_ (i := i) (by omega)
        have hx := List.getElem?_eq_getElem (show i < N.length from by omega)
        have cx0 := hcx i _ hx 0 _ rfl
        have hdr : N.drop i = N[i] :: N.drop (i + 1) := List.drop_eq_getElem_cons hil
        refine region ?_
        refine op (y (x_indexNat sz_23 rfl rfl (by omega)) rfl ?_)
        refine op (y (x_load1 ag_3 rfl (by first | assumption | exact Cell.own 0 rfl rfl | exact Cell.own 1 rfl rfl | exact Cell.own 2 rfl rfl | exact Cell.own 3 rfl rfl | exact Cell.own 4 rfl rfl | exact Cell.own 5 rfl rfl | exact Cell.ofRo (by assumption))) rfl ?_)
        refine op (y (x_assign rfl) rfl ?_)
        refine nil ?_
        refine n_then ?_
        refine seq ?_
        refine seq ?_
        refine region ?_
        refine op (y (x_move rfl) rfl ?_)
        refine op (y (x_move rfl) rfl ?_)
        refine op (y (x_lookupV Try.underlying110 kI zc_4 rfl rfl (mem1 (mem1 (mem0 (List.mem_singleton.2 rfl)))) hEm (mget_im hmt)) rfl ?_)
        refine nil ?_
        refine n_then ?_
        refine cond rfl (fun h11 => ?_) (fun h11 => ?_)
        · try simp only [decide_eq_true_eq, decide_eq_false_iff_not, beq_iff_eq, bne_iff_ne, ne_eq, beq_eq_false_iff_ne, bne_eq_false_iff_eq, Bool.not_eq_true', Bool.not_eq_false', Bool.not_eq_true, Bool.not_eq_false, Decidable.not_not, Int.not_lt, Int.not_le] at h11
          have hpg2 : partsR (Ob E) N = ps ++ pgo (mutu (Ob E) N) N (N.drop (i + 1)) mt := by rw [hpg, hdr]; simp only [pgo]; rw [if_pos (by simpa using h11)]
          refine exit ?_
          refine e_then ?_
          refine e_in ?_
          exact mid [(0, .pointer (some ⟨x, 0, none⟩)), (3, .map (some b12)), (5, .map (some b27)), (29, .slice _ N.length cap29), (30, .int .i64 (N.length : Nat)), (31, .int .i64 (i : Nat)), (6, .slice _ ps.length _)] ⟨rfl, rfl, rfl, rfl, rfl, rfl, rfl, trivial⟩ ⟨ps, vs, _, _, _, _, mt, _, _, rfl, rfl, rfl, hO6, hIn, hEm, hmt, hpg2, by omega, hil⟩
        · try simp only [decide_eq_true_eq, decide_eq_false_iff_not, beq_iff_eq, bne_iff_ne, ne_eq, beq_eq_false_iff_ne, bne_eq_false_iff_eq, Bool.not_eq_true', Bool.not_eq_false', Bool.not_eq_true, Bool.not_eq_false, Decidable.not_not, Int.not_lt, Int.not_le] at h11
          refine skip ?_
          refine n_then ?_
          refine seq ?_
          refine region ?_
          refine op (y (x_assign rfl) rfl ?_)
          refine nil ?_
          refine n_then ?_
          refine seq ?_
          refine seq ?_
          refine region ?_
          refine op (y (x_move rfl) rfl ?_)
          refine op (e_call rfl fn_50 rfl rfl (GrNodes_c x N E R _ _ hRP (List.mem_cons_of_mem _ (mem2 (mem2 hL))) (by omega) (by omega)) fun v39 ro39 L39 hle39 hp39 => ?_)
          obtain ⟨A39, cap39, R39, rfl, hO39, rfl, rfl⟩ := hp39
          rw [srt_id hNs] at hO39 ⊢
          refine emp ?_
          refine op (y (x_lenSl sz_23 rfl) rfl ?_)
          refine op (y (x_move rfl) rfl ?_)
          refine nil ?_
          refine n_then ?_
          refine block ?_
          refine loop (fun m F ro' L' => ∃ (k : Nat) (A9 : Option Addr) (cap9 : Nat) (R9 : List Blk) (mt2 : List Int) (esm2 : Array MapEntry) (clkm2 : Nat), (m = N.length - k) ∧ (F = [(0, .pointer (some ⟨x, 0, none⟩)), (3, .map (some b12)), (5, .map (some b27)), (6, .slice A6 ps.length cap6), (29, .slice (some ⟨bbx, offx, none⟩) N.length cap29), (30, .int .i64 (N.length : Nat)), (31, .int .i64 (i : Nat)), (8, .int .i64 N[i]), (39, .slice A39 N.length cap39), (40, .int .i64 (N.length : Nat)), (41, .int .i64 (k : Nat)), (9, .slice A9 ((N.take k).filter ((mutu (Ob E) N) N[i])).length cap9)]) ∧ (ro2 = ro') ∧ (L' = R9 :: R39 :: R6 :: RI :: [(b27, .map esm2 clkm2)] :: [(b12, .map esr clkr)] :: IB :: L) ∧ (k ≤ N.length) ∧ (OwnS 3 1 A9 ((N.take k).filter ((mutu (Ob E) N) N[i])).length cap9 (((N.take k).filter ((mutu (Ob E) N) N[i])).flatMap encInt) R9) ∧ (MapE encZ (im mt2) esm2 clkm2) ∧ (mt2.Nodup) ∧ (∀ z, z ∈ mt2 ↔ z ∈ mt ∨ z ∈ ((N.take k).filter ((mutu (Ob E) N) N[i])))) (N.length - 0) [(0, .pointer (some ⟨x, 0, none⟩)), (3, .map (some b12)), (5, .map (some b27)), (6, .slice A6 ps.length cap6), (29, .slice (some ⟨bbx, offx, none⟩) N.length cap29), (30, .int .i64 (N.length : Nat)), (31, .int .i64 (i : Nat)), (8, .int .i64 N[i]), (39, .slice A39 N.length cap39), (40, .int .i64 (N.length : Nat)), (41, .int .i64 (0 : Nat)), (9, .slice none ((N.take 0).filter ((mutu (Ob E) N) N[i])).length 0)] ⟨rfl, rfl, rfl, rfl, rfl, rfl, rfl, rfl, rfl, rfl, rfl, rfl, trivial⟩ ⟨0, none, 0, _, mt, _, _, rfl, rfl, rfl, rfl, by omega, OwnS.none_ 3 1, hEm, hmt, fun z => by simp⟩ ?_
          rintro m F ro' L' ⟨k, A9, cap9, R9, mt2, esm2, clkm2, rfl, rfl, rfl, rfl, hk, hO9, hEm2, hmt2, hmm⟩
          refine seq ?_
          refine region ?_
          refine op (y (x_lss rfl rfl) rfl ?_)
          refine nil ?_
          refine n_then ?_
          refine seq ?_
          refine cond rfl (fun h14 => ?_) (fun h14 => ?_)
          · try simp only [decide_eq_true_eq, decide_eq_false_iff_not, beq_iff_eq, bne_iff_ne, ne_eq, beq_eq_false_iff_ne, bne_eq_false_iff_eq, Bool.not_eq_true', Bool.not_eq_false', Bool.not_eq_true, Bool.not_eq_false, Decidable.not_not, Int.not_lt, Int.not_le] at h14
            refine skip ?_
            refine n_then ?_
            refine seqM (fun F ro' L' => ∃ (A9 : Option Addr) (cap9 : Nat) (R9 : List Blk) (mt2 : List Int) (esm2 : Array MapEntry) (clkm2 : Nat), (F = [(0, .pointer (some ⟨x, 0, none⟩)), (3, .map (some b12)), (5, .map (some b27)), (6, .slice A6 ps.length cap6), (29, .slice (some ⟨bbx, offx, none⟩) N.length cap29), (30, .int .i64 (N.length : Nat)), (31, .int .i64 (i : Nat)), (8, .int .i64 N[i]), (39, .slice A39 N.length cap39), (40, .int .i64 (N.length : Nat)), (41, .int .i64 (k : Nat)), (9, .slice A9 ((N.take (k + 1)).filter ((mutu (Ob E) N) N[i])).length cap9)]) ∧ (ro2 = ro') ∧ (L' = R9 :: R39 :: R6 :: RI :: [(b27, .map esm2 clkm2)] :: [(b12, .map esr clkr)] :: IB :: L) ∧ (k < N.length) ∧ (OwnS 3 1 A9 ((N.take (k + 1)).filter ((mutu (Ob E) N) N[i])).length cap9 (((N.take (k + 1)).filter ((mutu (Ob E) N) N[i])).flatMap encInt) R9) ∧ (MapE encZ (im mt2) esm2 clkm2) ∧ (mt2.Nodup) ∧ (∀ z, z ∈ mt2 ↔ z ∈ mt ∨ z ∈ ((N.take (k + 1)).filter ((mutu (Ob E) N) N[i])))) ?_ ?_
            · skip
              refine block ?_
              refine seq ?_
              have hkl : k < N.length := by omega
              obtain ⟨b5, off5, cur5, rfl, rfl, y2, hy2, hc5⟩ := OwnS.intAt hO39 hkl rfl
              have hyN : y2 ∈ N := List.mem_of_getElem? hy2
              refine region ?_
              refine op (y (x_indexNat sz_23 rfl rfl (by omega)) rfl ?_)
              refine op (y (x_load1 ag_3 rfl (Cell.own 1 rfl hc5)) rfl ?_)
              refine op (y (x_assign rfl) rfl ?_)
              refine nil ?_
              refine n_then ?_
              refine seq ?_
              obtain ⟨ra, esa, clka, ksa, hga, hma, hEa, hka, hTa⟩ := hRN N[i] (List.getElem_mem hil)
              obtain ⟨rb, esb, clkb, ksb, hgb, hmb, hEb, hkb, hTb⟩ := hRN y2 hyN
              have hMv : mutu (Ob E) N N[i] y2 = (decide (N[i] = y2) || (decide (y2 ∈ ksa) && decide (N[i] ∈ ksb))) := by
                unfold mutu
                have e1 : (fin (Ob E) N y2 N[i]).isSome = decide (y2 ∈ ksa) := by rw [Bool.eq_iff_iff, fin_tg hNO, decide_eq_true_eq, hTa]
                have e2 : (fin (Ob E) N N[i] y2).isSome = decide (N[i] ∈ ksb) := by rw [Bool.eq_iff_iff, fin_tg hNO, decide_eq_true_eq, hTb]
                rw [e1, e2]
              have hpl : ((N.take k).filter (mutu (Ob E) N N[i])).length ≤ 1000 := by
                have h1 := List.length_filter_le (mutu (Ob E) N N[i]) (N.take k)
                rw [List.length_take] at h1
                omega
              refine region ?_
              refine op (y (x_move rfl) rfl ?_)
              refine op (y (x_move rfl) rfl ?_)
              refine op (y (x_eql rfl rfl) rfl ?_)
              refine op (y (x_move rfl) rfl ?_)
              refine bsplit 48 rfl (fun g48 => ?_) (fun g48 => ?_)
              · try simp only [decide_eq_true_eq, decide_eq_false_iff_not, beq_iff_eq, bne_iff_ne, ne_eq, beq_eq_false_iff_ne, bne_eq_false_iff_eq, Bool.not_eq_true', Bool.not_eq_false', Bool.not_eq_true, Bool.not_eq_false, Decidable.not_not, Int.not_lt, Int.not_le] at g48
                refine opN rfl rfl rfl rfl ?_
                refine opN rfl rfl rfl rfl ?_
                refine opN rfl rfl rfl rfl ?_
                refine opN rfl rfl rfl rfl ?_
                refine opN rfl rfl rfl rfl ?_
                refine opN rfl rfl rfl rfl ?_
                refine opU rfl rfl rfl ?_
                refine opU rfl rfl rfl ?_
                refine opU rfl rfl rfl ?_
                refine opU rfl rfl rfl ?_
                refine opU rfl rfl rfl ?_
                refine opN rfl rfl rfl rfl ?_
                refine op (y (x_pickT rfl rfl) rfl ?_)
                refine nil ?_
                refine n_then ?_
                refine condT rfl ?_
                refine seq ?_
                refine region ?_
                refine op (y (x_move rfl) rfl ?_)
                refine op (y (x_move rfl) rfl ?_)
                refine op (e_slice1 rfl Try.underlying23 ti_3 rfl rfl (by decide) (by decide) rfl rfl rfl fun b64 => ?_)
                refine op (e_append1 0 rfl st_23 rfl rfl rfl hO9 rfl rfl (by omega) (by omega) (fun _ => rfl) fun A65 cap65 R65 hO65 => ?_)
                refine op (y (x_assign rfl) rfl ?_)
                refine nil ?_
                refine n_then ?_
                refine region ?_
                refine op (y (x_move rfl) rfl ?_)
                refine op (y (x_move rfl) rfl ?_)
                refine op (e_mapSet 4 Try.underlying110 kI rfl rfl rfl rfl hEm2 (fun _ _ => rfl) fun es2 clk2 hE2 => ?_)
                rw [mset_im] at hE2
                refine nil ?_
                refine n_in ?_
                have hMt : mutu (Ob E) N N[i] y2 = true := by
                  rw [hMv]
                  simp only [Bool.or_eq_true, Bool.and_eq_true, decide_eq_true_eq]
                  first
                  | exact .inl (by assumption)
                  | exact .inr ⟨by assumption, by assumption⟩
                have hpt : (N.take (k + 1)).filter (mutu (Ob E) N N[i]) = (N.take k).filter (mutu (Ob E) N N[i]) ++ [y2] := by rw [take_snoc' hy2, List.filter_append]; simp [hMt]
                have hptl : ((N.take (k + 1)).filter (mutu (Ob E) N N[i])).length = ((N.take k).filter (mutu (Ob E) N N[i])).length + 1 := by rw [hpt]; simp
                rw [← hptl] at hO65 ⊢
                exact mid [(0, .pointer (some ⟨x, 0, none⟩)), (3, .map (some b12)), (5, .map (some b27)), (6, .slice A6 ps.length cap6), (29, .slice (some ⟨bbx, offx, none⟩) N.length cap29), (30, .int .i64 (N.length : Nat)), (31, .int .i64 (i : Nat)), (8, .int .i64 N[i]), (39, .slice _ N.length cap39), (40, .int .i64 (N.length : Nat)), (41, .int .i64 (k : Nat)), (9, .slice _ ((N.take (k + 1)).filter ((mutu (Ob E) N) N[i])).length _)] ⟨rfl, rfl, rfl, rfl, rfl, rfl, rfl, rfl, rfl, rfl, rfl, rfl, trivial⟩ ⟨_, _, _, _, _, _, rfl, rfl, rfl, hkl, by rw [hpt] at hO65 ⊢; exact hO65.snoc, hE2, by
                    split
                    · exact hmt2
                    · rename_i h9
                      rw [List.nodup_append]
                      exact ⟨hmt2, by simp, fun u hu w hw e => by rw [List.mem_singleton.1 hw] at e; subst e; exact h9 hu⟩, fun z => by
                    rw [hpt, List.mem_append, List.mem_singleton]
                    split
                    · rename_i h9
                      rw [hmm]
                      constructor
                      · rintro (h | h)
                        · exact .inl h
                        · exact .inr (.inl h)
                      · rintro (h | h | rfl)
                        · exact .inl h
                        · exact .inr h
                        · exact (hmm _).1 h9
                    · rw [List.mem_append, List.mem_singleton, hmm, or_assoc]⟩
              · try simp only [decide_eq_true_eq, decide_eq_false_iff_not, beq_iff_eq, bne_iff_ne, ne_eq, beq_eq_false_iff_ne, bne_eq_false_iff_eq, Bool.not_eq_true', Bool.not_eq_false', Bool.not_eq_true, Bool.not_eq_false, Decidable.not_not, Int.not_lt, Int.not_le] at g48
                refine opG rfl rfl (y (x_move rfl) rfl ?_)
                refine opG rfl rfl (y (x_move rfl) rfl ?_)
                refine opG rfl rfl (y (x_lookupV Try.underlying98 kI zc_110 rfl rfl (mem1 (mem1 (mem1 (mem1 (mem1 (mem0 (List.mem_singleton.2 rfl))))))) hEr (by rw [hga])) rfl ?_)
                refine opG rfl rfl (y (x_move rfl) rfl ?_)
                refine opG rfl rfl (y (x_lookupV Try.underlying110 kI zc_4 rfl rfl (mem1 (mem1 (mem1 (mem1 (mem1 (mem1 (mem0 hma))))))) hEa (mget_im hka)) rfl ?_)
                refine opG rfl rfl (y (x_move rfl) rfl ?_)
                refine bsplit 54 rfl (fun g54 => ?_) (fun g54 => ?_)
                · try simp only [decide_eq_true_eq, decide_eq_false_iff_not, beq_iff_eq, bne_iff_ne, ne_eq, beq_eq_false_iff_ne, bne_eq_false_iff_eq, Bool.not_eq_true', Bool.not_eq_false', Bool.not_eq_true, Bool.not_eq_false, Decidable.not_not, Int.not_lt, Int.not_le] at g54
                  refine opG rfl rfl (y (x_move rfl) rfl ?_)
                  refine opG rfl rfl (y (x_move rfl) rfl ?_)
                  refine opG rfl rfl (y (x_lookupV Try.underlying98 kI zc_110 rfl rfl (mem1 (mem1 (mem1 (mem1 (mem1 (mem0 (List.mem_singleton.2 rfl))))))) hEr (by rw [hgb])) rfl ?_)
                  refine opG rfl rfl (y (x_move rfl) rfl ?_)
                  refine opG rfl rfl (y (x_lookupV Try.underlying110 kI zc_4 rfl rfl (mem1 (mem1 (mem1 (mem1 (mem1 (mem1 (mem0 hmb))))))) hEb (mget_im hkb)) rfl ?_)
                  refine opG rfl rfl (y (x_pickT rfl rfl) rfl ?_)
                  refine op (y (x_pickF rfl rfl) rfl ?_)
                  refine nil ?_
                  refine n_then ?_
                  refine cond rfl (fun h16 => ?_) (fun h16 => ?_)
                  · try simp only [decide_eq_true_eq, decide_eq_false_iff_not, beq_iff_eq, bne_iff_ne, ne_eq, beq_eq_false_iff_ne, bne_eq_false_iff_eq, Bool.not_eq_true', Bool.not_eq_false', Bool.not_eq_true, Bool.not_eq_false, Decidable.not_not, Int.not_lt, Int.not_le] at h16
                    refine seq ?_
                    refine region ?_
                    refine op (y (x_move rfl) rfl ?_)
                    refine op (y (x_move rfl) rfl ?_)
                    refine op (e_slice1 rfl Try.underlying23 ti_3 rfl rfl (by decide) (by decide) rfl rfl rfl fun b64 => ?_)
                    refine op (e_append1 0 rfl st_23 rfl rfl rfl hO9 rfl rfl (by omega) (by omega) (fun _ => rfl) fun A65 cap65 R65 hO65 => ?_)
                    refine op (y (x_assign rfl) rfl ?_)
                    refine nil ?_
                    refine n_then ?_
                    refine region ?_
                    refine op (y (x_move rfl) rfl ?_)
                    refine op (y (x_move rfl) rfl ?_)
                    refine op (e_mapSet 4 Try.underlying110 kI rfl rfl rfl rfl hEm2 (fun _ _ => rfl) fun es2 clk2 hE2 => ?_)
                    rw [mset_im] at hE2
                    refine nil ?_
                    refine n_in ?_
                    have hMt : mutu (Ob E) N N[i] y2 = true := by
                      rw [hMv]
                      simp only [Bool.or_eq_true, Bool.and_eq_true, decide_eq_true_eq]
                      first
                      | exact .inl (by assumption)
                      | exact .inr ⟨by assumption, by assumption⟩
                    have hpt : (N.take (k + 1)).filter (mutu (Ob E) N N[i]) = (N.take k).filter (mutu (Ob E) N N[i]) ++ [y2] := by rw [take_snoc' hy2, List.filter_append]; simp [hMt]
                    have hptl : ((N.take (k + 1)).filter (mutu (Ob E) N N[i])).length = ((N.take k).filter (mutu (Ob E) N N[i])).length + 1 := by rw [hpt]; simp
                    rw [← hptl] at hO65 ⊢
                    exact mid [(0, .pointer (some ⟨x, 0, none⟩)), (3, .map (some b12)), (5, .map (some b27)), (6, .slice A6 ps.length cap6), (29, .slice (some ⟨bbx, offx, none⟩) N.length cap29), (30, .int .i64 (N.length : Nat)), (31, .int .i64 (i : Nat)), (8, .int .i64 N[i]), (39, .slice _ N.length cap39), (40, .int .i64 (N.length : Nat)), (41, .int .i64 (k : Nat)), (9, .slice _ ((N.take (k + 1)).filter ((mutu (Ob E) N) N[i])).length _)] ⟨rfl, rfl, rfl, rfl, rfl, rfl, rfl, rfl, rfl, rfl, rfl, rfl, trivial⟩ ⟨_, _, _, _, _, _, rfl, rfl, rfl, hkl, by rw [hpt] at hO65 ⊢; exact hO65.snoc, hE2, by
                        split
                        · exact hmt2
                        · rename_i h9
                          rw [List.nodup_append]
                          exact ⟨hmt2, by simp, fun u hu w hw e => by rw [List.mem_singleton.1 hw] at e; subst e; exact h9 hu⟩, fun z => by
                        rw [hpt, List.mem_append, List.mem_singleton]
                        split
                        · rename_i h9
                          rw [hmm]
                          constructor
                          · rintro (h | h)
                            · exact .inl h
                            · exact .inr (.inl h)
                          · rintro (h | h | rfl)
                            · exact .inl h
                            · exact .inr h
                            · exact (hmm _).1 h9
                        · rw [List.mem_append, List.mem_singleton, hmm, or_assoc]⟩
                  · try simp only [decide_eq_true_eq, decide_eq_false_iff_not, beq_iff_eq, bne_iff_ne, ne_eq, beq_eq_false_iff_ne, bne_eq_false_iff_eq, Bool.not_eq_true', Bool.not_eq_false', Bool.not_eq_true, Bool.not_eq_false, Decidable.not_not, Int.not_lt, Int.not_le] at h16
                    refine skip ?_
                    refine n_in ?_
                    have hMf : mutu (Ob E) N N[i] y2 = false := by
                      rw [hMv]
                      refine Bool.eq_false_iff.2 (fun h => ?_)
                      simp only [Bool.or_eq_true, Bool.and_eq_true, decide_eq_true_eq] at h
                      rcases h with h | ⟨h, hh⟩ <;> contradiction
                    have hpt : (N.take (k + 1)).filter (mutu (Ob E) N N[i]) = (N.take k).filter (mutu (Ob E) N N[i]) := by rw [take_snoc' hy2, List.filter_append]; simp [hMf]
                    rw [← hpt] at hO9 ⊢
                    exact mid [(0, .pointer (some ⟨x, 0, none⟩)), (3, .map (some b12)), (5, .map (some b27)), (6, .slice A6 ps.length cap6), (29, .slice (some ⟨bbx, offx, none⟩) N.length cap29), (30, .int .i64 (N.length : Nat)), (31, .int .i64 (i : Nat)), (8, .int .i64 N[i]), (39, .slice _ N.length cap39), (40, .int .i64 (N.length : Nat)), (41, .int .i64 (k : Nat)), (9, .slice _ ((N.take (k + 1)).filter ((mutu (Ob E) N) N[i])).length _)] ⟨rfl, rfl, rfl, rfl, rfl, rfl, rfl, rfl, rfl, rfl, rfl, rfl, trivial⟩ ⟨_, _, _, _, _, _, rfl, rfl, rfl, hkl, hO9, hEm2, hmt2, by rw [hpt]; exact hmm⟩
                · try simp only [decide_eq_true_eq, decide_eq_false_iff_not, beq_iff_eq, bne_iff_ne, ne_eq, beq_eq_false_iff_ne, bne_eq_false_iff_eq, Bool.not_eq_true', Bool.not_eq_false', Bool.not_eq_true, Bool.not_eq_false, Decidable.not_not, Int.not_lt, Int.not_le] at g54
                  refine opN rfl rfl rfl rfl ?_
                  refine opN rfl rfl rfl rfl ?_
                  refine opN rfl rfl rfl rfl ?_
                  refine opN rfl rfl rfl rfl ?_
                  refine opN rfl rfl rfl rfl ?_
                  refine opG rfl rfl (y (x_pickF rfl rfl) rfl ?_)
                  refine op (y (x_pickF rfl rfl) rfl ?_)
                  refine nil ?_
                  refine n_then ?_
                  refine condF rfl ?_
                  refine skip ?_
                  refine n_in ?_
                  have hMf : mutu (Ob E) N N[i] y2 = false := by
                    rw [hMv]
                    refine Bool.eq_false_iff.2 (fun h => ?_)
                    simp only [Bool.or_eq_true, Bool.and_eq_true, decide_eq_true_eq] at h
                    rcases h with h | ⟨h, hh⟩ <;> contradiction
                  have hpt : (N.take (k + 1)).filter (mutu (Ob E) N N[i]) = (N.take k).filter (mutu (Ob E) N N[i]) := by rw [take_snoc' hy2, List.filter_append]; simp [hMf]
                  rw [← hpt] at hO9 ⊢
                  exact mid [(0, .pointer (some ⟨x, 0, none⟩)), (3, .map (some b12)), (5, .map (some b27)), (6, .slice A6 ps.length cap6), (29, .slice (some ⟨bbx, offx, none⟩) N.length cap29), (30, .int .i64 (N.length : Nat)), (31, .int .i64 (i : Nat)), (8, .int .i64 N[i]), (39, .slice _ N.length cap39), (40, .int .i64 (N.length : Nat)), (41, .int .i64 (k : Nat)), (9, .slice _ ((N.take (k + 1)).filter ((mutu (Ob E) N) N[i])).length _)] ⟨rfl, rfl, rfl, rfl, rfl, rfl, rfl, rfl, rfl, rfl, rfl, rfl, trivial⟩ ⟨_, _, _, _, _, _, rfl, rfl, rfl, hkl, hO9, hEm2, hmt2, by rw [hpt]; exact hmm⟩
            · rintro F ro' L' ⟨A9, cap9, R9, mt2, esm2, clkm2, rfl, rfl, rfl, hkl, hO9, hEm2, hmt2, hmm⟩
              refine region ?_
              refine op (y (x_add rfl rfl _ (wr (by omega) (by omega))) rfl ?_)
              refine op (y (x_move rfl) rfl ?_)
              refine nil ?_
              exact round (N.length - (k + 1)) [(0, .pointer (some ⟨x, 0, none⟩)), (3, .map (some b12)), (5, .map (some b27)), (6, .slice A6 ps.length cap6), (29, .slice (some ⟨bbx, offx, none⟩) N.length cap29), (30, .int .i64 (N.length : Nat)), (31, .int .i64 (i : Nat)), (8, .int .i64 N[i]), (39, .slice _ N.length cap39), (40, .int .i64 (N.length : Nat)), (41, .int .i64 ((k + 1) : Nat)), (9, .slice _ ((N.take (k + 1)).filter ((mutu (Ob E) N) N[i])).length _)] (by omega) ⟨rfl, rfl, rfl, rfl, rfl, rfl, rfl, rfl, rfl, rfl, rfl, rfl, trivial⟩ ⟨k + 1, _, _, _, _, _, _, rfl, rfl, rfl, rfl, by omega, hO9, hEm2, hmt2, hmm⟩
          · try simp only [decide_eq_true_eq, decide_eq_false_iff_not, beq_iff_eq, bne_iff_ne, ne_eq, beq_eq_false_iff_ne, bne_eq_false_iff_eq, Bool.not_eq_true', Bool.not_eq_false', Bool.not_eq_true, Bool.not_eq_false, Decidable.not_not, Int.not_lt, Int.not_le] at h14
            refine exit ?_
            refine e_then ?_
            refine e_then ?_
            refine e_in ?_
            refine n_then ?_
            obtain rfl : k = N.length := by omega
            rw [List.take_length] at hO9 hmm ⊢
            have hpl2 : ((N).filter (mutu (Ob E) N N[i])).length ≤ 1000 := by
              have h1 := List.length_filter_le (mutu (Ob E) N N[i]) N
              omega
            have hcp : ((N).filter (mutu (Ob E) N N[i])).length ≤ cap9 := by
              obtain ⟨_, ⟨_, h1, h2, _⟩ | ⟨_, _, _, _, _, h2, _, _⟩⟩ := hO9 <;> omega
            generalize hpq : (N).filter (mutu (Ob E) N N[i]) = pq at *
            refine region ?_
            refine op (y (x_move rfl) rfl ?_)
            refine op (y (x_move rfl) rfl ?_)
            refine op (e_call rfl fn_93 rfl rfl (Clip_c A9 pq.length cap9 _ _ hcp) fun v71 ro71 L71 hle71 hp71 => ?_)
            obtain ⟨rfl, rfl, rfl⟩ := hp71
            refine op (e_slice1 rfl Try.underlying69 ti_23 rfl rfl (by decide) (by decide) rfl rfl rfl fun b72 => ?_)
            refine op (e_append1 2 rfl st_69 rfl rfl rfl hO6 rfl rfl (by omega) (by omega) (fun _ => rfl) fun A73 cap73 R73 hO73 => ?_)
            refine op (y (x_assign rfl) rfl ?_)
            refine nil ?_
            refine n_in ?_
            have hpsl : (ps ++ [pq]).length = ps.length + 1 := by simp
            rw [← hpsl] at hO73 ⊢
            have hpg3 : partsR (Ob E) N = (ps ++ [pq]) ++ pgo (mutu (Ob E) N) N (N.drop (i + 1)) mt2 := by
              rw [hpg, hdr]; simp only [pgo]; rw [if_neg (by simpa using h11), hpq, pgo_cong _ _ (met := mt ++ pq) (met' := mt2) (fun z => by rw [hmm, List.mem_append])]; simp
            refine swap0 ?_
            refine drop0 ?_
            refine subL (R73 :: (RI ++ R9) :: [(b27, .map esm2 clkm2)] :: [(b12, .map esr clkr)] :: IB :: L) ⟨_, by
              simp only [List.flatten_cons, List.append_assoc]
              exact ((List.perm_append_comm_assoc RI R9 _).append_left R73).trans (List.perm_append_comm_assoc R73 R9 _), .refl _⟩ ?_
            exact mid [(0, .pointer (some ⟨x, 0, none⟩)), (3, .map (some b12)), (5, .map (some b27)), (29, .slice _ N.length cap29), (30, .int .i64 (N.length : Nat)), (31, .int .i64 (i : Nat)), (6, .slice _ ((ps ++ [pq])).length _)] ⟨rfl, rfl, rfl, rfl, rfl, rfl, rfl, trivial⟩ ⟨(ps ++ [pq]), _, _, _, _, _, mt2, _, _, rfl, rfl, rfl, hO73, InS.snoc hIn (OwnS.clip hO9), hEm2, hmt2, hpg3, by rw [hpsl]; omega, hil⟩
      · rintro F ro' L' ⟨ps, vs, A6, cap6, R6, RI, mt, esm, clkm, rfl, rfl, rfl, hO6, hIn, hEm, hmt, hpg, hpi, hil⟩
        refine region ?_
        refine op (y (x_add rfl rfl _ (wr (by omega) (by omega))) rfl ?_)
        refine op (y (x_move rfl) rfl ?_)
        refine nil ?_
        exact round (N.length - (i + 1)) [(0, .pointer (some ⟨x, 0, none⟩)), (3, .map (some b12)), (5, .map (some b27)), (29, .slice _ N.length cap29), (30, .int .i64 (N.length : Nat)), (31, .int .i64 ((i + 1) : Nat)), (6, .slice _ ps.length _)] (by omega) ⟨rfl, rfl, rfl, rfl, rfl, rfl, rfl, trivial⟩ ⟨i + 1, ps, vs, _, _, _, _, mt, _, _, rfl, rfl, rfl, rfl, by omega, hO6, hIn, hEm, hmt, hpg, hpi⟩
    · try simp only [decide_eq_true_eq, decide_eq_false_iff_not, beq_iff_eq, bne_iff_ne, ne_eq, beq_eq_false_iff_ne, bne_eq_false_iff_eq, Bool.not_eq_true', Bool.not_eq_false', Bool.not_eq_true, Bool.not_eq_false, Decidable.not_not, Int.not_lt, Int.not_le] at h9
      refine exit ?_
      refine e_then ?_
      refine e_then ?_
      refine e_in ?_
      refine n_then ?_
      refine seq ?_
      refine region ?_
      refine op (y (x_move rfl) rfl ?_)
      refine op (y (x_assign rfl) rfl ?_)
      refine nil ?_
      refine n_then ?_
      refine ret ?_
      obtain rfl : i = N.length := by omega
      rw [List.drop_length] at hpg
      have hpe : ps = partsR (Ob E) N := by rw [hpg]; simp [pgo]
      exact done rfl (.tmp rfl (.nil)) (hle2) (R6 :: RI :: L) (⟨_, .refl _, List.Sublist.append (.refl _) (List.Sublist.append (.refl _) (List.sublist_append_of_sublist_right (List.sublist_append_of_sublist_right (List.sublist_append_right _ _))))⟩) (⟨ps, vs, A6, cap6, R6, RI, rfl, hO6, hIn, hpe, rfl⟩)
  · skip
    obtain ⟨p, M, Gr2, hGr2, rfl, hrem3⟩ := next_omg hrem hrem2
    have hG2 : (Gs ++ (kk, p, M) :: Gr2).Perm G := (hGr2.symm.append_left Gs).trans hG
    have hG3 : ((Gs ++ [(kk, p, M)]) ++ Gr2).Perm G := by simpa using hG2
    have hmg : (kk, p, M) ∈ G := hG2.mem_iff.1 (by simp)
    have hrl : rem.length = rem2.length + 1 := by simpa using hrem2.length_eq
    refine op (y (x_extract rfl rfl) rfl ?_)
    refine nil ?_
    refine n_then ?_
    refine seq ?_
    refine condT rfl ?_
    refine skip ?_
    refine n_then ?_
    refine block ?_
    refine seq ?_
    refine region ?_
    refine op (y (x_entry rfl (mem0 (List.mem_singleton.2 rfl)) (mem1 (mem1 (mem1 hmap))) hl2) rfl ?_)
    refine op (y (x_extract rfl rfl) rfl ?_)
    refine op (y (x_assign rfl) rfl ?_)
    refine nil ?_
    refine n_then ?_
    refine region ?_
    refine op (y (x_move rfl) rfl ?_)
    refine op (y (x_move rfl) rfl ?_)
    refine op (y (x_move rfl) rfl ?_)
    refine op (y (x_move rfl) rfl ?_)
    refine op (e_call rfl fn_92 rfl rfl (GrReached_c x N E R _ _ hRP (List.mem_cons_of_mem _ (List.mem_cons_of_mem _ (List.mem_cons_of_mem _ hL))) hnN hnE kk) fun v26 ro26 L26 hle26 hp26 => ?_)
    obtain ⟨mr, esk, clkk, ksk, rfl, hEk, hksn, hksm, rfl, rfl⟩ := hp26
    refine op (e_mapSet 2 Try.underlying98 kI rfl rfl rfl rfl hEr (fun _ _ => rfl) fun es2 clk2 hE2 => ?_)
    refine subL ([(b17, .mapIter (some mo) clk seen2 clk)] :: [(b12, .map es2 clk2)] :: ((mr, .map esk clkk) :: IB) :: L) ⟨_, by
      simp only [List.flatten_cons, List.cons_append, List.nil_append]
      exact ((List.Perm.swap _ _ _).cons _).trans (List.Perm.swap _ _ _), .refl _⟩ ?_
    refine nil ?_
    refine n_in ?_
    exact round (rem2.length) [(0, .pointer (some ⟨x, 0, none⟩)), (3, .map (some b12)), (17, .pointer (some ⟨b17, 0, none⟩))] (by omega) ⟨rfl, rfl, rfl, trivial⟩ ⟨Gs ++ [(kk, p, M)], Gr2, rem2, seen2, _, _, _, _, rfl, rfl, rfl, rfl, hrem3, hG3, hI2, hE2, by rw [List.map_append]; exact hRM.add hEk hksn hksm⟩

end Go.Proofs.Ytlmeblhcipkgmaa
