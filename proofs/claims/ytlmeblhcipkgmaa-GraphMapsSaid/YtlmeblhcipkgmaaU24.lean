/- Orders, cycles and parts tell the same. Plain laws, no program in sight. -/
import Derived.Test.YtlmeblhcipkgmaaU23
namespace Go.U
set_option linter.unusedVariables false
set_option linter.unusedSectionVars false

section
variable {O : Int → List Int} {N : List Int}

theorem Wk.app {b c : Int} {e : Nat} (hc : Wk O c e b) : ∀ {d : Nat} {a : Int}, Wk O b d a → Wk O c (d + e) a
  | 0, a, h => by
    have h : a = b := h
    subst h; simpa using hc
  | d + 1, a, ⟨x, hx, hw⟩ => by rw [show d + 1 + e = (d + e) + 1 by omega]; exact ⟨x, hx, Wk.app hc hw⟩
theorem fin_some (hN : ∀ a b, b ∈ O a → a ∈ N) {k a : Int} : (fin O N k a).isSome = true ↔ ∃ d, 1 ≤ d ∧ Wk O k d a := by
  rw [Option.isSome_iff_exists]
  constructor
  · rintro ⟨d, h⟩
    have := (fin_spec hN a d).1 h
    exact ⟨d, this.1, this.2.1⟩
  · rintro ⟨d, h1, h2⟩
    obtain ⟨e, _, h3⟩ := Lst.of h1 h2
    exact ⟨e, (fin_spec hN a e).2 h3⟩
theorem fin_trans (hN : ∀ a b, b ∈ O a → a ∈ N) {a b c : Int} (h : (fin O N b a).isSome = true) (h' : (fin O N c b).isSome = true) : (fin O N c a).isSome = true := by
  obtain ⟨d, h1, h2⟩ := (fin_some hN).1 h
  obtain ⟨e, h3, h4⟩ := (fin_some hN).1 h'
  exact (fin_some hN).2 ⟨d + e, by omega, Wk.app h4 h2⟩
theorem fin_edge (hN : ∀ a b, b ∈ O a → a ∈ N) {a b : Int} (h : b ∈ O a) : (fin O N b a).isSome = true := (fin_some hN).2 ⟨1, by omega, b, h, rfl⟩

/-! ### the order -/
theorem tpick_spec (hs : N.Pairwise (· < ·)) {dn : List Int} {n : Int} (h : tpick O N dn = some n) : n ∈ N ∧ n ∉ dn ∧ (∀ a ∈ N, a ∈ dn ∨ n ∉ O a) ∧ ∀ m ∈ N, m < n → m ∈ dn ∨ ∃ a ∈ N, a ∉ dn ∧ m ∈ O a := by
  unfold tpick at h
  have h1 := List.find?_some h
  have h2 := List.mem_of_find?_eq_some h
  have h3 : ∀ d : Int, tfree O N dn d = true ↔ d ∉ dn ∧ ∀ a ∈ N, a ∈ dn ∨ d ∉ O a := fun d => by
    unfold tfree
    simp only [Bool.and_eq_true, Bool.not_eq_true', decide_eq_false_iff_not, List.all_eq_true, Bool.or_eq_true, decide_eq_true_eq]
  obtain ⟨h4, h5⟩ := (h3 n).1 h1
  refine ⟨h2, h4, h5, fun m hm hlt => ?_⟩
  have h6 : tfree O N dn m = false := by
    rw [List.find?_eq_some_iff_append] at h
    obtain ⟨_, as, bs, hab, hall⟩ := h
    rw [hab] at hs hm
    rw [List.pairwise_append, List.pairwise_cons] at hs
    rcases List.mem_append.1 hm with hm | hm
    · have := hall m hm; simpa using this
    · rcases List.mem_cons.1 hm with rfl | hm
      · omega
      · have := hs.2.1.1 m hm; omega
  by_cases h7 : m ∈ dn
  · exact .inl h7
  · refine .inr (Classical.byContradiction fun h8 => ?_)
    have : tfree O N dn m = true := (h3 m).2 ⟨h7, fun a ha => Classical.byContradiction fun h9 => by
      rw [not_or, Classical.not_not] at h9
      exact h8 ⟨a, ha, h9.1, h9.2⟩⟩
    rw [h6] at this; cases this
theorem tgo_spec : ∀ {m : Nat} {dn l : List Int}, tgo O N m dn = some l → ∃ s, l = dn ++ s ∧ s.length = m ∧ ∀ j n, s[j]? = some n → tpick O N (dn ++ s.take j) = some n
  | 0, dn, l, h => by
    simp only [tgo, Option.some.injEq] at h
    subst h
    exact ⟨[], by simp, rfl, by simp⟩
  | m + 1, dn, l, h => by
    simp only [tgo] at h
    split at h
    · rename_i n hn
      obtain ⟨s, h1, h2, h3⟩ := tgo_spec h
      refine ⟨n :: s, by rw [h1]; simp, by simp [h2], fun j c hj => ?_⟩
      cases j with
      | zero => simp at hj; subst hj; simpa using hn
      | succ j =>
        have := h3 j c (by simpa using hj)
        simpa using this
    · cases h
theorem tgo_none : ∀ {m : Nat} {dn : List Int}, dn.Nodup → (∀ a ∈ dn, a ∈ N) → dn.length + m = N.length → tgo O N m dn = none → ∃ d : List Int, d.Nodup ∧ (∀ a ∈ d, a ∈ N) ∧ d.length < N.length ∧ tpick O N d = none
  | 0, dn, _, _, _, h => by simp [tgo] at h
  | m + 1, dn, h1, h2, h3, h => by
    simp only [tgo] at h
    split at h
    · rename_i n hn
      have h4 := List.find?_some hn
      have h5 := List.mem_of_find?_eq_some hn
      have h6 : n ∉ dn := by
        unfold tfree at h4
        simp only [Bool.and_eq_true, Bool.not_eq_true', decide_eq_false_iff_not] at h4
        exact h4.1
      refine tgo_none ?_ (fun a ha => ?_) (by simp; omega) h
      · rw [List.nodup_append]
        exact ⟨h1, by simp, fun u hu w hw e => by rw [List.mem_singleton.1 hw] at e; subst e; exact h6 hu⟩
      · rcases List.mem_append.1 ha with ha | ha
        · exact h2 a ha
        · rw [List.mem_singleton.1 ha]; exact h5
    · rename_i hn
      exact ⟨dn, h1, h2, by omega, hn⟩
theorem cover {l : List Int} (h1 : l.Nodup) (h2 : ∀ a ∈ l, a ∈ N) (h3 : N.length ≤ l.length) : ∀ a ∈ N, a ∈ l := fun a ha => Classical.byContradiction fun h => by
  have := nodup_le (List.nodup_cons.2 ⟨h, h1⟩) (m := N) (fun x hx => by
    rcases List.mem_cons.1 hx with rfl | hx
    · exact ha
    · exact h2 x hx)
  simp at this; omega
structure IsTopo (O : Int → List Int) (N l : List Int) : Prop where
  nodup : l.Nodup
  mem : ∀ a, a ∈ l ↔ a ∈ N
  edge : ∀ a b, b ∈ O a → a ∈ N → ∀ i j : Nat, l[i]? = some a → l[j]? = some b → i < j
  early : ∀ (k i : Nat) (x z : Int), k < i → l[k]? = some x → l[i]? = some z → z < x → ∃ (j : Nat) (w : Int), k ≤ j ∧ j < i ∧ l[j]? = some w ∧ z ∈ O w
theorem nodup_get {l : List Int} (h : l.Nodup) {i j : Nat} {a : Int} (hi : l[i]? = some a) (hj : l[j]? = some a) : i = j := by
  obtain ⟨h1, h2⟩ := List.getElem?_eq_some_iff.1 hi
  obtain ⟨h3, h4⟩ := List.getElem?_eq_some_iff.1 hj
  have hp := List.pairwise_iff_getElem.1 h
  rcases Nat.lt_trichotomy i j with hlt | he | hgt
  · exact absurd (h2.trans h4.symm) (hp i j h1 h3 hlt)
  · exact he
  · exact absurd (h4.trans h2.symm) (hp j i h3 h1 hgt)
theorem mem_take {l : List Int} {j : Nat} {a : Int} : a ∈ l.take j ↔ ∃ i : Nat, i < j ∧ l[i]? = some a := by
  constructor
  · intro h
    obtain ⟨i, hi, e⟩ := List.getElem_of_mem h
    rw [List.length_take] at hi
    refine ⟨i, by omega, ?_⟩
    rw [List.getElem_take] at e
    rw [List.getElem?_eq_getElem (by omega), e]
  · rintro ⟨i, h1, h2⟩
    exact List.mem_of_getElem? (i := i) (by rw [List.getElem?_take, if_pos h1]; exact h2)
theorem topo_is (hs : N.Pairwise (· < ·)) {l : List Int} (h : topoR O N = some l) : IsTopo O N l := by
  obtain ⟨s, h1, h2, h3⟩ := tgo_spec h
  rw [List.nil_append] at h1
  subst h1
  simp only [List.nil_append] at h3
  have hsp : ∀ (j : Nat) n, l[j]? = some n → _ := fun j n hj => tpick_spec hs (h3 j n hj)
  have hnd : l.Nodup := by
    rw [List.Nodup, List.pairwise_iff_getElem]
    intro i j hi hj hij e
    have := (hsp j l[j] (List.getElem?_eq_getElem hj)).2.1
    exact this (mem_take.2 ⟨i, hij, by rw [List.getElem?_eq_getElem hi, e]⟩)
  have hsub : ∀ a ∈ l, a ∈ N := fun a ha => by
    obtain ⟨j, hj, e⟩ := List.getElem_of_mem ha
    rw [← e]; exact (hsp j _ (List.getElem?_eq_getElem hj)).1
  refine ⟨hnd, fun a => ⟨hsub a, cover hnd hsub (by omega) a⟩, fun a b hb ha i j hi hj => ?_, fun k i x z hki hk hi hlt => ?_⟩
  · rcases (hsp j b hj).2.2.1 a ha with h | h
    · obtain ⟨i', h4, h5⟩ := mem_take.1 h
      rw [nodup_get hnd hi h5]; exact h4
    · exact absurd hb h
  · obtain ⟨h4, h5, h6, h7⟩ := hsp k x hk
    rcases h7 z (hsub z (List.mem_of_getElem? hi)) hlt with h8 | ⟨a, h8, h9, h10⟩
    · obtain ⟨i', h11, h12⟩ := mem_take.1 h8
      have := nodup_get hnd hi h12
      omega
    · rcases (hsp i z hi).2.2.1 a h8 with h11 | h11
      · obtain ⟨j, h12, h13⟩ := mem_take.1 h11
        refine ⟨j, a, ?_, h12, h13, h10⟩
        rcases Nat.lt_or_ge j k with h14 | h14
        · exact absurd (mem_take.2 ⟨j, h14, h13⟩) h9
        · exact h14
      · exact absurd h10 h11
theorem topo_acyc (hN : ∀ a b, b ∈ O a → a ∈ N) {l : List Int} (h : IsTopo O N l) (k : Int) : (fin O N k k).isSome = false := by
  cases hf : (fin O N k k).isSome with
  | false => rfl
  | true =>
    obtain ⟨d, h1, h2⟩ := (fin_some hN).1 hf
    have key : ∀ (d : Nat) (a : Int), Wk O k d a → ∀ i j : Nat, l[i]? = some a → l[j]? = some k → i + d ≤ j := by
      intro d
      induction d with
      | zero =>
        intro a hw i j hi hj
        have hw : a = k := hw
        subst hw
        rw [nodup_get h.nodup hi hj]; omega
      | succ d ih =>
        rintro a ⟨b, hb, hw⟩ i j hi hj
        have hbl : b ∈ l := by
          cases d with
          | zero => have hw : b = k := hw
                    subst hw; exact List.mem_of_getElem? hj
          | succ d => obtain ⟨c, hc, _⟩ := hw
                      exact (h.mem b).2 (hN b c hc)
        obtain ⟨q, hq, e⟩ := List.getElem_of_mem hbl
        have hq' : l[q]? = some b := by rw [List.getElem?_eq_getElem hq, e]
        have h3 := h.edge a b hb (hN a b hb) i q hi hq'
        have h4 := ih b hw q j hq' hj
        omega
    have hkl : k ∈ l := by
      obtain ⟨e, rfl⟩ : ∃ e, d = e + 1 := ⟨d - 1, by omega⟩
      obtain ⟨b, hb, _⟩ := h2
      exact (h.mem k).2 (hN k b hb)
    obtain ⟨q, hq, e⟩ := List.getElem_of_mem hkl
    have hq' : l[q]? = some k := by rw [List.getElem?_eq_getElem hq, e]
    have := key d k h2 q q hq' hq'
    omega
theorem topo_cyc (hs : N.Pairwise (· < ·)) (hN : ∀ a b, b ∈ O a → a ∈ N) (h : topoR O N = none) : ∃ k ∈ N, (fin O N k k).isSome = true := by
  obtain ⟨d, h1, h2, h3, h4⟩ := tgo_none (by simp) (by simp) (by simp) h
  refine Classical.byContradiction fun hno => ?_
  have hno' : ∀ k ∈ N, (fin O N k k).isSome = false := fun k hk => by
    cases hf : (fin O N k k).isSome with
    | false => rfl
    | true => exact absurd ⟨k, hk, hf⟩ hno
  have hpre : ∀ n ∈ N, n ∉ d → ∃ a ∈ N, a ∉ d ∧ n ∈ O a := fun n hn hd => Classical.byContradiction fun hx => by
    have := List.find?_eq_none.1 h4 n hn
    apply this
    unfold tfree
    simp only [Bool.and_eq_true, Bool.not_eq_true', decide_eq_false_iff_not, List.all_eq_true, Bool.or_eq_true, decide_eq_true_eq]
    exact ⟨hd, fun a ha => Classical.byContradiction fun h9 => by
      rw [not_or, Classical.not_not] at h9
      exact hx ⟨a, ha, h9.1, h9.2⟩⟩
  have hnN : N.Nodup := hs.imp (fun h => by omega)
  let rk : Int → Nat := fun n => (N.filter (fun x => (fin O N x n).isSome)).length
  have hrk : ∀ n ∈ N, ∀ a, n ∈ O a → rk n < rk a := fun n hn a ha => by
    have hnd : (n :: N.filter (fun x => (fin O N x n).isSome)).Nodup := List.nodup_cons.2 ⟨(fun hm => by
      have := (List.mem_filter.1 hm).2
      rw [hno' n hn] at this; cases this), List.Nodup.sublist List.filter_sublist hnN⟩
    have := nodup_le hnd (m := N.filter (fun x => (fin O N x a).isSome)) (fun x hx => by
      rcases List.mem_cons.1 hx with rfl | hx
      · exact List.mem_filter.2 ⟨hn, fin_edge hN ha⟩
      · obtain ⟨h5, h6⟩ := List.mem_filter.1 hx
        exact List.mem_filter.2 ⟨h5, fin_trans hN (fin_edge hN ha) h6⟩)
    rw [List.length_cons] at this
    exact this
  have hall : ∀ r : Nat, ∃ n ∈ N, n ∉ d ∧ r ≤ rk n := by
    intro r
    induction r with
    | zero =>
      refine Classical.byContradiction fun hx => ?_
      have hsub : ∀ a ∈ N, a ∈ d := fun a ha => Classical.byContradiction fun hd => hx ⟨a, ha, hd, Nat.zero_le _⟩
      have := nodup_le hnN hsub
      omega
    | succ r ih =>
      obtain ⟨n, h5, h6, h7⟩ := ih
      obtain ⟨a, h8, h9, h10⟩ := hpre n h5 h6
      exact ⟨a, h8, h9, by have := hrk n h5 a h10; omega⟩
  obtain ⟨n, h5, _, h6⟩ := hall (N.length + 1)
  have : rk n ≤ N.length := List.length_filter_le _ _
  omega

/-! ### the cycle -/
theorem cyc_nil : cycR O N = [] ↔ ∀ k ∈ N, (fin O N k k).isSome = false := by
  unfold cycR
  constructor
  · intro h k hk
    cases hf : N.find? (fun k => (fin O N k k).isSome) with
    | none =>
      have := List.find?_eq_none.1 hf k hk
      simpa using this
    | some c =>
      rw [hf] at h
      have h1 := List.find?_some hf
      obtain ⟨n, hn⟩ := Option.isSome_iff_exists.1 h1
      simp [cyc1, hn] at h
  · intro h
    have hf : N.find? (fun k => (fin O N k k).isSome) = none := List.find?_eq_none.2 (fun k hk => by rw [h k hk]; simp)
    rw [hf]
theorem topo_cyc_iff (hs : N.Pairwise (· < ·)) (hN : ∀ a b, b ∈ O a → a ∈ N) : (topoR O N).isSome = decide ((cycR O N).length = 0) := by
  cases ht : topoR O N with
  | some l =>
    have h1 : cycR O N = [] := cyc_nil.2 (fun k _ => topo_acyc hN (topo_is hs ht) k)
    simp [h1]
  | none =>
    obtain ⟨k, hk, hf⟩ := topo_cyc hs hN ht
    have h1 : cycR O N ≠ [] := fun h => by
      have := cyc_nil.1 h k hk
      rw [hf] at this; cases this
    have : ¬ (cycR O N).length = 0 := fun h => h1 (List.eq_nil_of_length_eq_zero h)
    simp [h1]

/-! ### the parts -/
theorem mutu_iff {a b : Int} : mutu O N a b = true ↔ a = b ∨ ((fin O N b a).isSome = true ∧ (fin O N a b).isSome = true) := by
  unfold mutu
  simp only [Bool.or_eq_true, Bool.and_eq_true, decide_eq_true_eq]
theorem mutu_trans (hN : ∀ a b, b ∈ O a → a ∈ N) {a b c : Int} (h : mutu O N a b = true) (h' : mutu O N b c = true) : mutu O N a c = true := by
  rw [mutu_iff] at *
  rcases h with rfl | ⟨h1, h2⟩
  · exact h'
  · rcases h' with rfl | ⟨h3, h4⟩
    · exact .inr ⟨h1, h2⟩
    · exact .inr ⟨fin_trans hN h1 h3, fin_trans hN h4 h2⟩
theorem mutu_refl (a : Int) : mutu O N a a = true := mutu_iff.2 (.inl rfl)
theorem mutu_symm {a b : Int} (h : mutu O N a b = true) : mutu O N b a = true := by
  rw [mutu_iff] at *
  rcases h with rfl | ⟨h1, h2⟩
  · exact .inl rfl
  · exact .inr ⟨h2, h1⟩
theorem pgo_spec {M : Int → Int → Bool} (hM : ∀ a, M a a = true) : ∀ {rest met : List Int}, (∀ a ∈ rest, a ∈ N) → (∀ p ∈ pgo M N rest met, ∃ a ∈ rest, p = N.filter (M a)) ∧ ∀ a ∈ rest, a ∈ met ∨ ∃ p ∈ pgo M N rest met, a ∈ p
  | [], met, _ => by simp [pgo]
  | a :: rest, met, h => by
    simp only [pgo]
    split
    · rename_i hm
      obtain ⟨h1, h2⟩ := pgo_spec hM (rest := rest) (met := met) (fun b hb => h b (by simp [hb]))
      refine ⟨fun p hp => ?_, fun b hb => ?_⟩
      · obtain ⟨c, hc, e⟩ := h1 p hp
        exact ⟨c, by simp [hc], e⟩
      · rcases List.mem_cons.1 hb with rfl | hb
        · exact .inl hm
        · exact h2 b hb
    · obtain ⟨h1, h2⟩ := pgo_spec hM (rest := rest) (met := met ++ N.filter (M a)) (fun b hb => h b (by simp [hb]))
      refine ⟨fun p hp => ?_, fun b hb => ?_⟩
      · rcases List.mem_cons.1 hp with rfl | hp
        · exact ⟨a, by simp, rfl⟩
        · obtain ⟨c, hc, e⟩ := h1 p hp
          exact ⟨c, by simp [hc], e⟩
      · rcases List.mem_cons.1 hb with rfl | hb
        · exact .inr ⟨_, by simp, List.mem_filter.2 ⟨h b (by simp), hM b⟩⟩
        · rcases h2 b hb with h3 | ⟨p, hp, h3⟩
          · rcases List.mem_append.1 h3 with h3 | h3
            · exact .inl h3
            · exact .inr ⟨_, by simp, h3⟩
          · exact .inr ⟨p, by simp [hp], h3⟩
theorem parts_spec : (∀ p ∈ partsR O N, ∃ a ∈ N, p = N.filter (mutu O N a)) ∧ ∀ a ∈ N, ∃ p ∈ partsR O N, a ∈ p := by
  obtain ⟨h1, h2⟩ := pgo_spec (N := N) (M := mutu O N) mutu_refl (rest := N) (met := []) (fun a h => h)
  exact ⟨h1, fun a ha => (h2 a ha).resolve_left (by simp)⟩
theorem parts_ne {p : List Int} (hp : p ∈ partsR O N) : 0 < p.length := by
  obtain ⟨a, ha, rfl⟩ := parts_spec.1 p hp
  exact List.length_pos_of_mem (List.mem_filter.2 ⟨ha, mutu_refl a⟩)
/-- does a part stand for itself? -/
def alone (O : Int → List Int) (p : List Int) : Prop := p.length = 1 ∧ ∀ a, p[0]? = some a → a ∉ O a
theorem single_iff (hs : N.Pairwise (· < ·)) (hN : ∀ a b, b ∈ O a → a ∈ N) (hN2 : ∀ a b, b ∈ O a → b ∈ N) : cycR O N = [] ↔ ∀ p ∈ partsR O N, alone O p := by
  rw [cyc_nil]
  constructor
  · intro h p hp
    obtain ⟨a, ha, rfl⟩ := parts_spec.1 p hp
    have h1 : ∀ b, mutu O N a b = true → a = b := fun b hb => by
      rcases mutu_iff.1 hb with h2 | ⟨h2, h3⟩
      · exact h2
      · have := fin_trans hN h2 h3
        rw [h a ha] at this; cases this
    have hnN : N.Nodup := hs.imp (fun h => by omega)
    have h2 : N.filter (mutu O N a) = [a] := by
      refine List.Perm.eq_singleton ((List.perm_ext_iff_of_nodup (List.Nodup.sublist List.filter_sublist hnN) (by simp)).2 fun x => ?_)
      rw [List.mem_filter, List.mem_singleton]
      exact ⟨fun h => (h1 x h.2).symm, fun e => by subst e; exact ⟨ha, mutu_refl x⟩⟩
    rw [h2]
    refine ⟨rfl, fun b hb hbO => ?_⟩
    simp at hb; subst hb
    have := fin_edge hN hbO
    rw [h a ha] at this; cases this
  · intro h k hk
    cases hf : (fin O N k k).isSome with
    | false => rfl
    | true =>
      obtain ⟨p, hp, hkp⟩ := parts_spec.2 k hk
      obtain ⟨h1, h2⟩ := h p hp
      have hpk : p = [k] := by
        match p, h1, hkp with
        | [c], _, hk => rw [List.mem_singleton.1 hk]
      obtain ⟨d, hd⟩ := Option.isSome_iff_exists.1 hf
      have hl := (fin_spec hN k d).1 hd
      rcases Nat.lt_or_ge 1 d with h3 | h3
      · obtain ⟨e, rfl⟩ : ∃ e, d = e + 1 := ⟨d - 1, by omega⟩
        obtain ⟨b, hb, hbk, hlb⟩ := hl.step (by omega)
        obtain ⟨a, ha, rfl⟩ := parts_spec.1 p hp
        have hbp : b ∈ N.filter (mutu O N a) := by
          have hak := (List.mem_filter.1 hkp).2
          refine List.mem_filter.2 ⟨hN2 k b hb, mutu_trans hN hak (mutu_iff.2 (.inr ⟨fin_edge hN hb, ?_⟩))⟩
          exact (fin_some hN).2 ⟨e, hlb.1, hlb.2.1⟩
        rw [hpk] at hbp
        exact absurd (List.mem_singleton.1 hbp) hbk
      · obtain rfl : d = 1 := by have := hl.1; omega
        obtain ⟨b, hb, hw⟩ := hl.2.1
        have hw : b = k := hw
        subst hw
        exact absurd hb (h2 b (by rw [hpk]; rfl))
end
end Go.U
