/- What the least of the shortest cycles is made of. Plain laws, no program in sight. -/
import Derived.Test.YtlmeblhcipkgmaaU24
namespace Go.U
set_option linter.unusedVariables false
set_option linter.unusedSectionVars false

section
variable {O : Int → List Int} {N : List Int}
theorem Wk.snoc {b c : Int} (hc : c ∈ O b) {d : Nat} {a : Int} (h : Wk O b d a) : Wk O c (d + 1) a := Wk.app (e := 1) ⟨c, hc, rfl⟩ h
theorem Wk.unsnoc {c : Int} : ∀ {d : Nat} {a : Int}, Wk O c (d + 1) a → ∃ b, Wk O b d a ∧ c ∈ O b
  | 0, a, ⟨x, hx, hw⟩ => by
    have hw : x = c := hw
    subst hw; exact ⟨a, rfl, hx⟩
  | d + 1, a, ⟨x, hx, hw⟩ => by
    obtain ⟨b, h1, h2⟩ := Wk.unsnoc hw
    exact ⟨b, ⟨x, hx, h1⟩, h2⟩
theorem cg_spec (hN : ∀ a b, b ∈ O a → a ∈ N) {k : Int} : ∀ {m : Nat} {a : Int}, Lst O k (m + 1) a →
    (cg O (fin O N k) k m a).length = m ∧ (∀ i b, (cg O (fin O N k) k m a)[i]? = some b → Lst O k (m - i) b ∧ b ≠ k) ∧
    (∀ i x z, (a :: cg O (fin O N k) k m a)[i]? = some x → (a :: cg O (fin O N k) k m a)[i + 1]? = some z → z ∈ O x) ∧ ∀ z, (a :: cg O (fin O N k) k m a)[m]? = some z → k ∈ O z
  | 0, a, h => by
    refine ⟨rfl, by simp [cg], fun i x z hx hz => by simp [cg] at hz, fun z hz => ?_⟩
    simp [cg] at hz
    subst hz
    obtain ⟨b, hb, hw⟩ := h.2.1
    have hw : b = k := hw
    subst hw; exact hb
  | m + 1, a, h => by
    obtain ⟨b0, h1, h2, h3⟩ := h.step (by omega)
    cases hf : (O a).find? (fun b => fin O N k b == some (m + 1) && !decide (b = k)) with
    | none =>
      have := List.find?_eq_none.1 hf b0 h1
      rw [(fin_spec hN b0 _).2 h3] at this
      simp [h2] at this
    | some b =>
      have hp := List.find?_some hf
      have hb := List.mem_of_find?_eq_some hf
      simp only [Bool.and_eq_true, beq_iff_eq, Bool.not_eq_true', decide_eq_false_iff_not] at hp
      have hl := (fin_spec hN b _).1 hp.1
      obtain ⟨h4, h5, h6, h7⟩ := cg_spec hN hl
      have e : cg O (fin O N k) k (m + 1) a = b :: cg O (fin O N k) k m b := by simp only [cg, hf]
      rw [e]
      refine ⟨by simp [h4], fun i c hc => ?_, fun i x z hx hz => ?_, fun z hz => ?_⟩
      · cases i with
        | zero => simp at hc; subst hc; exact ⟨hl, hp.2⟩
        | succ i =>
          have := h5 i c (by simpa using hc)
          rw [show m + 1 - (i + 1) = m - i by omega]
          exact this
      · cases i with
        | zero => simp at hx hz; subst hx; subst hz; exact hb
        | succ i => exact h6 i x z (by simpa using hx) (by simpa using hz)
      · exact h7 z (by simpa using hz)
structure CycI (O : Int → List Int) (N c : List Int) (k : Int) (n : Nat) : Prop where
  fst : N.find? (fun k => (fin O N k k).isSome) = some k
  len : c.length = n
  pos : 1 ≤ n
  hd : c[0]? = some k
  step : ∀ (i : Nat) (x z : Int), c[i]? = some x → c[i + 1]? = some z → z ∈ O x
  close : ∀ z, c[n - 1]? = some z → k ∈ O z
  dist : ∀ (i : Nat) (x : Int), c[i]? = some x → Lst O k (n - i) x
theorem cyc_is (hN : ∀ a b, b ∈ O a → a ∈ N) (h : cycR O N ≠ []) : ∃ k n, CycI O N (cycR O N) k n := by
  cases hf : N.find? (fun k => (fin O N k k).isSome) with
  | none => exact absurd (by unfold cycR; rw [hf]) h
  | some k =>
    obtain ⟨n, hn⟩ := Option.isSome_iff_exists.1 (List.find?_some (p := fun k => (fin O N k k).isSome) hf)
    have hl := (fin_spec hN k n).1 hn
    obtain ⟨m, rfl⟩ : ∃ m, n = m + 1 := ⟨n - 1, by have := hl.1; omega⟩
    obtain ⟨h1, h2, h3, h4⟩ := cg_spec hN hl
    have e : cycR O N = k :: cg O (fin O N k) k m k := by
      unfold cycR
      rw [hf]
      simp only [cyc1, hn]
      rfl
    refine ⟨k, m + 1, hf, by rw [e]; simp [h1], by omega, by rw [e]; rfl, fun i x z hx hz => by rw [e] at hx hz; exact h3 i x z hx hz, fun z hz => by rw [e] at hz; exact h4 z hz, fun i x hx => ?_⟩
    rw [e] at hx
    cases i with
    | zero => simp at hx; subst hx; exact hl
    | succ i =>
      have := (h2 i x (by simpa using hx)).1
      rw [show m + 1 - (i + 1) = m - i by omega]; exact this
theorem CycI.nodup {c : List Int} {k : Int} {n : Nat} (h : CycI O N c k n) : c.Nodup := by
  rw [List.Nodup, List.pairwise_iff_getElem]
  intro i j hi hj hij e
  have h1 := h.dist i _ (List.getElem?_eq_getElem hi)
  have h2 := h.dist j _ (List.getElem?_eq_getElem hj)
  rw [e] at h1
  have := h1.uniq h2
  have := h.len
  omega
theorem CycI.reach {c : List Int} {k : Int} {n : Nat} (h : CycI O N c k n) : ∀ (i : Nat) (x : Int), c[i]? = some x → Wk O x i k := by
  intro i
  induction i with
  | zero => intro x hx; rw [h.hd] at hx; cases hx; exact rfl
  | succ i ih =>
    intro x hx
    have hi : i < c.length := by have := (List.getElem?_eq_some_iff.1 hx).1; omega
    have h1 := List.getElem?_eq_getElem hi
    exact Wk.snoc (h.step i _ x h1 hx) (ih _ h1)
theorem CycI.lst {c : List Int} {k : Int} {n : Nat} (h : CycI O N c k n) : Lst O k n k := by simpa using h.dist 0 k h.hd
theorem CycI.part (hN : ∀ a b, b ∈ O a → a ∈ N) {c : List Int} {k : Int} {n : Nat} (h : CycI O N c k n) {p : List Int} (hp : p ∈ partsR O N) (hk : k ∈ p) {i : Nat} {x : Int} (hx : c[i]? = some x) : x ∈ p := by
  obtain ⟨a, ha, rfl⟩ := parts_spec.1 p hp
  have hak := (List.mem_filter.1 hk).2
  have hd := h.dist i x hx
  have hxN : x ∈ N := hd.inN hN
  refine List.mem_filter.2 ⟨hxN, mutu_trans hN hak ?_⟩
  rw [mutu_iff]
  rcases Nat.eq_zero_or_pos i with rfl | hpos
  · rw [h.hd] at hx; cases hx; exact .inl rfl
  · exact .inr ⟨(fin_some hN).2 ⟨i, hpos, h.reach i x hx⟩, (fin_some hN).2 ⟨n - i, hd.1, hd.2.1⟩⟩
theorem cyc_first {N : List Int} {k : Int} {p : Int → Bool} (h : N.find? p = some k) {i : Nat} {a : Int} (hi : N[i]? = some a) (hno : ∀ j : Nat, j < i → ∀ b, N[j]? = some b → p b = false) : (p a = true → a = k) ∧ (i + 1 = N.length → p a = true) := by
  obtain ⟨hk, as, bs, hab, hall⟩ := List.find?_eq_some_iff_append.1 h
  have h1 : N[as.length]? = some k := by rw [hab]; simp
  have hlt : as.length < N.length := by rw [hab]; simp
  have hge : i ≤ as.length := by
    rcases Nat.lt_or_ge as.length i with h2 | h2
    · have := hno _ h2 k h1
      rw [hk] at this; cases this
    · exact h2
  constructor
  · intro hp
    rcases Nat.lt_or_ge i as.length with h2 | h2
    · have h3 : a ∈ as := by
        rw [hab, List.getElem?_append_left h2] at hi
        exact List.mem_of_getElem? hi
      have := hall a h3
      rw [hp] at this; cases this
    · have : i = as.length := by omega
      subst this
      rw [h1] at hi; cases hi; rfl
  · intro h2
    have : i = as.length := by omega
    subst this
    rw [h1] at hi; cases hi; exact hk
end
end Go.U
