/- The document's cycle is the program's. Plain laws, no program in sight. -/
import Derived.Test.YtlmeblhcipkgmaaU22
namespace Go.U
set_option linter.unusedVariables false
set_option linter.unusedSectionVars false

theorem find_least {p : Int → Bool} : ∀ {l : List Int} {x : Int}, l.Pairwise (· < ·) → x ∈ l → p x = true → (∀ z ∈ l, p z = true → x ≤ z) → l.find? p = some x
  | [], x, _, h, _, _ => by cases h
  | a :: l, x, hs, hx, hp, hall => by
    rw [List.pairwise_cons] at hs
    rw [List.find?_cons]
    cases ha : p a with
    | true =>
      have h1 := hall a (by simp) ha
      rcases List.mem_cons.1 hx with rfl | hx
      · rfl
      · have := hs.1 x hx; omega
    | false =>
      rcases List.mem_cons.1 hx with rfl | hx
      · rw [hp] at ha; cases ha
      · exact find_least hs.2 hx hp (fun z hz => hall z (by simp [hz]))

section
variable (O : Int → List Int) (N : List Int) (s : Int)
/-- the document's distances, after so many rounds -/
def fd : Nat → Int → Option Nat
  | 0, a => if a = s then some 0 else none
  | r + 1, a => match fd r a with
    | some d => some d
    | none => if N.any (fun b => fd r b == some r && decide (b ∈ O a)) = true then some (r + 1) else none
def L0 (d : Nat) (a : Int) : Prop := Wk O s d a ∧ ∀ m, m < d → ¬ Wk O s m a
/-- which node the document takes next, of the first so many -/
def Bst (to : List Int) (F : Int → Option Nat) (i : Nat) (best : Int) : Prop :=
  (best = -1 ∧ ∀ j, j < i → ∀ b, N[j]? = some b → b ∈ to → F b = none) ∨
  ∃ j b d, j < i ∧ best = (j : Nat) ∧ N[j]? = some b ∧ b ∈ to ∧ F b = some d ∧
    (∀ j', j' < i → ∀ c, N[j']? = some c → c ∈ to → ∀ e, F c = some e → d ≤ e) ∧ (∀ j', j' < j → ∀ c, N[j']? = some c → c ∈ to → ∀ e, F c = some e → d < e)
end
section
variable {O : Int → List Int} {N : List Int} {s : Int}
theorem L0.uniq {d e : Nat} {a : Int} (h : L0 O s d a) (h' : L0 O s e a) : d = e := by
  rcases Nat.lt_trichotomy d e with hlt | he | hgt
  · exact absurd h.1 (h'.2 d hlt)
  · exact he
  · exact absurd h'.1 (h.2 e hgt)
theorem L0.of {a : Int} : ∀ {d : Nat}, Wk O s d a → ∃ e, e ≤ d ∧ L0 O s e a := by
  intro d
  induction d using Nat.strongRecOn with
  | _ d ih =>
    intro hw
    by_cases hx : ∃ m, m < d ∧ Wk O s m a
    · obtain ⟨m, h2, h3⟩ := hx
      obtain ⟨e, h4, h5⟩ := ih m h2 h3
      exact ⟨e, by omega, h5⟩
    · exact ⟨d, Nat.le_refl _, hw, fun m h2 h3 => hx ⟨m, h2, h3⟩⟩
theorem L0.zero : L0 O s 0 s := ⟨rfl, fun m h => absurd h (by omega)⟩
theorem Lst.l0 {d : Nat} {a : Int} (h : Lst O s d a) (hne : a ≠ s) : L0 O s d a := ⟨h.2.1, fun m hm hw => by
  rcases Nat.eq_zero_or_pos m with rfl | hp
  · exact hne hw
  · exact h.2.2 m hp hm hw⟩
theorem L0.lst {d : Nat} {a : Int} (h : L0 O s d a) (hne : a ≠ s) : Lst O s d a := by
  refine ⟨?_, h.1, fun m _ hm => h.2 m hm⟩
  rcases Nat.eq_zero_or_pos d with rfl | hp
  · exact absurd h.1 hne
  · exact hp
theorem L0.le (hN : ∀ a b, b ∈ O a → a ∈ N) {d : Nat} {a : Int} (h : L0 O s d a) : d ≤ N.length := by
  by_cases he : a = s
  · subst he
    rw [h.uniq L0.zero]; omega
  · exact (h.lst he).le hN
theorem fd_spec (hN : ∀ a b, b ∈ O a → b ∈ N) : ∀ n a d, fd O N s n a = some d ↔ d ≤ n ∧ L0 O s d a := by
  intro n
  induction n with
  | zero =>
    intro a d
    simp only [fd]
    constructor
    · intro h
      split at h
      · rename_i he
        subst he
        cases h
        exact ⟨Nat.le_refl _, L0.zero⟩
      · cases h
    · rintro ⟨h1, h2⟩
      obtain rfl : d = 0 := by omega
      have : a = s := h2.1
      rw [if_pos this]
  | succ n ih =>
    intro a d
    simp only [fd]
    cases hf : fd O N s n a with
    | some e =>
      obtain ⟨h1, h2⟩ := (ih a e).1 hf
      simp only [Option.some.injEq]
      constructor
      · rintro rfl; exact ⟨by omega, h2⟩
      · rintro ⟨_, h4⟩; exact h2.uniq h4
    | none =>
      have hno : ∀ m, m ≤ n → ¬ Wk O s m a := fun m h2 h3 => by
        obtain ⟨e, h4, h5⟩ := L0.of h3
        have := (ih a e).2 ⟨by omega, h5⟩
        rw [hf] at this; cases this
      have hcond : N.any (fun b => fd O N s n b == some n && decide (b ∈ O a)) = true ↔ Wk O s (n + 1) a := by
        rw [List.any_eq_true]
        constructor
        · rintro ⟨b, hb, h⟩
          simp only [Bool.and_eq_true, decide_eq_true_eq, beq_iff_eq] at h
          exact ⟨b, h.2, ((ih b n).1 h.1).2.1⟩
        · rintro ⟨b, hb, hw⟩
          refine ⟨b, hN a b hb, ?_⟩
          simp only [Bool.and_eq_true, decide_eq_true_eq, beq_iff_eq]
          exact ⟨(ih b n).2 ⟨Nat.le_refl _, hw, fun m h1 h2 => hno (m + 1) (by omega) ⟨b, hb, h2⟩⟩, hb⟩
      dsimp only
      split
      · rename_i hc
        have hl : L0 O s (n + 1) a := ⟨hcond.1 hc, fun m h1 => hno m (by omega)⟩
        simp only [Option.some.injEq]
        constructor
        · rintro rfl; exact ⟨Nat.le_refl _, hl⟩
        · rintro ⟨_, h4⟩; exact hl.uniq h4
      · rename_i hc
        constructor
        · intro h; cases h
        · rintro ⟨h1, h2⟩
          rcases Nat.lt_or_ge d (n + 1) with h | h
          · exact absurd h2.1 (hno d (by omega))
          · obtain rfl : d = n + 1 := by omega
            exact absurd (hcond.2 h2.1) hc
theorem fd_fin (hN1 : ∀ a b, b ∈ O a → a ∈ N) (hN : ∀ a b, b ∈ O a → b ∈ N) (a : Int) (d : Nat) : fd O N s N.length a = some d ↔ L0 O s d a := by
  rw [fd_spec hN]
  exact ⟨fun h => h.2, fun h => ⟨h.le hN1, h⟩⟩

theorem best_zero (hN1 : ∀ a b, b ∈ O a → a ∈ N) (hN : ∀ a b, b ∈ O a → b ∈ N) {a : Int} (h : Lst O s 1 a) {best : Int} (hb : Bst N (O a) (fd O N s N.length) N.length best) : ∃ j : Nat, best = j ∧ N[j]? = some s := by
  obtain ⟨_, ⟨b, hbO, hbs⟩, _⟩ := h
  have hbs' : b = s := hbs
  subst hbs'
  have hF : fd O N b N.length b = some 0 := (fd_fin hN1 hN b 0).2 L0.zero
  obtain ⟨q, hq, hqe⟩ := List.getElem_of_mem (hN a b hbO)
  have hq' : N[q]? = some b := by rw [List.getElem?_eq_getElem hq, hqe]
  rcases hb with ⟨_, h1⟩ | ⟨j, c, d, h1, h2, h3, h4, h5, h6, h7⟩
  · have := h1 q hq b hq' hbO
    rw [hF] at this; cases this
  · have hd := h6 q hq b hq' hbO 0 hF
    obtain rfl : d = 0 := by omega
    have hc : c = b := ((fd_fin hN1 hN c 0).1 h5).1
    exact ⟨j, h2, by rw [h3, hc]⟩

theorem best_step (hs : N.Pairwise (· < ·)) (hO : ∀ a, (O a).Pairwise (· < ·)) (hN1 : ∀ a b, b ∈ O a → a ∈ N) (hN : ∀ a b, b ∈ O a → b ∈ N) {a : Int} {m : Nat} (h : Lst O s (m + 2) a) {best : Int} (hb : Bst N (O a) (fd O N s N.length) N.length best) :
    ∃ (j : Nat) (b : Int), best = j ∧ N[j]? = some b ∧ b ≠ s ∧ Lst O s (m + 1) b ∧ (O a).find? (fun b => fin O N s b == some (m + 1) && !decide (b = s)) = some b := by
  obtain ⟨b0, hb0, hne0, hl0⟩ := h.step (by omega)
  have hF0 : fd O N s N.length b0 = some (m + 1) := (fd_fin hN1 hN b0 _).2 (hl0.l0 hne0)
  obtain ⟨q, hq, hqe⟩ := List.getElem_of_mem (hN a b0 hb0)
  have hq' : N[q]? = some b0 := by rw [List.getElem?_eq_getElem hq, hqe]
  have hlow : ∀ c ∈ O a, ∀ d, fd O N s N.length c = some d → m + 1 ≤ d := fun c hc d hd => by
    have hw := ((fd_fin hN1 hN c d).1 hd).1
    rcases Nat.lt_or_ge d (m + 1) with h1 | h1
    · exact absurd ⟨c, hc, hw⟩ (h.2.2 (d + 1) (by omega) (by omega))
    · exact h1
  rcases hb with ⟨_, h1⟩ | ⟨j, c, d, h1, h2, h3, h4, h5, h6, h7⟩
  · have := h1 q hq b0 hq' hb0
    rw [hF0] at this; cases this
  · have hd1 := h6 q hq b0 hq' hb0 _ hF0
    have hd2 := hlow c h4 d h5
    obtain rfl : d = m + 1 := by omega
    have hL0 := (fd_fin hN1 hN c _).1 h5
    have hcs : c ≠ s := fun e => by
      subst e
      have := hL0.uniq L0.zero
      omega
    have hLc := hL0.lst hcs
    refine ⟨j, c, h2, h3, hcs, hLc, find_least (hO a) h4 ?_ (fun z hz hpz => ?_)⟩
    · simp only [Bool.and_eq_true, beq_iff_eq, Bool.not_eq_true', decide_eq_false_iff_not]
      exact ⟨(fin_spec hN1 c _).2 hLc, hcs⟩
    · simp only [Bool.and_eq_true, beq_iff_eq, Bool.not_eq_true', decide_eq_false_iff_not] at hpz
      have hFz : fd O N s N.length z = some (m + 1) := (fd_fin hN1 hN z _).2 (((fin_spec hN1 z _).1 hpz.1).l0 hpz.2)
      obtain ⟨r, hr, hre⟩ := List.getElem_of_mem (hN a z hz)
      have hr' : N[r]? = some z := by rw [List.getElem?_eq_getElem hr, hre]
      rcases Nat.lt_or_ge r j with hlt | hge
      · have := h7 r hlt z hr' hz _ hFz
        omega
      · obtain ⟨hj, hje⟩ := List.getElem?_eq_some_iff.1 h3
        rw [← hje, ← hre]
        rcases Nat.lt_or_ge j r with h8 | h8
        · have := List.pairwise_iff_getElem.1 hs j r hj hr h8
          omega
        · have : j = r := by omega
          subst this; exact Int.le_refl _
end
end Go.U
