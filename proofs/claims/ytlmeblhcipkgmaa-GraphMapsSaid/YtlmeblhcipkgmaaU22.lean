/- Graphs as what each node leads to: least numbers of steps, cycles, orders, parts. Plain laws, no program in sight. -/
import Derived.Test.YtlmeblhcipkgmaaU20
namespace Go.U
set_option linter.unusedVariables false
set_option linter.unusedSectionVars false

section
variable (O : Int → List Int) (N : List Int) (k : Int)

/-- a walk of so many steps to k -/
def Wk : Nat → Int → Prop
  | 0, a => a = k
  | n + 1, a => ∃ b, b ∈ O a ∧ Wk n b

/-- after so many rounds: the nodes that are met, with their round -/
def fr : Nat → Int → Option Nat
  | 0, _ => none
  | n + 1, a => match fr n a with
    | some d => some d
    | none => if (decide (a ∈ N) && (O a).any (fun b => (decide (b = k) && n == 0) || (fr n b == some n && !decide (b = k)))) = true then some (n + 1) else none

def Lst (d : Nat) (a : Int) : Prop := 1 ≤ d ∧ Wk O k d a ∧ ∀ m, 1 ≤ m → m < d → ¬ Wk O k m a

def fin (a : Int) : Option Nat := fr O N k N.length a
end

section
variable {O : Int → List Int} {N : List Int} {k : Int}

theorem Lst.uniq {d e : Nat} {a : Int} (h : Lst O k d a) (h' : Lst O k e a) : d = e := by
  rcases Nat.lt_trichotomy d e with hlt | he | hgt
  · exact absurd h.2.1 (h'.2.2 d h.1 hlt)
  · exact he
  · exact absurd h'.2.1 (h.2.2 e h'.1 hgt)

theorem Lst.step {d : Nat} {a : Int} (hd : 1 ≤ d) (h : Lst O k (d + 1) a) : ∃ b, b ∈ O a ∧ b ≠ k ∧ Lst O k d b := by
  obtain ⟨_, ⟨b, hb, hw⟩, hn⟩ := h
  refine ⟨b, hb, fun e => ?_, hd, hw, fun m h1 h2 hm => hn (m + 1) (by omega) (by omega) ⟨b, hb, hm⟩⟩
  subst e
  exact hn 1 (by omega) (by omega) ⟨b, hb, rfl⟩

theorem Lst.of {a : Int} : ∀ {d : Nat}, 1 ≤ d → Wk O k d a → ∃ e, e ≤ d ∧ Lst O k e a := by
  intro d
  induction d using Nat.strongRecOn with
  | _ d ih =>
    intro hd hw
    by_cases hx : ∃ m, 1 ≤ m ∧ m < d ∧ Wk O k m a
    · obtain ⟨m, h1, h2, h3⟩ := hx
      obtain ⟨e, h4, h5⟩ := ih m h2 h1 h3
      exact ⟨e, by omega, h5⟩
    · exact ⟨d, Nat.le_refl _, hd, hw, fun m h1 h2 h3 => hx ⟨m, h1, h2, h3⟩⟩

theorem fr_spec (hN : ∀ a b, b ∈ O a → a ∈ N) : ∀ n a d, fr O N k n a = some d ↔ d ≤ n ∧ Lst O k d a := by
  intro n
  induction n with
  | zero =>
    intro a d
    simp only [fr]
    constructor
    · intro h; cases h
    · rintro ⟨h1, h2, _⟩; omega
  | succ n ih =>
    intro a d
    simp only [fr]
    cases hf : fr O N k n a with
    | some e =>
      obtain ⟨h1, h2⟩ := (ih a e).1 hf
      simp only [Option.some.injEq]
      constructor
      · rintro rfl; exact ⟨by omega, h2⟩
      · rintro ⟨_, h4⟩; exact h2.uniq h4
    | none =>
      have hno : ∀ m, 1 ≤ m → m ≤ n → ¬ Wk O k m a := fun m h1 h2 h3 => by
        obtain ⟨e, h4, h5⟩ := Lst.of h1 h3
        have := (ih a e).2 ⟨by omega, h5⟩
        rw [hf] at this; cases this
      have hcond : (decide (a ∈ N) && (O a).any (fun b => (decide (b = k) && n == 0) || (fr O N k n b == some n && !decide (b = k)))) = true ↔ Wk O k (n + 1) a := by
        rw [Bool.and_eq_true, List.any_eq_true]
        constructor
        · rintro ⟨_, b, hb, h⟩
          simp only [Bool.or_eq_true, Bool.and_eq_true, decide_eq_true_eq, beq_iff_eq, Bool.not_eq_true', decide_eq_false_iff_not] at h
          rcases h with ⟨rfl, rfl⟩ | ⟨h1, _⟩
          · exact ⟨b, hb, rfl⟩
          · exact ⟨b, hb, ((ih b n).1 h1).2.2.1⟩
        · rintro ⟨b, hb, hw⟩
          refine ⟨by simpa using hN a b hb, b, hb, ?_⟩
          simp only [Bool.or_eq_true, Bool.and_eq_true, decide_eq_true_eq, beq_iff_eq, Bool.not_eq_true', decide_eq_false_iff_not]
          cases n with
          | zero => exact .inl ⟨hw, rfl⟩
          | succ n =>
            refine .inr ⟨(ih b (n + 1)).2 ⟨Nat.le_refl _, by omega, hw, fun m h1 h2 h3 => hno (m + 1) (by omega) (by omega) ⟨b, hb, h3⟩⟩, fun e => ?_⟩
            subst e
            exact hno 1 (by omega) (by omega) ⟨b, hb, rfl⟩
      dsimp only
      split
      · rename_i hc
        have hw := hcond.1 hc
        have hl : Lst O k (n + 1) a := ⟨by omega, hw, fun m h1 h2 => hno m h1 (by omega)⟩
        simp only [Option.some.injEq]
        constructor
        · rintro rfl; exact ⟨Nat.le_refl _, hl⟩
        · rintro ⟨_, h4⟩; exact hl.uniq h4
      · rename_i hc
        constructor
        · intro h; cases h
        · rintro ⟨h1, h2⟩
          rcases Nat.lt_or_ge d (n + 1) with h | h
          · exact absurd h2.2.1 (hno d h2.1 (by omega))
          · obtain rfl : d = n + 1 := by omega
            exact absurd (hcond.2 h2.2.1) hc

theorem Lst.levels {d : Nat} {a : Int} (h : Lst O k d a) : ∀ j, 1 ≤ j → j ≤ d → ∃ c, Lst O k j c := by
  induction d generalizing a with
  | zero => intro j h1 h2; omega
  | succ d ih =>
    intro j h1 h2
    rcases Nat.lt_or_ge j (d + 1) with hj | hj
    · obtain ⟨b, _, _, hb⟩ := h.step (by omega)
      exact ih hb j h1 (by omega)
    · obtain rfl : j = d + 1 := by omega
      exact ⟨a, h⟩

theorem Lst.inN (hN : ∀ a b, b ∈ O a → a ∈ N) {d : Nat} {a : Int} (h : Lst O k d a) : a ∈ N := by
  obtain ⟨h1, h2, _⟩ := h
  obtain ⟨e, rfl⟩ : ∃ e, d = e + 1 := ⟨d - 1, by omega⟩
  obtain ⟨b, hb, _⟩ := h2
  exact hN a b hb

theorem Lst.le (hN : ∀ a b, b ∈ O a → a ∈ N) {d : Nat} {a : Int} (h : Lst O k d a) : d ≤ N.length := by
  have key : ∀ d a, Lst O k d a → ∃ l : List Int, l.length = d ∧ l.Nodup ∧ ∀ c ∈ l, c ∈ N ∧ ∃ j, j ≤ d ∧ Lst O k j c := by
    intro d
    induction d with
    | zero => intro a h; exact absurd h.1 (by omega)
    | succ d ih =>
      intro a h
      rcases Nat.eq_zero_or_pos d with h0 | hp
      · subst h0
        exact ⟨[a], rfl, by simp, fun c hc => by rw [List.mem_singleton.1 hc]; exact ⟨h.inN hN, 1, Nat.le_refl _, h⟩⟩
      · obtain ⟨b, _, _, hb⟩ := h.step hp
        obtain ⟨l, h1, h2, h3⟩ := ih b hb
        refine ⟨a :: l, by simp [h1], List.nodup_cons.2 ⟨fun hm => ?_, h2⟩, fun c hc => ?_⟩
        · obtain ⟨_, j, hj, hl⟩ := h3 a hm
          have := h.uniq hl
          omega
        · rcases List.mem_cons.1 hc with rfl | hc
          · exact ⟨h.inN hN, d + 1, Nat.le_refl _, h⟩
          · obtain ⟨h4, j, h5, h6⟩ := h3 c hc
            exact ⟨h4, j, by omega, h6⟩
  obtain ⟨l, h1, h2, h3⟩ := key d a h
  rw [← h1]
  exact nodup_le h2 (fun c hc => (h3 c hc).1)

theorem fin_spec (hN : ∀ a b, b ∈ O a → a ∈ N) (a : Int) (d : Nat) : fin O N k a = some d ↔ Lst O k d a := by
  unfold fin
  rw [fr_spec hN]
  exact ⟨fun h => h.2, fun h => ⟨h.le hN, h⟩⟩

theorem fr_last (hN : ∀ a b, b ∈ O a → a ∈ N) {n : Nat} (h : ∀ a, ¬ Lst O k (n + 1) a) (a : Int) : fr O N k n a = fin O N k a := by
  apply Option.ext
  intro d
  rw [fr_spec hN, fin_spec hN]
  refine ⟨fun h => h.2, fun hl => ⟨?_, hl⟩⟩
  rcases Nat.lt_or_ge n d with h1 | h1
  · obtain ⟨c, hc⟩ := hl.levels (n + 1) (by omega) (by omega)
    exact absurd hc (h c)
  · exact h1

/-- one round -/
theorem fr_fresh (hN : ∀ a b, b ∈ O a → a ∈ N) (n : Nat) (a : Int) : Lst O k (n + 1) a ↔ fr O N k n a = none ∧ a ∈ N ∧ ∃ b ∈ O a, (b = k ∧ n = 0) ∨ (fr O N k n b = some n ∧ b ≠ k) := by
  have h1 := fr_spec (k := k) hN (n + 1) a (n + 1)
  have h2 : Lst O k (n + 1) a ↔ fr O N k (n + 1) a = some (n + 1) := by rw [h1]; simp
  rw [h2]
  simp only [fr]
  cases hf : fr O N k n a with
  | some e =>
    have := ((fr_spec hN n a e).1 hf).1
    simp only [Option.some.injEq]
    constructor
    · intro h; omega
    · rintro ⟨h, _⟩; cases h
  | none =>
    simp only [true_and]
    split
    · rename_i hc
      simp only [true_iff]
      simpa using hc
    · rename_i hc
      constructor
      · intro h; cases h
      · intro h
        exact absurd (by simpa using h) hc

theorem fr_none (n : Nat) (a : Int) (h : fr O N k n a = none) (h2 : ¬ Lst O k (n + 1) a) (hN : ∀ a b, b ∈ O a → a ∈ N) : fr O N k (n + 1) a = none := by
  cases hf : fr O N k (n + 1) a with
  | none => rfl
  | some d =>
    obtain ⟨h3, h4⟩ := (fr_spec hN _ _ _).1 hf
    rcases Nat.lt_or_ge d (n + 1) with h5 | h5
    · have := (fr_spec hN n a d).2 ⟨by omega, h4⟩
      rw [h] at this; cases this
    · obtain rfl : d = n + 1 := by omega
      exact absurd h4 h2
theorem fr_keep {n : Nat} {a : Int} {d : Nat} (h : fr O N k n a = some d) : fr O N k (n + 1) a = some d := by
  simp only [fr, h]
theorem fr_new {n : Nat} {a : Int} (h : Lst O k (n + 1) a) (hN : ∀ a b, b ∈ O a → a ∈ N) : fr O N k (n + 1) a = some (n + 1) := (fr_spec hN _ _ _).2 ⟨Nat.le_refl _, h⟩
end

/-! ### the cycle -/
/-- the rest of the cycle: m steps are still to be made ahead of the last one -/
def cg (O : Int → List Int) (D : Int → Option Nat) (k : Int) : Nat → Int → List Int
  | 0, _ => []
  | m + 1, a => match (O a).find? (fun b => D b == some (m + 1) && !decide (b = k)) with
    | some b => b :: cg O D k m b
    | none => cg O D k m a
def cyc1 (O : Int → List Int) (N : List Int) (k : Int) : List Int := match fin O N k k with
  | some n => k :: cg O (fin O N k) k (n - 1) k
  | none => []
def cycR (O : Int → List Int) (N : List Int) : List Int := match N.find? (fun k => (fin O N k k).isSome) with
  | some k => cyc1 O N k
  | none => []
/-! ### the order -/
def tfree (O : Int → List Int) (N : List Int) (done : List Int) (n : Int) : Bool := !decide (n ∈ done) && N.all (fun a => decide (a ∈ done) || !decide (n ∈ O a))
def tpick (O : Int → List Int) (N : List Int) (done : List Int) : Option Int := N.find? (tfree O N done)
def tgo (O : Int → List Int) (N : List Int) : Nat → List Int → Option (List Int)
  | 0, done => some done
  | m + 1, done => match tpick O N done with
    | some n => tgo O N m (done ++ [n])
    | none => none
def topoR (O : Int → List Int) (N : List Int) : Option (List Int) := tgo O N N.length []
/-! ### the parts -/
def mutu (O : Int → List Int) (N : List Int) (a b : Int) : Bool := decide (a = b) || ((fin O N b a).isSome && (fin O N a b).isSome)
def pgo (M : Int → Int → Bool) (N : List Int) : List Int → List Int → List (List Int)
  | [], _ => []
  | a :: rest, met => if a ∈ met then pgo M N rest met else N.filter (M a) :: pgo M N rest (met ++ N.filter (M a))
def partsR (O : Int → List Int) (N : List Int) : List (List Int) := pgo (mutu O N) N N []

end Go.U
namespace Go.U
section
variable {O : Int → List Int} {N : List Int} {k : Int}
theorem fr_yes (hN : ∀ a b, b ∈ O a → a ∈ N) {n : Nat} {a b : Int} (h : fr O N k n a = none) (hb : b ∈ O a) (hc : (b = k ∧ n = 0) ∨ (fr O N k n b = some n ∧ b ≠ k)) : fr O N k (n + 1) a = some (n + 1) :=
  fr_new ((fr_fresh hN n a).2 ⟨h, hN a b hb, b, hb, hc⟩) hN
theorem fr_no (hN : ∀ a b, b ∈ O a → a ∈ N) {n : Nat} {a : Int} (hall : ∀ b ∈ O a, ¬ ((b = k ∧ n = 0) ∨ (fr O N k n b = some n ∧ b ≠ k))) : fr O N k (n + 1) a ≠ some (n + 1) := fun h => by
  obtain ⟨_, _, b, hb, hc⟩ := (fr_fresh hN n a).1 (((fr_spec hN _ _ _).1 h).2)
  exact hall b hb hc
theorem fr_lst (hN : ∀ a b, b ∈ O a → a ∈ N) {n : Nat} {a : Int} : fr O N k (n + 1) a = some (n + 1) ↔ Lst O k (n + 1) a := by
  rw [fr_spec hN]; simp
end
end Go.U
