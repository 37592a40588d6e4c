/- The walks of the references of graphs: where a cycle begins, how far nodes are, the cycle. -/
import Derived.Test.YtlmeblhcipkgmaaG21
namespace Go.Proofs.Ytlmeblhcipkgmaa
open Go Go.U
set_option maxRecDepth 20000
set_option linter.unusedSimpArgs false
set_option linter.unusedVariables false

open Go.RowKit
theorem RS.fin_ {E : List Ed} {N : List Int} {a : Int} {to : List Int} (h : RS (prE E) a to) (hN : ∀ u w, w ∈ Ob E u → u ∈ N) (b : Int) : decide (b ∈ to) = (fin (Ob E) N b a).isSome := by
  rw [Bool.eq_iff_iff, decide_eq_true_eq, h.2, fin_tg hN]
def dI : Option Nat → Int
  | none => -1
  | some d => (d : Nat)
theorem dI_nn {o : Option Nat} : 0 ≤ dI o ↔ o ≠ none := by
  cases o with
  | none => simp [dI]
  | some d => simp [dI]
theorem dI_some {o : Option Nat} {d : Nat} (h : o = some d) : dI o = (d : Nat) := by rw [h]; rfl
theorem fm_set (l : List Int) (i : Nat) (v : Int) (hi : i < l.length) : (l.flatMap encInt).take i ++ [.int .i64 v] ++ (l.flatMap encInt).drop (i + 1) = (l.set i v).flatMap encInt := by
  rw [fm_int, fm_int, List.set_eq_take_append_cons_drop, if_pos hi]
  simp
theorem map_set {N : List Int} (hn : N.Nodup) (g : Int → Int) {i : Nat} {a : Int} (h : N[i]? = some a) (v : Int) : (N.map g).set i v = N.map (fun x => if x = a then v else g x) := by
  apply List.ext_getElem?
  intro j
  rw [List.getElem?_set, List.getElem?_map]
  have hi : i < N.length := (List.getElem?_eq_some_iff.1 h).1
  by_cases e : i = j
  · subst e
    rw [if_pos rfl, List.getElem?_map, h]
    simp [hi]
  · rw [if_neg e, List.getElem?_map]
    cases hj : N[j]? with
    | none => rfl
    | some b =>
      have : ¬ b = a := fun e2 => by subst e2; exact e (nodup_get hn h hj)
      simp [this]
/-- where a cycle begins -/
def PSt (E : List Ed) (N : List Int) (L : List (List Blk)) : Value → Ro → List (List Blk) → Prop := fun v _ L' => ∃ (k : Int) (sb : Bool), v = .tuple #[.int .i64 k, .bool sb] ∧ L = L' ∧ ((sb = false ∧ N.find? (fun k => (fin (Ob E) N k k).isSome) = none) ∨ (sb = true ∧ N.find? (fun k => (fin (Ob E) N k k).isSome) = some k))

theorem GStart_c (N : List Int) (E : List Ed) (A : Option Addr) (cap : Nat) (B : Option Addr) (cap2 : Nat) (ro : Ro) (L : List (List Blk)) (hA : Sl ro 1 encInt A cap N) (hB : Sl ro 3 encEdge B cap2 E) (hn : N.length ≤ 1000) (hne : E.length ≤ 1000) (hNn : N.Nodup) (hNO : ∀ u w, w ∈ Ob E u → u ∈ N) :
    CT Try.prog 97 [gv A N.length cap B E.length cap2].toArray ro L (PSt E N L) := by
  have hcapn : N.length ≤ 9223372036854775807 := by omega
  have hcape : E.length ≤ 9223372036854775807 := by omega
  refine enter Try.func97 rfl Try.ntmps97 rfl ?_
  refine seq ?_
  refine region ?_
  refine op (e_box rfl rfl rfl fun b1 => ?_)
  refine op (y (x_assign rfl) rfl ?_)
  refine op (y (x_assign rfl) rfl ?_)
  refine nil ?_
  refine n_then ?_
  refine seq ?_
  refine seq ?_
  refine region ?_
  refine op (y (x_assign rfl) rfl ?_)
  refine nil ?_
  refine n_then ?_
  refine block ?_
  refine loop (fun m F ro' L' => ∃ (i : Nat), (m = N.length - i) ∧ (F = [(1, .pointer (some ⟨b1, 0, none⟩)), (4, .int .i64 (i : Nat))]) ∧ (L' = [(b1, .cells [.slice A N.length cap, .slice B E.length cap2].toArray 63 (0, 0))] :: L) ∧ (i ≤ N.length) ∧ (ro.le ro') ∧ (Sl ro' 1 encInt A cap N) ∧ (Sl ro' 3 encEdge B cap2 E) ∧ (∀ j : Nat, j < i → ∀ a, N[j]? = some a → (fin (Ob E) N a a).isSome = false)) (N.length - 0) [(1, .pointer (some ⟨b1, 0, none⟩)), (4, .int .i64 (0 : Nat))] ⟨rfl, rfl, trivial⟩ ⟨0, rfl, rfl, rfl, by omega, Ro.le.refl _, hA, hB, by intro j hj; omega⟩ ?_
  rintro m F ro' L' ⟨i, rfl, rfl, rfl, hi, hle, hA, hB, hall⟩
  refine seq ?_
  refine seq ?_
  refine region ?_
  refine op (y (x_move rfl) rfl ?_)
  refine op (y (x_fieldAddr fo_63_0 rfl) rfl ?_)
  refine op (y (x_load1 ag_23 rfl (by first | assumption | exact Cell.own 0 rfl rfl | exact Cell.own 1 rfl rfl | exact Cell.own 2 rfl rfl | exact Cell.own 3 rfl rfl | exact Cell.own 4 rfl rfl | exact Cell.own 5 rfl rfl | exact Cell.ofRo (by assumption))) rfl ?_)
  refine op (y (x_lenSl sz_23 rfl) rfl ?_)
  refine op (y (x_lss rfl rfl) rfl ?_)
  refine nil ?_
  refine n_then ?_
  refine cond rfl (fun h2 => ?_) (fun h2 => ?_)
  · try simp only [decide_eq_true_eq, decide_eq_false_iff_not, beq_iff_eq, bne_iff_ne, ne_eq, beq_eq_false_iff_ne, bne_eq_false_iff_eq, Bool.not_eq_true', Bool.not_eq_false', Bool.not_eq_true, Bool.not_eq_false, Decidable.not_not, Int.not_lt, Int.not_le] at h2
    refine skip ?_
    refine n_then ?_
    refine seq ?_
    refine block ?_
    refine seq ?_
    obtain ⟨bbx, offx, rfl, hcx⟩ := hA.at_ (i := i) (by omega)
    have hx := List.getElem?_eq_getElem (show i < N.length from by omega)
    have cx0 := hcx i _ hx 0 _ rfl
    refine drawL (by kernel_rfl) ?_
    refine d_take 0 rfl (by kernel_rfl) (by kernel_rfl) (by kernel_rfl) (fun _ _ _ h => h) rfl (.inl rfl) (x_loadOwn 0 [.slice (some ⟨bbx, offx, none⟩) N.length cap, .slice B E.length cap2] ag_63 rfl rfl rfl rfl) (fun w hi => J.of_le (by first | exact Ro.le.refl _ | assumption) (fun x hx => hx) hi) ?_
    refine d_take 1 rfl (by kernel_rfl) (by kernel_rfl) (by kernel_rfl) (fun _ _ _ h => h) rfl (.inl rfl) (x_fieldAddr fo_63_0 rfl) (fun w hi => J.of_le (by first | exact Ro.le.refl _ | assumption) (fun x hx => hx) hi) ?_
    refine d_take 2 rfl (by kernel_rfl) (by kernel_rfl) (by kernel_rfl) (fun _ _ _ h => h) rfl (.inl rfl) (x_load1 ag_23 rfl (by first | assumption | exact Cell.own 0 rfl rfl | exact Cell.own 1 rfl rfl | exact Cell.own 2 rfl rfl | exact Cell.own 3 rfl rfl | exact Cell.own 4 rfl rfl | exact Cell.own 5 rfl rfl | exact Cell.ofRo (by assumption))) (fun w hi => J.of_le (by first | exact Ro.le.refl _ | assumption) (fun x hx => hx) hi) ?_
    refine d_take 3 rfl (by kernel_rfl) (by kernel_rfl) (by kernel_rfl) (fun _ _ _ h => h) rfl (.inl rfl) (x_move rfl) (fun w hi => J.of_le (by first | exact Ro.le.refl _ | assumption) (fun x hx => hx) hi) ?_
    refine d_take 4 rfl (by kernel_rfl) (by kernel_rfl) (by kernel_rfl) (fun _ _ _ h => h) rfl (.inl rfl) (x_indexNat sz_23 rfl rfl (by omega)) (fun w hi => J.of_le (by first | exact Ro.le.refl _ | assumption) (fun x hx => hx) hi) ?_
    refine d_take 5 rfl (by kernel_rfl) (by kernel_rfl) (by kernel_rfl) (fun _ _ _ h => h) rfl (.inl rfl) (x_load1 ag_3 rfl (by first | assumption | exact Cell.own 0 rfl rfl | exact Cell.own 1 rfl rfl | exact Cell.own 2 rfl rfl | exact Cell.own 3 rfl rfl | exact Cell.own 4 rfl rfl | exact Cell.own 5 rfl rfl | exact Cell.ofRo (by assumption))) (fun w hi => J.of_le (by first | exact Ro.le.refl _ | assumption) (fun x hx => hx) hi) ?_
    refine d_take 7 rfl (by kernel_rfl) (by kernel_rfl) (by kernel_rfl) (fun _ _ _ h => h) rfl (.inl rfl) (x_fieldAddr fo_63_0 rfl) (fun w hi => J.of_le (by first | exact Ro.le.refl _ | assumption) (fun x hx => hx) hi) ?_
    refine d_take 8 rfl (by kernel_rfl) (by kernel_rfl) (by kernel_rfl) (fun _ _ _ h => h) rfl (.inl rfl) (x_load1 ag_23 rfl (by first | assumption | exact Cell.own 0 rfl rfl | exact Cell.own 1 rfl rfl | exact Cell.own 2 rfl rfl | exact Cell.own 3 rfl rfl | exact Cell.own 4 rfl rfl | exact Cell.own 5 rfl rfl | exact Cell.ofRo (by assumption))) (fun w hi => J.of_le (by first | exact Ro.le.refl _ | assumption) (fun x hx => hx) hi) ?_
    refine d_take 9 rfl (by kernel_rfl) (by kernel_rfl) (by kernel_rfl) (fun _ _ _ h => h) rfl (.inl rfl) (x_move rfl) (fun w hi => J.of_le (by first | exact Ro.le.refl _ | assumption) (fun x hx => hx) hi) ?_
    refine d_take 10 rfl (by kernel_rfl) (by kernel_rfl) (by kernel_rfl) (fun _ _ _ h => h) rfl (.inl rfl) (x_indexNat sz_23 rfl rfl (by omega)) (fun w hi => J.of_le (by first | exact Ro.le.refl _ | assumption) (fun x hx => hx) hi) ?_
    refine d_take 11 rfl (by kernel_rfl) (by kernel_rfl) (by kernel_rfl) (fun _ _ _ h => h) rfl (.inl rfl) (x_load1 ag_3 rfl (by first | assumption | exact Cell.own 0 rfl rfl | exact Cell.own 1 rfl rfl | exact Cell.own 2 rfl rfl | exact Cell.own 3 rfl rfl | exact Cell.own 4 rfl rfl | exact Cell.own 5 rfl rfl | exact Cell.ofRo (by assumption))) (fun w hi => J.of_le (by first | exact Ro.le.refl _ | assumption) (fun x hx => hx) hi) ?_
    refine d_one 6 rfl (by kernel_rfl) (.inl rfl) (e_call rfl fn_66 rfl rfl (GReach_c N E _ cap B cap2 _ _ hA hB N[i] (by omega)) fun v18 ro18 L18 hle18 hp18 => ?_)
    obtain ⟨to, hRS, A18, cap18, rfl, hS18, hLL⟩ := hp18
    subst hLL
    have hto := RS.fin_ hRS hNO N[i]
    refine d_next (fun w hi => J.of_le (by first | exact Ro.le.refl _ | assumption) (fun x hx => hx) hi) ?_
    refine d_one 12 rfl (by kernel_rfl) (.inl rfl) (e_call rfl fn_99 rfl rfl (Gin_c to A18 cap18 N[i] _ _ hS18) fun v24 ro24 L24 hle24 hp24 => ?_)
    obtain ⟨rfl, rfl, rfl⟩ := hp24
    rw [hto]
    refine d_next (fun w hi => J.of_le (by first | exact Ro.le.refl _ | assumption) (fun x hx => hx) hi) ?_
    refine d_end (by kernel_rfl) ?_
    refine n_then ?_
    refine cond rfl (fun h4 => ?_) (fun h4 => ?_)
    · try simp only [decide_eq_true_eq, decide_eq_false_iff_not, beq_iff_eq, bne_iff_ne, ne_eq, beq_eq_false_iff_ne, bne_eq_false_iff_eq, Bool.not_eq_true', Bool.not_eq_false', Bool.not_eq_true, Bool.not_eq_false, Decidable.not_not, Int.not_lt, Int.not_le] at h4
      refine seq ?_
      refine region ?_
      refine op (y (x_fieldAddr fo_63_0 rfl) rfl ?_)
      refine op (y (x_load1 ag_23 rfl (by first | assumption | exact Cell.own 0 rfl rfl | exact Cell.own 1 rfl rfl | exact Cell.own 2 rfl rfl | exact Cell.own 3 rfl rfl | exact Cell.own 4 rfl rfl | exact Cell.own 5 rfl rfl | exact Cell.ofRo (by assumption))) rfl ?_)
      refine op (y (x_move rfl) rfl ?_)
      refine op (y (x_indexNat sz_23 rfl rfl (by omega)) rfl ?_)
      refine op (y (x_load1 ag_3 rfl (Cell.ofRo (hle18.cell cx0))) rfl ?_)
      refine op (y (x_assign rfl) rfl ?_)
      refine op (y (x_assign rfl) rfl ?_)
      refine nil ?_
      refine n_then ?_
      refine ret ?_
      refine r_in ?_
      refine r_then ?_
      refine r_then ?_
      refine r_in ?_
      refine r_then ?_
      refine drop0 ?_
      exact done rfl (.tmp rfl (.tmp rfl (.nil))) (hle.trans hle18) (L) (⟨_, .refl _, .refl _⟩) (⟨_, true, rfl, rfl, .inr ⟨rfl, find_at hall hx h4⟩⟩)
    · try simp only [decide_eq_true_eq, decide_eq_false_iff_not, beq_iff_eq, bne_iff_ne, ne_eq, beq_eq_false_iff_ne, bne_eq_false_iff_eq, Bool.not_eq_true', Bool.not_eq_false', Bool.not_eq_true, Bool.not_eq_false, Decidable.not_not, Int.not_lt, Int.not_le] at h4
      refine skip ?_
      refine n_in ?_
      refine n_then ?_
      refine region ?_
      refine op (y (x_move rfl) rfl ?_)
      refine op (y (x_add rfl rfl _ (wr (by omega) (by omega))) rfl ?_)
      refine op (y (x_assign rfl) rfl ?_)
      refine nil ?_
      exact round (N.length - (i + 1)) [(1, .pointer (some ⟨b1, 0, none⟩)), (4, .int .i64 ((i + 1) : Nat))] (by omega) ⟨rfl, rfl, trivial⟩ ⟨i + 1, rfl, rfl, rfl, by omega, hle.trans hle18, hA.mono hle18, hB.mono hle18, upto (p := fun j => ∀ a, N[j]? = some a → (fin (Ob E) N a a).isSome = false) hall (fun a e => by rw [hx] at e; cases e; simpa using h4)⟩
  · try simp only [decide_eq_true_eq, decide_eq_false_iff_not, beq_iff_eq, bne_iff_ne, ne_eq, beq_eq_false_iff_ne, bne_eq_false_iff_eq, Bool.not_eq_true', Bool.not_eq_false', Bool.not_eq_true, Bool.not_eq_false, Decidable.not_not, Int.not_lt, Int.not_le] at h2
    refine exit ?_
    refine e_then ?_
    refine e_then ?_
    refine e_in ?_
    refine n_then ?_
    refine seq ?_
    refine region ?_
    refine op (y (x_assign rfl) rfl ?_)
    refine op (y (x_assign rfl) rfl ?_)
    refine nil ?_
    refine n_then ?_
    refine ret ?_
    obtain rfl : i = N.length := by omega
    refine drop0 ?_
    exact done rfl (.tmp rfl (.tmp rfl (.nil))) (hle) (L) (⟨_, .refl _, .refl _⟩) (⟨0, false, rfl, rfl, .inl ⟨rfl, find_no hall⟩⟩)

def PFr (E : List Ed) (N : List Int) (s : Int) (L : List (List Blk)) : Value → Ro → List (List Blk) → Prop := fun v ro' L' => ∃ A cap R, v = .slice A N.length cap ∧ OwnS 3 1 A N.length cap ((N.map (fun a => dI (fd (Ob E) N s N.length a))).flatMap encInt) R ∧ L' = R :: L
theorem fd_keep {O : Int → List Int} {N : List Int} {s : Int} {r : Nat} {a : Int} {d : Nat} (h : fd O N s r a = some d) : fd O N s (r + 1) a = some d := by simp only [fd, h]
theorem fd_eq {O : Int → List Int} {N : List Int} {s : Int} (hN : ∀ a b, b ∈ O a → b ∈ N) {r : Nat} {a : Int} : dI (fd O N s (r + 1) a) = (r : Nat) ↔ fd O N s r a = some r := by
  constructor
  · intro h
    cases hf : fd O N s (r + 1) a with
    | none => rw [hf] at h; simp only [dI] at h; omega
    | some d =>
      rw [hf] at h
      simp only [dI] at h
      have h1 := (fd_spec hN _ _ _).1 hf
      have h2 : d = r := by omega
      subst h2
      exact (fd_spec hN _ _ _).2 ⟨Nat.le_refl _, h1.2⟩
  · intro h; rw [fd_keep h]; rfl
theorem fd_eq0 {o : Option Nat} {r : Nat} : dI o = (r : Nat) ↔ o = some r := by
  cases o with
  | none => simp only [dI]; constructor
            · intro h; omega
            · intro h; cases h
  | some d => simp only [dI, Option.some.injEq]; omega

theorem GFar_c (N : List Int) (E : List Ed) (A : Option Addr) (cap : Nat) (B : Option Addr) (cap2 : Nat) (ro : Ro) (L : List (List Blk)) (hA : Sl ro 1 encInt A cap N) (hB : Sl ro 3 encEdge B cap2 E) (hn : N.length ≤ 1000) (hne : E.length ≤ 1000) (hNn : N.Nodup) (hNO : ∀ u w, w ∈ Ob E u → u ∈ N) (hNO2 : ∀ u w, w ∈ Ob E u → w ∈ N) (s : Int) :
    CT Try.prog 98 [gv A N.length cap B E.length cap2, .int .i64 s].toArray ro L (PFr E N s L) := by
  have hcapn : N.length ≤ 9223372036854775807 := by omega
  have hcape : E.length ≤ 9223372036854775807 := by omega
  refine enter Try.func98 rfl Try.ntmps98 rfl ?_
  refine seq ?_
  refine region ?_
  refine op (e_box rfl rfl rfl fun b2 => ?_)
  refine op (y (x_assign rfl) rfl ?_)
  refine nil ?_
  refine n_then ?_
  refine seq ?_
  refine region ?_
  refine op (y (x_fieldAddr fo_63_0 rfl) rfl ?_)
  refine op (y (x_load1 ag_23 rfl (by first | assumption | exact Cell.own 0 rfl rfl | exact Cell.own 1 rfl rfl | exact Cell.own 2 rfl rfl | exact Cell.own 3 rfl rfl | exact Cell.own 4 rfl rfl | exact Cell.own 5 rfl rfl | exact Cell.ofRo (by assumption))) rfl ?_)
  refine op (y (x_lenSl sz_23 rfl) rfl ?_)
  refine op (e_make rfl st_23 rfl rfl (by omega) (by omega) (by omega) (by omega) fun b14 R5 xs hO5 hR5 => ?_)
  clear hR5
  refine op (y (x_assign rfl) rfl ?_)
  refine nil ?_
  refine n_then ?_
  refine seq ?_
  refine seq ?_
  refine region ?_
  refine op (y (x_assign rfl) rfl ?_)
  refine nil ?_
  refine n_then ?_
  refine block ?_
  refine loop (fun m F ro' L' => ∃ (i : Nat) (xs : List Value) (A5 : Option Addr) (cap5 : Nat) (R5 : List Blk), (m = N.length - i) ∧ (F = [(1, .int .i64 s), (2, .pointer (some ⟨b2, 0, none⟩)), (5, .slice A5 N.length cap5), (6, .int .i64 (i : Nat))]) ∧ (ro = ro') ∧ (L' = R5 :: [(b2, .cells [.slice A N.length cap, .slice B E.length cap2].toArray 63 (0, 0))] :: L) ∧ (i ≤ N.length) ∧ (OwnS 3 1 A5 N.length cap5 xs R5) ∧ (∀ j : Nat, j < i → ∀ a, N[j]? = some a → xs[j]? = some (.int .i64 (dI (fd (Ob E) N s 0 a))))) (N.length - 0) [(1, .int .i64 s), (2, .pointer (some ⟨b2, 0, none⟩)), (5, .slice _ N.length _), (6, .int .i64 (0 : Nat))] ⟨rfl, rfl, rfl, rfl, trivial⟩ ⟨0, _, _, _, _, rfl, rfl, rfl, rfl, by omega, hO5, by intro j hj; omega⟩ ?_
  rintro m F ro' L' ⟨i, xs, A5, cap5, R5, rfl, rfl, rfl, rfl, hi, hO, hxs⟩
  refine seq ?_
  refine seq ?_
  refine region ?_
  refine op (y (x_move rfl) rfl ?_)
  refine op (y (x_move rfl) rfl ?_)
  refine op (y (x_lenSl sz_23 rfl) rfl ?_)
  refine op (y (x_lss rfl rfl) rfl ?_)
  refine nil ?_
  refine n_then ?_
  refine cond rfl (fun h3 => ?_) (fun h3 => ?_)
  · try simp only [decide_eq_true_eq, decide_eq_false_iff_not, beq_iff_eq, bne_iff_ne, ne_eq, beq_eq_false_iff_ne, bne_eq_false_iff_eq, Bool.not_eq_true', Bool.not_eq_false', Bool.not_eq_true, Bool.not_eq_false, Decidable.not_not, Int.not_lt, Int.not_le] at h3
    refine skip ?_
    refine n_then ?_
    refine seqM (fun F ro' L' => ∃ (xs : List Value) (A5 : Option Addr) (cap5 : Nat) (R5 : List Blk), (F = [(1, .int .i64 s), (2, .pointer (some ⟨b2, 0, none⟩)), (5, .slice A5 N.length cap5), (6, .int .i64 (i : Nat))]) ∧ (ro = ro') ∧ (L' = R5 :: [(b2, .cells [.slice A N.length cap, .slice B E.length cap2].toArray 63 (0, 0))] :: L) ∧ (i < N.length) ∧ (OwnS 3 1 A5 N.length cap5 xs R5) ∧ (∀ j : Nat, j < i + 1 → ∀ a, N[j]? = some a → xs[j]? = some (.int .i64 (dI (fd (Ob E) N s 0 a))))) ?_ ?_
    · skip
      refine block ?_
      refine seq ?_
      have hil : i < N.length := by omega
      have hxl : xs.length = N.length := by rw [hO.1]; omega
      have hO2 := hO
      obtain ⟨b5, off5, cur5, rfl, rfl, _, _⟩ := OwnS.at_ hO (by omega)
      obtain ⟨bbx, offx, rfl, hcx⟩ := hA.at_ (i := i) (by omega)
      have hx := List.getElem?_eq_getElem (show i < N.length from by omega)
      have cx0 := hcx i _ hx 0 _ rfl
      refine region ?_
      refine op (y (x_move rfl) rfl ?_)
      refine op (y (x_move rfl) rfl ?_)
      refine op (y (x_indexNat sz_23 rfl rfl (by omega)) rfl ?_)
      refine op (e_storeS 0 rfl rfl ts_3 rfl rfl rfl rfl hO2 (by simp; omega) (fun _ => rfl) fun R33 hO33 => ?_)
      refine nil ?_
      refine n_then ?_
      refine seq ?_
      refine region ?_
      refine op (y (x_fieldAddr fo_63_0 rfl) rfl ?_)
      refine op (y (x_load1 ag_23 rfl (by first | assumption | exact Cell.own 0 rfl rfl | exact Cell.own 1 rfl rfl | exact Cell.own 2 rfl rfl | exact Cell.own 3 rfl rfl | exact Cell.own 4 rfl rfl | exact Cell.own 5 rfl rfl | exact Cell.ofRo (by assumption))) rfl ?_)
      refine op (y (x_move rfl) rfl ?_)
      refine op (y (x_indexNat sz_23 rfl rfl (by omega)) rfl ?_)
      refine op (y (x_load1 ag_3 rfl (by first | assumption | exact Cell.own 0 rfl rfl | exact Cell.own 1 rfl rfl | exact Cell.own 2 rfl rfl | exact Cell.own 3 rfl rfl | exact Cell.own 4 rfl rfl | exact Cell.own 5 rfl rfl | exact Cell.ofRo (by assumption))) rfl ?_)
      refine op (y (x_move rfl) rfl ?_)
      refine op (y (x_eql rfl rfl) rfl ?_)
      refine nil ?_
      refine n_then ?_
      refine cond rfl (fun h6 => ?_) (fun h6 => ?_)
      · try simp only [decide_eq_true_eq, decide_eq_false_iff_not, beq_iff_eq, bne_iff_ne, ne_eq, beq_eq_false_iff_ne, bne_eq_false_iff_eq, Bool.not_eq_true', Bool.not_eq_false', Bool.not_eq_true, Bool.not_eq_false, Decidable.not_not, Int.not_lt, Int.not_le] at h6
        have hO34 := hO33
        obtain ⟨b6, off6, cur6, hbe, rfl, _, _⟩ := OwnS.at_ hO33 (by omega)
        obtain ⟨rfl, rfl⟩ : b5 = b6 ∧ off5 = off6 := by simpa using hbe
        refine region ?_
        refine op (y (x_move rfl) rfl ?_)
        refine op (y (x_move rfl) rfl ?_)
        refine op (y (x_indexNat sz_23 rfl rfl (by omega)) rfl ?_)
        refine op (e_storeS 0 rfl rfl ts_3 rfl rfl rfl rfl hO34 (by simp; omega) (fun _ => rfl) fun R35 hO35 => ?_)
        refine nil ?_
        refine n_in ?_
        exact mid [(1, .int .i64 s), (2, .pointer (some ⟨b2, 0, none⟩)), (5, .slice _ N.length _), (6, .int .i64 (i : Nat))] ⟨rfl, rfl, rfl, rfl, trivial⟩ ⟨_, _, _, _, rfl, rfl, rfl, hil, hO35, fun j hj a ha => by
            have hj2 : j < N.length := (List.getElem?_eq_some_iff.1 ha).1
            rcases Nat.lt_or_ge j i with h | h
            · have := hxs j h a ha
              simp only [List.getElem?_append, List.getElem?_take, List.getElem?_drop, List.length_append, List.length_take, List.length_drop, List.length_singleton] at this ⊢
              grind
            · have h2 : j = i := by omega
              subst h2
              rw [hx] at ha; cases ha
              have h3 : fd (Ob E) N s 0 N[j] = some 0 := by simp only [fd]; rw [if_pos h6]
              rw [h3]
              simp only [List.getElem?_append, List.getElem?_take, List.getElem?_drop, List.length_append, List.length_take, List.length_drop, List.length_singleton, dI]
              grind⟩
      · try simp only [decide_eq_true_eq, decide_eq_false_iff_not, beq_iff_eq, bne_iff_ne, ne_eq, beq_eq_false_iff_ne, bne_eq_false_iff_eq, Bool.not_eq_true', Bool.not_eq_false', Bool.not_eq_true, Bool.not_eq_false, Decidable.not_not, Int.not_lt, Int.not_le] at h6
        refine skip ?_
        refine n_in ?_
        exact mid [(1, .int .i64 s), (2, .pointer (some ⟨b2, 0, none⟩)), (5, .slice _ N.length _), (6, .int .i64 (i : Nat))] ⟨rfl, rfl, rfl, rfl, trivial⟩ ⟨_, _, _, _, rfl, rfl, rfl, hil, hO33, fun j hj a ha => by
            have hj2 : j < N.length := (List.getElem?_eq_some_iff.1 ha).1
            rcases Nat.lt_or_ge j i with h | h
            · have := hxs j h a ha
              simp only [List.getElem?_append, List.getElem?_take, List.getElem?_drop, List.length_append, List.length_take, List.length_drop, List.length_singleton] at this ⊢
              grind
            · have h2 : j = i := by omega
              subst h2
              rw [hx] at ha; cases ha
              have h3 : fd (Ob E) N s 0 N[j] = none := by simp only [fd]; rw [if_neg h6]
              rw [h3]
              simp only [List.getElem?_append, List.getElem?_take, List.getElem?_drop, List.length_append, List.length_take, List.length_drop, List.length_singleton, dI]
              grind⟩
    · rintro F ro' L' ⟨xs, A5, cap5, R5, rfl, rfl, rfl, hil, hO, hxs⟩
      refine region ?_
      refine op (y (x_move rfl) rfl ?_)
      refine op (y (x_add rfl rfl _ (wr (by omega) (by omega))) rfl ?_)
      refine op (y (x_assign rfl) rfl ?_)
      refine nil ?_
      exact round (N.length - (i + 1)) [(1, .int .i64 s), (2, .pointer (some ⟨b2, 0, none⟩)), (5, .slice _ N.length _), (6, .int .i64 ((i + 1) : Nat))] (by omega) ⟨rfl, rfl, rfl, rfl, trivial⟩ ⟨i + 1, _, _, _, _, rfl, rfl, rfl, rfl, by omega, hO, hxs⟩
  · try simp only [decide_eq_true_eq, decide_eq_false_iff_not, beq_iff_eq, bne_iff_ne, ne_eq, beq_eq_false_iff_ne, bne_eq_false_iff_eq, Bool.not_eq_true', Bool.not_eq_false', Bool.not_eq_true, Bool.not_eq_false, Decidable.not_not, Int.not_lt, Int.not_le] at h3
    refine exit ?_
    refine e_then ?_
    refine e_then ?_
    refine e_in ?_
    refine n_then ?_
    refine seq ?_
    refine seq ?_
    refine region ?_
    refine op (y (x_assign rfl) rfl ?_)
    refine nil ?_
    refine n_then ?_
    refine block ?_
    obtain rfl : i = N.length := by omega
    have hxe : xs = (N.map (fun a => dI (fd (Ob E) N s 0 a))).flatMap encInt := by
      rw [fm_int]
      apply List.ext_getElem?
      intro j
      rw [List.getElem?_map, List.getElem?_map]
      cases hj : N[j]? with
      | none =>
        have h1 := List.getElem?_eq_none_iff.1 hj
        rw [List.getElem?_eq_none (by rw [hO.1]; omega)]; rfl
      | some a => exact hxs j (List.getElem?_eq_some_iff.1 hj).1 a hj
    rw [hxe] at hO
    refine loop (fun m F ro' L' => ∃ (r : Nat) (g : Int → Int) (A5 : Option Addr) (cap5 : Nat) (R5 : List Blk), (m = N.length - r) ∧ (F = [(1, .int .i64 s), (2, .pointer (some ⟨b2, 0, none⟩)), (5, .slice A5 N.length cap5), (7, .int .i64 (r : Nat))]) ∧ (L' = R5 :: [(b2, .cells [.slice A N.length cap, .slice B E.length cap2].toArray 63 (0, 0))] :: L) ∧ (r ≤ N.length) ∧ (ro.le ro') ∧ (Sl ro' 1 encInt A cap N) ∧ (Sl ro' 3 encEdge B cap2 E) ∧ (OwnS 3 1 A5 N.length cap5 ((N.map g).flatMap encInt) R5) ∧ (∀ a ∈ N, g a = dI (fd (Ob E) N s r a))) (N.length - 0) [(1, .int .i64 s), (2, .pointer (some ⟨b2, 0, none⟩)), (5, .slice _ N.length _), (7, .int .i64 (0 : Nat))] ⟨rfl, rfl, rfl, rfl, trivial⟩ ⟨0, _, _, _, _, rfl, rfl, rfl, by omega, Ro.le.refl _, hA, hB, hO, fun a _ => rfl⟩ ?_
    rintro m F ro' L' ⟨r, g, A5, cap5, R5, rfl, rfl, rfl, hr, hle, hA, hB, hO, hg⟩
    refine seq ?_
    refine seq ?_
    refine region ?_
    refine op (y (x_move rfl) rfl ?_)
    refine op (y (x_move rfl) rfl ?_)
    refine op (y (x_lenSl sz_23 rfl) rfl ?_)
    refine op (y (x_lss rfl rfl) rfl ?_)
    refine nil ?_
    refine n_then ?_
    refine cond rfl (fun h9 => ?_) (fun h9 => ?_)
    · try simp only [decide_eq_true_eq, decide_eq_false_iff_not, beq_iff_eq, bne_iff_ne, ne_eq, beq_eq_false_iff_ne, bne_eq_false_iff_eq, Bool.not_eq_true', Bool.not_eq_false', Bool.not_eq_true, Bool.not_eq_false, Decidable.not_not, Int.not_lt, Int.not_le] at h9
      refine skip ?_
      refine n_then ?_
      refine seq ?_
      refine block ?_
      refine seq ?_
      refine region ?_
      refine op (y (x_assign rfl) rfl ?_)
      refine nil ?_
      refine n_then ?_
      refine block ?_
      refine loop (fun m F rob' Lb' => ∃ (i : Nat) (g : Int → Int) (A5 : Option Addr) (cap5 : Nat) (R5 : List Blk), (m = N.length - i) ∧ (F = [(1, .int .i64 s), (2, .pointer (some ⟨b2, 0, none⟩)), (5, .slice A5 N.length cap5), (7, .int .i64 (r : Nat)), (8, .int .i64 (i : Nat))]) ∧ (Lb' = R5 :: [(b2, .cells [.slice A N.length cap, .slice B E.length cap2].toArray 63 (0, 0))] :: L) ∧ (i ≤ N.length) ∧ (ro.le rob') ∧ (Sl rob' 1 encInt A cap N) ∧ (Sl rob' 3 encEdge B cap2 E) ∧ (OwnS 3 1 A5 N.length cap5 ((N.map g).flatMap encInt) R5) ∧ (∀ (j : Nat) (a : Int), N[j]? = some a → g a = if j < i then dI (fd (Ob E) N s (r + 1) a) else dI (fd (Ob E) N s r a))) (N.length - 0) [(1, .int .i64 s), (2, .pointer (some ⟨b2, 0, none⟩)), (5, .slice _ N.length _), (7, .int .i64 (r : Nat)), (8, .int .i64 (0 : Nat))] ⟨rfl, rfl, rfl, rfl, rfl, trivial⟩ ⟨0, g, _, _, _, rfl, rfl, rfl, by omega, hle, hA, hB, hO, fun j a h => by rw [if_neg (by omega)]; exact hg a (List.mem_of_getElem? h)⟩ ?_
      rintro m F rob' Lb' ⟨i, g, A5, cap5, R5, rfl, rfl, rfl, hi, hle, hA, hB, hO, hg⟩
      refine seq ?_
      refine seq ?_
      refine region ?_
      refine op (y (x_move rfl) rfl ?_)
      refine op (y (x_move rfl) rfl ?_)
      refine op (y (x_lenSl sz_23 rfl) rfl ?_)
      refine op (y (x_lss rfl rfl) rfl ?_)
      refine nil ?_
      refine n_then ?_
      refine cond rfl (fun h12 => ?_) (fun h12 => ?_)
      · try simp only [decide_eq_true_eq, decide_eq_false_iff_not, beq_iff_eq, bne_iff_ne, ne_eq, beq_eq_false_iff_ne, bne_eq_false_iff_eq, Bool.not_eq_true', Bool.not_eq_false', Bool.not_eq_true, Bool.not_eq_false, Decidable.not_not, Int.not_lt, Int.not_le] at h12
        refine skip ?_
        refine n_then ?_
        refine seq ?_
        refine block ?_
        refine seq ?_
        have hil : i < N.length := by omega
        obtain ⟨bbx, offx, rfl, hcx⟩ := hA.at_ (i := i) (by omega)
        have hx := List.getElem?_eq_getElem (show i < N.length from by omega)
        have cx0 := hcx i _ hx 0 _ rfl
        refine drawL (by kernel_rfl) ?_
        refine d_take 0 rfl (by kernel_rfl) (by kernel_rfl) (by kernel_rfl) (fun _ _ _ h => h) rfl (.inl rfl) (x_loadOwn 1 [.slice (some ⟨bbx, offx, none⟩) N.length cap, .slice B E.length cap2] ag_63 rfl rfl rfl rfl) (fun w hi => J.of_le (by first | exact Ro.le.refl _ | assumption) (fun x hx => hx) hi) ?_
        refine d_take 1 rfl (by kernel_rfl) (by kernel_rfl) (by kernel_rfl) (fun _ _ _ h => h) rfl (.inl rfl) (x_fieldAddr fo_63_0 rfl) (fun w hi => J.of_le (by first | exact Ro.le.refl _ | assumption) (fun x hx => hx) hi) ?_
        refine d_take 2 rfl (by kernel_rfl) (by kernel_rfl) (by kernel_rfl) (fun _ _ _ h => h) rfl (.inl rfl) (x_load1 ag_23 rfl (Cell.own 1 rfl rfl)) (fun w hi => J.of_le (by first | exact Ro.le.refl _ | assumption) (fun x hx => hx) hi) ?_
        refine d_take 3 rfl (by kernel_rfl) (by kernel_rfl) (by kernel_rfl) (fun _ _ _ h => h) rfl (.inl rfl) (x_move rfl) (fun w hi => J.of_le (by first | exact Ro.le.refl _ | assumption) (fun x hx => hx) hi) ?_
        refine d_take 4 rfl (by kernel_rfl) (by kernel_rfl) (by kernel_rfl) (fun _ _ _ h => h) rfl (.inl rfl) (x_indexNat sz_23 rfl rfl (by omega)) (fun w hi => J.of_le (by first | exact Ro.le.refl _ | assumption) (fun x hx => hx) hi) ?_
        refine d_take 5 rfl (by kernel_rfl) (by kernel_rfl) (by kernel_rfl) (fun _ _ _ h => h) rfl (.inl rfl) (x_load1 ag_3 rfl (by first | assumption | exact Cell.own 0 rfl rfl | exact Cell.own 1 rfl rfl | exact Cell.own 2 rfl rfl | exact Cell.own 3 rfl rfl | exact Cell.own 4 rfl rfl | exact Cell.own 5 rfl rfl | exact Cell.ofRo (by assumption))) (fun w hi => J.of_le (by first | exact Ro.le.refl _ | assumption) (fun x hx => hx) hi) ?_
        refine d_one 6 rfl (by kernel_rfl) (.inl rfl) (e_call rfl fn_64 rfl rfl (GOut_c N E _ cap B cap2 _ _ hA hB N[i] (by omega)) fun v52 ro52 L52 hle52 hp52 => ?_)
        obtain ⟨A52, cap52, rfl, hS52, hLL⟩ := hp52
        subst hLL
        have hA1 := hA.mono hle52
        have hB1 := hB.mono hle52
        refine d_next (fun w hi => J.of_le (by first | exact Ro.le.refl _ | assumption) (fun x hx => hx) hi) ?_
        refine d_take 7 rfl (by kernel_rfl) (by kernel_rfl) (by kernel_rfl) (fun _ _ _ h => h) rfl (.inl rfl) (x_assign rfl) (fun w hi => J.of_le (by first | exact Ro.le.refl _ | assumption) (fun x hx => hx) hi) ?_
        refine d_end (by kernel_rfl) ?_
        refine n_then ?_
        refine seq ?_
        refine region ?_
        refine op (y (x_assign rfl) rfl ?_)
        refine nil ?_
        refine n_then ?_
        refine block ?_
        refine loop (fun m F roc' Lc' => ∃ (k : Nat) (g : Int → Int) (A5 : Option Addr) (cap5 : Nat) (R5 : List Blk), (m = N.length - k) ∧ (F = [(1, .int .i64 s), (2, .pointer (some ⟨b2, 0, none⟩)), (5, .slice A5 N.length cap5), (7, .int .i64 (r : Nat)), (8, .int .i64 (i : Nat)), (9, .slice A52 (BehindR (prE E) N[i]).length cap52), (10, .int .i64 (k : Nat))]) ∧ (ro52 = roc') ∧ (Lc' = R5 :: [(b2, .cells [.slice (some ⟨bbx, offx, none⟩) N.length cap, .slice B E.length cap2].toArray 63 (0, 0))] :: L) ∧ (k ≤ N.length) ∧ (OwnS 3 1 A5 N.length cap5 ((N.map g).flatMap encInt) R5) ∧ (∀ (j : Nat) (a : Int), N[j]? = some a → j ≠ i → g a = if j < i then dI (fd (Ob E) N s (r + 1) a) else dI (fd (Ob E) N s r a)) ∧ ((∀ d, fd (Ob E) N s r N[i] = some d → g N[i] = (d : Nat)) ∧ (fd (Ob E) N s r N[i] = none → (g N[i] = -1 ∧ ∀ j : Nat, j < k → ∀ b, N[j]? = some b → ¬ (fd (Ob E) N s r b = some r ∧ b ∈ Ob E N[i])) ∨ (g N[i] = ((r + 1 : Nat) : Int) ∧ ∃ b ∈ N, fd (Ob E) N s r b = some r ∧ b ∈ Ob E N[i])))) (N.length - 0) [(1, .int .i64 s), (2, .pointer (some ⟨b2, 0, none⟩)), (5, .slice _ N.length _), (7, .int .i64 (r : Nat)), (8, .int .i64 (i : Nat)), (9, .slice A52 (BehindR (prE E) N[i]).length cap52), (10, .int .i64 (0 : Nat))] ⟨rfl, rfl, rfl, rfl, rfl, rfl, rfl, trivial⟩ ⟨0, g, _, _, _, rfl, rfl, rfl, rfl, by omega, hO, fun j a h _ => hg j a h, ⟨fun d hd => by rw [hg i _ hx, if_neg (by omega), hd]; rfl, fun hnn => .inl ⟨by rw [hg i _ hx, if_neg (by omega), hnn]; rfl, by intro j hj; omega⟩⟩⟩ ?_
        rintro m F roc' Lc' ⟨k, g, A5, cap5, R5, rfl, rfl, rfl, rfl, hk, hO, hgk, hgw⟩
        refine seq ?_
        refine seq ?_
        refine region ?_
        refine op (y (x_move rfl) rfl ?_)
        refine op (y (x_move rfl) rfl ?_)
        refine op (y (x_lenSl sz_23 rfl) rfl ?_)
        refine op (y (x_lss rfl rfl) rfl ?_)
        refine nil ?_
        refine n_then ?_
        refine cond rfl (fun h16 => ?_) (fun h16 => ?_)
        · try simp only [decide_eq_true_eq, decide_eq_false_iff_not, beq_iff_eq, bne_iff_ne, ne_eq, beq_eq_false_iff_ne, bne_eq_false_iff_eq, Bool.not_eq_true', Bool.not_eq_false', Bool.not_eq_true, Bool.not_eq_false, Decidable.not_not, Int.not_lt, Int.not_le] at h16
          refine skip ?_
          refine n_then ?_
          refine seqM (fun F roc' Lc' => ∃ (g : Int → Int) (A5 : Option Addr) (cap5 : Nat) (R5 : List Blk), (F = [(1, .int .i64 s), (2, .pointer (some ⟨b2, 0, none⟩)), (5, .slice A5 N.length cap5), (7, .int .i64 (r : Nat)), (8, .int .i64 (i : Nat)), (9, .slice A52 (BehindR (prE E) N[i]).length cap52), (10, .int .i64 (k : Nat))]) ∧ (ro52 = roc') ∧ (Lc' = R5 :: [(b2, .cells [.slice (some ⟨bbx, offx, none⟩) N.length cap, .slice B E.length cap2].toArray 63 (0, 0))] :: L) ∧ (k < N.length) ∧ (OwnS 3 1 A5 N.length cap5 ((N.map g).flatMap encInt) R5) ∧ (∀ (j : Nat) (a : Int), N[j]? = some a → j ≠ i → g a = if j < i then dI (fd (Ob E) N s (r + 1) a) else dI (fd (Ob E) N s r a)) ∧ ((∀ d, fd (Ob E) N s r N[i] = some d → g N[i] = (d : Nat)) ∧ (fd (Ob E) N s r N[i] = none → (g N[i] = -1 ∧ ∀ j : Nat, j < k + 1 → ∀ b, N[j]? = some b → ¬ (fd (Ob E) N s r b = some r ∧ b ∈ Ob E N[i])) ∨ (g N[i] = ((r + 1 : Nat) : Int) ∧ ∃ b ∈ N, fd (Ob E) N s r b = some r ∧ b ∈ Ob E N[i])))) ?_ ?_
          · skip
            refine block ?_
            refine seq ?_
            have hkl : k < N.length := by omega
            have hO2 := hO
            obtain ⟨b5, off5, cur5, rfl, rfl, _, hcell⟩ := OwnS.at_ hO (by omega)
            have hz := List.getElem?_eq_getElem hkl
            have cz0 := hle52.cell (hcx k _ hz 0 _ rfl)
            have hci : cur5[off5 + i * 1]? = some (.int .i64 (g N[i])) := by rw [Nat.mul_one]; exact hcell i _ (by rw [fm_int, List.getElem?_map, List.getElem?_map, hx]; rfl)
            have hck : cur5[off5 + k * 1]? = some (.int .i64 (g N[k])) := by rw [Nat.mul_one]; exact hcell k _ (by rw [fm_int, List.getElem?_map, List.getElem?_map, hz]; rfl)
            have hkr : g N[i] < 0 → (g N[k] = ((r : Nat) : Int) ↔ fd (Ob E) N s r N[k] = some r) := fun hneg => by
              by_cases hki : k = i
              · subst hki
                constructor
                · intro h; omega
                · intro h; have := hgw.1 _ h; omega
              · rw [hgk k _ hz hki]
                split
                · exact fd_eq hNO2
                · exact fd_eq0
            refine region ?_
            refine op (y (x_move rfl) rfl ?_)
            refine op (y (x_move rfl) rfl ?_)
            refine op (y (x_indexNat sz_23 rfl rfl (by omega)) rfl ?_)
            refine op (y (x_load1 ag_3 rfl (Cell.own 0 rfl hci)) rfl ?_)
            refine op (y (x_lss rfl rfl) rfl ?_)
            refine op (y (x_move rfl) rfl ?_)
            refine bsplit 64 rfl (fun g64 => ?_) (fun g64 => ?_)
            · try simp only [decide_eq_true_eq, decide_eq_false_iff_not, beq_iff_eq, bne_iff_ne, ne_eq, beq_eq_false_iff_ne, bne_eq_false_iff_eq, Bool.not_eq_true', Bool.not_eq_false', Bool.not_eq_true, Bool.not_eq_false, Decidable.not_not, Int.not_lt, Int.not_le] at g64
              refine opG rfl rfl (y (x_move rfl) rfl ?_)
              refine opG rfl rfl (y (x_move rfl) rfl ?_)
              refine opG rfl rfl (y (x_indexNat sz_23 rfl rfl (by omega)) rfl ?_)
              refine opG rfl rfl (y (x_load1 ag_3 rfl (Cell.own 0 rfl hck)) rfl ?_)
              refine opG rfl rfl (y (x_move rfl) rfl ?_)
              refine opG rfl rfl (y (x_eql rfl rfl) rfl ?_)
              refine op (y (x_pickT rfl rfl) rfl ?_)
              refine op (y (x_move rfl) rfl ?_)
              refine bsplit 72 rfl (fun g72 => ?_) (fun g72 => ?_)
              · try simp only [decide_eq_true_eq, decide_eq_false_iff_not, beq_iff_eq, bne_iff_ne, ne_eq, beq_eq_false_iff_ne, bne_eq_false_iff_eq, Bool.not_eq_true', Bool.not_eq_false', Bool.not_eq_true, Bool.not_eq_false, Decidable.not_not, Int.not_lt, Int.not_le] at g72
                refine opG rfl rfl (y (x_move rfl) rfl ?_)
                refine opG rfl rfl (y (x_fieldAddr fo_63_0 rfl) rfl ?_)
                refine opG rfl rfl (y (x_load1 ag_23 rfl (Cell.own 1 rfl rfl)) rfl ?_)
                refine opG rfl rfl (y (x_move rfl) rfl ?_)
                refine opG rfl rfl (y (x_indexNat sz_23 rfl rfl (by omega)) rfl ?_)
                refine opG rfl rfl (y (x_load1 ag_3 rfl (by first | assumption | exact Cell.own 0 rfl rfl | exact Cell.own 1 rfl rfl | exact Cell.own 2 rfl rfl | exact Cell.own 3 rfl rfl | exact Cell.own 4 rfl rfl | exact Cell.own 5 rfl rfl | exact Cell.ofRo (by assumption))) rfl ?_)
                refine opG rfl rfl (e_call rfl fn_99 rfl rfl (Gin_c (BehindR (prE E) N[i]) A52 cap52 N[k] _ _ hS52) fun v79 ro79 L79 hle79 hp79 => ?_)
                obtain ⟨rfl, rfl, rfl⟩ := hp79
                refine op (y (x_pickT rfl rfl) rfl ?_)
                refine nil ?_
                refine n_then ?_
                refine cond rfl (fun h18 => ?_) (fun h18 => ?_)
                · try simp only [decide_eq_true_eq, decide_eq_false_iff_not, beq_iff_eq, bne_iff_ne, ne_eq, beq_eq_false_iff_ne, bne_eq_false_iff_eq, Bool.not_eq_true', Bool.not_eq_false', Bool.not_eq_true, Bool.not_eq_false, Decidable.not_not, Int.not_lt, Int.not_le] at h18
                  refine region ?_
                  refine op (y (x_move rfl) rfl ?_)
                  refine op (y (x_move rfl) rfl ?_)
                  refine op (y (x_move rfl) rfl ?_)
                  refine op (y (x_add rfl rfl _ (wr (by omega) (by omega))) rfl ?_)
                  refine op (y (x_indexNat sz_23 rfl rfl (by omega)) rfl ?_)
                  refine op (e_storeS 0 rfl rfl ts_3 rfl rfl rfl rfl hO2 (by simp; omega) (fun _ => rfl) fun R85 hO85 => ?_)
                  simp only [Nat.mul_one, List.length_singleton] at hO85
                  rw [fm_set _ _ _ (by simp; omega), map_set hNn g hx] at hO85
                  refine nil ?_
                  refine n_in ?_
                  exact mid [(1, .int .i64 s), (2, .pointer (some ⟨b2, 0, none⟩)), (5, .slice _ N.length _), (7, .int .i64 (r : Nat)), (8, .int .i64 (i : Nat)), (9, .slice A52 (BehindR (prE E) N[i]).length cap52), (10, .int .i64 (k : Nat))] ⟨rfl, rfl, rfl, rfl, rfl, rfl, rfl, trivial⟩ ⟨_, _, _, _, rfl, rfl, rfl, hkl, hO85, fun j a ha hj => by
                      have hne : ¬ a = N[i] := fun e => hj (nodup_get hNn ha (by rw [e]; exact hx))
                      simp only [if_neg hne]; exact hgk j a ha hj, by
                      simp only [if_true]
                      refine ⟨fun d hd => ?_, fun _ => .inr ⟨by rw [Int.natCast_add]; rfl, N[k], List.getElem_mem hkl, (hkr (by omega)).1 (by assumption), by assumption⟩⟩
                      have := hgw.1 d hd
                      omega⟩
                · try simp only [decide_eq_true_eq, decide_eq_false_iff_not, beq_iff_eq, bne_iff_ne, ne_eq, beq_eq_false_iff_ne, bne_eq_false_iff_eq, Bool.not_eq_true', Bool.not_eq_false', Bool.not_eq_true, Bool.not_eq_false, Decidable.not_not, Int.not_lt, Int.not_le] at h18
                  refine skip ?_
                  refine n_in ?_
                  exact mid [(1, .int .i64 s), (2, .pointer (some ⟨b2, 0, none⟩)), (5, .slice _ N.length _), (7, .int .i64 (r : Nat)), (8, .int .i64 (i : Nat)), (9, .slice A52 (BehindR (prE E) N[i]).length cap52), (10, .int .i64 (k : Nat))] ⟨rfl, rfl, rfl, rfl, rfl, rfl, rfl, trivial⟩ ⟨g, _, _, _, rfl, rfl, rfl, hkl, hO2, hgk, by
                      refine ⟨hgw.1, fun hnn => ?_⟩
                      rcases hgw.2 hnn with ⟨h1, h2⟩ | h1
                      · refine .inl ⟨h1, upto (p := fun j => ∀ b, N[j]? = some b → ¬ (fd (Ob E) N s r b = some r ∧ b ∈ Ob E N[i])) h2 (fun b e => ?_)⟩
                        rw [hz] at e; cases e
                        rintro ⟨h3, h4⟩
                        have h5 := (hkr (by omega)).2 h3
                        first
                        | omega
                        | exact absurd h4 (by assumption)
                        | exact absurd h5 (by assumption)
                      · exact .inr h1⟩
              · try simp only [decide_eq_true_eq, decide_eq_false_iff_not, beq_iff_eq, bne_iff_ne, ne_eq, beq_eq_false_iff_ne, bne_eq_false_iff_eq, Bool.not_eq_true', Bool.not_eq_false', Bool.not_eq_true, Bool.not_eq_false, Decidable.not_not, Int.not_lt, Int.not_le] at g72
                refine opN rfl rfl rfl rfl ?_
                refine opN rfl rfl rfl rfl ?_
                refine opN rfl rfl rfl rfl ?_
                refine opN rfl rfl rfl rfl ?_
                refine opN rfl rfl rfl rfl ?_
                refine opN rfl rfl rfl rfl ?_
                refine opN rfl rfl rfl rfl ?_
                refine op (y (x_pickF rfl rfl) rfl ?_)
                refine nil ?_
                refine n_then ?_
                refine condF rfl ?_
                refine skip ?_
                refine n_in ?_
                exact mid [(1, .int .i64 s), (2, .pointer (some ⟨b2, 0, none⟩)), (5, .slice _ N.length _), (7, .int .i64 (r : Nat)), (8, .int .i64 (i : Nat)), (9, .slice A52 (BehindR (prE E) N[i]).length cap52), (10, .int .i64 (k : Nat))] ⟨rfl, rfl, rfl, rfl, rfl, rfl, rfl, trivial⟩ ⟨g, _, _, _, rfl, rfl, rfl, hkl, hO2, hgk, by
                    refine ⟨hgw.1, fun hnn => ?_⟩
                    rcases hgw.2 hnn with ⟨h1, h2⟩ | h1
                    · refine .inl ⟨h1, upto (p := fun j => ∀ b, N[j]? = some b → ¬ (fd (Ob E) N s r b = some r ∧ b ∈ Ob E N[i])) h2 (fun b e => ?_)⟩
                      rw [hz] at e; cases e
                      rintro ⟨h3, h4⟩
                      have h5 := (hkr (by omega)).2 h3
                      first
                      | omega
                      | exact absurd h4 (by assumption)
                      | exact absurd h5 (by assumption)
                    · exact .inr h1⟩
            · try simp only [decide_eq_true_eq, decide_eq_false_iff_not, beq_iff_eq, bne_iff_ne, ne_eq, beq_eq_false_iff_ne, bne_eq_false_iff_eq, Bool.not_eq_true', Bool.not_eq_false', Bool.not_eq_true, Bool.not_eq_false, Decidable.not_not, Int.not_lt, Int.not_le] at g64
              refine opN rfl rfl rfl rfl ?_
              refine opN rfl rfl rfl rfl ?_
              refine opN rfl rfl rfl rfl ?_
              refine opN rfl rfl rfl rfl ?_
              refine opN rfl rfl rfl rfl ?_
              refine opN rfl rfl rfl rfl ?_
              refine op (y (x_pickF rfl rfl) rfl ?_)
              refine op (y (x_move rfl) rfl ?_)
              refine opN rfl rfl rfl rfl ?_
              refine opN rfl rfl rfl rfl ?_
              refine opN rfl rfl rfl rfl ?_
              refine opN rfl rfl rfl rfl ?_
              refine opN rfl rfl rfl rfl ?_
              refine opN rfl rfl rfl rfl ?_
              refine opN rfl rfl rfl rfl ?_
              refine op (y (x_pickF rfl rfl) rfl ?_)
              refine nil ?_
              refine n_then ?_
              refine condF rfl ?_
              refine skip ?_
              refine n_in ?_
              exact mid [(1, .int .i64 s), (2, .pointer (some ⟨b2, 0, none⟩)), (5, .slice _ N.length _), (7, .int .i64 (r : Nat)), (8, .int .i64 (i : Nat)), (9, .slice A52 (BehindR (prE E) N[i]).length cap52), (10, .int .i64 (k : Nat))] ⟨rfl, rfl, rfl, rfl, rfl, rfl, rfl, trivial⟩ ⟨g, _, _, _, rfl, rfl, rfl, hkl, hO2, hgk, by
                  refine ⟨hgw.1, fun hnn => ?_⟩
                  rcases hgw.2 hnn with ⟨h1, h2⟩ | h1
                  · refine .inl ⟨h1, upto (p := fun j => ∀ b, N[j]? = some b → ¬ (fd (Ob E) N s r b = some r ∧ b ∈ Ob E N[i])) h2 (fun b e => ?_)⟩
                    rw [hz] at e; cases e
                    rintro ⟨h3, h4⟩
                    have h5 := (hkr (by omega)).2 h3
                    first
                    | omega
                    | exact absurd h4 (by assumption)
                    | exact absurd h5 (by assumption)
                  · exact .inr h1⟩
          · rintro F roc' Lc' ⟨g, A5, cap5, R5, rfl, rfl, rfl, hkl, hO, hgk, hgw⟩
            refine region ?_
            refine op (y (x_move rfl) rfl ?_)
            refine op (y (x_add rfl rfl _ (wr (by omega) (by omega))) rfl ?_)
            refine op (y (x_assign rfl) rfl ?_)
            refine nil ?_
            exact round (N.length - (k + 1)) [(1, .int .i64 s), (2, .pointer (some ⟨b2, 0, none⟩)), (5, .slice _ N.length _), (7, .int .i64 (r : Nat)), (8, .int .i64 (i : Nat)), (9, .slice A52 (BehindR (prE E) N[i]).length cap52), (10, .int .i64 ((k + 1) : Nat))] (by omega) ⟨rfl, rfl, rfl, rfl, rfl, rfl, rfl, trivial⟩ ⟨k + 1, g, _, _, _, rfl, rfl, rfl, rfl, by omega, hO, hgk, hgw⟩
        · try simp only [decide_eq_true_eq, decide_eq_false_iff_not, beq_iff_eq, bne_iff_ne, ne_eq, beq_eq_false_iff_ne, bne_eq_false_iff_eq, Bool.not_eq_true', Bool.not_eq_false', Bool.not_eq_true, Bool.not_eq_false, Decidable.not_not, Int.not_lt, Int.not_le] at h16
          refine exit ?_
          refine e_then ?_
          refine e_then ?_
          refine e_in ?_
          refine n_in ?_
          refine n_then ?_
          refine region ?_
          refine op (y (x_move rfl) rfl ?_)
          refine op (y (x_add rfl rfl _ (wr (by omega) (by omega))) rfl ?_)
          refine op (y (x_assign rfl) rfl ?_)
          refine nil ?_
          exact round (N.length - (i + 1)) [(1, .int .i64 s), (2, .pointer (some ⟨b2, 0, none⟩)), (5, .slice _ N.length _), (7, .int .i64 (r : Nat)), (8, .int .i64 ((i + 1) : Nat))] (by omega) ⟨rfl, rfl, rfl, rfl, rfl, trivial⟩ ⟨i + 1, g, _, _, _, rfl, rfl, rfl, by omega, hle.trans hle52, hA1, hB1, hO, fun j a ha => by
              by_cases hj : j = i
              · subst hj
                rw [hx] at ha; cases ha
                rw [if_pos (by omega)]
                cases hf : fd (Ob E) N s r N[j] with
                | some d => rw [fd_keep hf, hgw.1 d hf]; rfl
                | none =>
                  simp only [fd, hf]
                  rcases hgw.2 hf with ⟨h1, h2⟩ | ⟨h1, b, h2, h3, h4⟩
                  · rw [if_neg, h1]
                    · rfl
                    · rw [List.any_eq_true]
                      rintro ⟨b, hb, h5⟩
                      simp only [Bool.and_eq_true, beq_iff_eq, decide_eq_true_eq] at h5
                      obtain ⟨q, hq, e⟩ := List.getElem_of_mem hb
                      exact h2 q (by omega) b (by rw [List.getElem?_eq_getElem hq, e]) h5
                  · rw [if_pos, h1]
                    · rfl
                    · rw [List.any_eq_true]
                      exact ⟨b, h2, by simp only [Bool.and_eq_true, beq_iff_eq, decide_eq_true_eq]; exact ⟨h3, h4⟩⟩
              · rw [hgk j a ha hj]
                by_cases h : j < i
                · rw [if_pos h, if_pos (by omega)]
                · rw [if_neg h, if_neg (by omega)]⟩
      · try simp only [decide_eq_true_eq, decide_eq_false_iff_not, beq_iff_eq, bne_iff_ne, ne_eq, beq_eq_false_iff_ne, bne_eq_false_iff_eq, Bool.not_eq_true', Bool.not_eq_false', Bool.not_eq_true, Bool.not_eq_false, Decidable.not_not, Int.not_lt, Int.not_le] at h12
        refine exit ?_
        refine e_then ?_
        refine e_then ?_
        refine e_in ?_
        refine n_in ?_
        refine n_then ?_
        refine region ?_
        refine op (y (x_move rfl) rfl ?_)
        refine op (y (x_add rfl rfl _ (wr (by omega) (by omega))) rfl ?_)
        refine op (y (x_assign rfl) rfl ?_)
        refine nil ?_
        exact round (N.length - (r + 1)) [(1, .int .i64 s), (2, .pointer (some ⟨b2, 0, none⟩)), (5, .slice _ N.length _), (7, .int .i64 ((r + 1) : Nat))] (by omega) ⟨rfl, rfl, rfl, rfl, trivial⟩ ⟨r + 1, g, _, _, _, rfl, rfl, rfl, by omega, hle, hA, hB, hO, fun a ha => by
            obtain ⟨q, hq, e⟩ := List.getElem_of_mem ha
            have := hg q a (by rw [List.getElem?_eq_getElem hq, e])
            rw [if_pos (by omega)] at this; exact this⟩
    · try simp only [decide_eq_true_eq, decide_eq_false_iff_not, beq_iff_eq, bne_iff_ne, ne_eq, beq_eq_false_iff_ne, bne_eq_false_iff_eq, Bool.not_eq_true', Bool.not_eq_false', Bool.not_eq_true, Bool.not_eq_false, Decidable.not_not, Int.not_lt, Int.not_le] at h9
      refine exit ?_
      refine e_then ?_
      refine e_then ?_
      refine e_in ?_
      refine n_then ?_
      refine seq ?_
      refine region ?_
      refine op (y (x_move rfl) rfl ?_)
      refine op (y (x_assign rfl) rfl ?_)
      refine nil ?_
      refine n_then ?_
      refine ret ?_
      obtain rfl : r = N.length := by omega
      have hmg : N.map g = N.map (fun a => dI (fd (Ob E) N s N.length a)) := List.map_congr_left hg
      rw [hmg] at hO
      refine drop1 ?_
      exact done rfl (.tmp rfl (.nil)) (hle) (_) (⟨_, .refl _, .refl _⟩) (⟨_, _, _, rfl, hO, rfl⟩)

end Go.Proofs.Ytlmeblhcipkgmaa
