/- The walks of the table of what events do, of the search in a list. -/
import Derived.Test.YtijafcilfefafaaDoorV13
namespace Go.Proofs.YtijafcilfefafaaDoor
open Go Go.U
set_option maxRecDepth 20000
set_option linter.unusedSimpArgs false
set_option linter.unusedVariables false

def MV (er : Nat → Addr) (ro : Ro) (m : List (Int × Value)) (S : List Int) : Prop :=
  ∀ k : Int, (k ∈ S → ∃ (fk : FuncId) (caps : List Value) (A : Option Addr) (cap : Nat), mget m k = some (.agg [.slice A (fromM k).length cap, .func (.func fk) #[] caps.toArray].toArray) ∧ Fun Tryd.prog fk ∧ MoveC er fk caps k ro ∧ Sl ro 1 encInt A cap (fromM k)) ∧ (k ∉ S → mget m k = none)
theorem MV.mono {er : Nat → Addr} {ro ro' : Ro} {m : List (Int × Value)} {S : List Int} (h : MV er ro m S) (hle : ro.le ro') : MV er ro' m S := fun k => ⟨fun hk => by
  obtain ⟨fk, caps, A, cap, h1, h2, h3, h4⟩ := (h k).1 hk
  exact ⟨fk, caps, A, cap, h1, h2, h3.mono hle, h4.mono hle⟩, (h k).2⟩
theorem MV.nil (er : Nat → Addr) (ro : Ro) : MV er ro [] [] := fun kind => ⟨fun h => (by cases h), fun _ => rfl⟩
theorem MV.set {er : Nat → Addr} {ro : Ro} {m : List (Int × Value)} {S : List Int} (S' : List Int) {k : Int} (l : List Int) {fk : FuncId} {caps : List Value} {A : Option Addr} {cap : Nat} {v : Value} (h : MV er ro m S) (hl : fromM k = l) (hv : v = .agg [.slice A l.length cap, .func (.func fk) #[] caps.toArray].toArray) (hf : Fun Tryd.prog fk) (hn : MoveC er fk caps k ro) (hs : Sl ro 1 encInt A cap l) (hS : ∀ x, x ∈ S' ↔ x = k ∨ x ∈ S) : MV er ro (mset m k v) S' := fun kind => by
  subst hv
  subst hl
  rw [mget_mset]
  by_cases hk : k = kind
  · subst hk
    exact ⟨fun _ => ⟨fk, caps, A, cap, if_pos rfl, hf, hn, hs⟩, fun h => absurd ((hS k).2 (.inl rfl)) h⟩
  · rw [if_neg hk]
    refine ⟨fun hm => (h kind).1 ?_, fun hm => (h kind).2 fun hs => hm ((hS kind).2 (.inr hs))⟩
    rcases (hS kind).1 hm with rfl | h2
    · exact absurd rfl hk
    · exact h2
def PMoves (er : Nat → Addr) (L : List (List Blk)) : Value → Ro → List (List Blk) → Prop := fun v ro' L' => ∃ (r : Nat) (es : Array MapEntry) (clk : Nat) (m : List (Int × Value)), v = .map (some r) ∧ ro'.cells r = some (.map es clk) ∧ MapE encI m es clk ∧ MV er ro' m [6, 5, 7, 4, 3, 2] ∧ L = L'
theorem mc_call (er : Nat → Addr) (ro : Ro) : MoveC er 65 [] 2 ro := fun ro' p A cap R s e n L hle hG hk hn hO hds hst hne => moveCall_c p A cap R s e n hn hO hds ro' L hk
theorem mc_return (er : Nat → Addr) (ro : Ro) : MoveC er 66 [] 3 ro := fun ro' p A cap R s e n L hle hG hk hn hO hds hst hne => moveReturn_c p A cap R s e n hn hO hds ro' L hk (hne rfl) er hG
theorem mc_try (er : Nat → Addr) (ro : Ro) : MoveC er 68 [] 4 ro := fun ro' p A cap R s e n L hle hG hk hn hO hds hst hne => moveTry_c p A cap R s e n hn hO hds ro' L hk
theorem mc_cancel (er : Nat → Addr) (ro : Ro) : MoveC er 69 [] 7 ro := fun ro' p A cap R s e n L hle hG hk hn hO hds hst hne => moveCancel_c p A cap R s e n hn hO hds ro' L hk
theorem mc_commit (er : Nat → Addr) {b : Nat} {ro : Ro} (hb : ro.cell b 0 = some (.int .i64 3)) : MoveC er 64 [.pointer (some ⟨b, 0, none⟩)] 5 ro := fun ro' p A cap R s e n L hle hG hk hn hO hds hst hne => moveCommit_c p A cap R s e n hn hO hds ro' L hk b (hle.cell hb)
theorem mc_abort (er : Nat → Addr) {b : Nat} {ro : Ro} (hb : ro.cell b 0 = some (.int .i64 4)) : MoveC er 64 [.pointer (some ⟨b, 0, none⟩)] 6 ro := fun ro' p A cap R s e n L hle hG hk hn hO hds hst hne => moveAbort_c p A cap R s e n hn hO hds ro' L hk b (hle.cell hb)

theorem moves_c (er : Nat → Addr) (ro : Ro) (L : List (List Blk)) : CT Tryd.prog 59 [].toArray ro L (PMoves er L) := by
  refine enter Tryd.func59 rfl Tryd.ntmps59 rfl ?_
  refine seq ?_
  refine region ?_
  refine op (y (x_assign rfl) rfl ?_)
  refine nil ?_
  refine n_then ?_
  refine seq ?_
  refine region ?_
  refine op (y (x_assign rfl) rfl ?_)
  refine nil ?_
  refine n_then ?_
  refine seq ?_
  refine region ?_
  refine op (e_makeMap rfl fun b2 => ?_)
  refine op (e_slice1 rfl Tryd.underlying26 ti_3 rfl rfl (by decide) (by decide) rfl rfl rfl fun b3 => ?_)
  refine ufreeze fun rz3 hlz3 hRz3 => ?_
  have hSz3 : Sl rz3 1 encInt (some ⟨b3, 0, none⟩) 1 [1] := OwnS.sl (e := 3) (k := 1) (l := [1]) (enc := encInt) (OwnS.lit rfl (by simp [maxLen])) (fun _ _ => rfl) hRz3
  refine op (y (x_build bu_97 rfl rfl) rfl ?_)
  refine op (e_insert 0 Tryd.underlying98 keI rfl rfl rfl rfl MapE.empty (fun _ _ => rfl) fun es2 clk2 hE2 => ?_)
  have hM2 := MV.set [2] [1] (MV.nil er _) (by decide) rfl fn_65 (mc_call er _) (hSz3) (by intro x; simp)
  refine op (e_slice1 rfl Tryd.underlying26 ti_3 rfl rfl (by decide) (by decide) rfl rfl rfl fun b5 => ?_)
  refine ufreeze fun rz5 hlz5 hRz5 => ?_
  have hSz5 : Sl rz5 1 encInt (some ⟨b5, 0, none⟩) 1 [2] := OwnS.sl (e := 3) (k := 1) (l := [2]) (enc := encInt) (OwnS.lit rfl (by simp [maxLen])) (fun _ _ => rfl) hRz5
  refine op (y (x_build bu_97 rfl rfl) rfl ?_)
  refine op (e_insert 0 Tryd.underlying98 keI rfl rfl rfl rfl hE2 (fun _ _ => rfl) fun es3 clk3 hE3 => ?_)
  have hM3 := MV.set [3, 2] [2] (hM2.mono hlz5) (by decide) rfl fn_66 (mc_return er _) (hSz5) (by intro x; simp)
  refine op (e_slice1 rfl Tryd.underlying26 ti_3 rfl rfl (by decide) (by decide) rfl rfl rfl fun b7 => ?_)
  refine ufreeze fun rz7 hlz7 hRz7 => ?_
  have hSz7 : Sl rz7 1 encInt (some ⟨b7, 0, none⟩) 1 [1] := OwnS.sl (e := 3) (k := 1) (l := [1]) (enc := encInt) (OwnS.lit rfl (by simp [maxLen])) (fun _ _ => rfl) hRz7
  refine op (y (x_build bu_97 rfl rfl) rfl ?_)
  refine op (e_insert 0 Tryd.underlying98 keI rfl rfl rfl rfl hE3 (fun _ _ => rfl) fun es4 clk4 hE4 => ?_)
  have hM4 := MV.set [4, 3, 2] [1] (hM3.mono hlz7) (by decide) rfl fn_68 (mc_try er _) (hSz7) (by intro x; simp)
  refine op (e_slice1 rfl Tryd.underlying26 ti_3 rfl rfl (by decide) (by decide) rfl rfl rfl fun b9 => ?_)
  refine ufreeze fun rz9 hlz9 hRz9 => ?_
  have hSz9 : Sl rz9 1 encInt (some ⟨b9, 0, none⟩) 1 [1] := OwnS.sl (e := 3) (k := 1) (l := [1]) (enc := encInt) (OwnS.lit rfl (by simp [maxLen])) (fun _ _ => rfl) hRz9
  refine op (y (x_build bu_97 rfl rfl) rfl ?_)
  refine op (e_insert 0 Tryd.underlying98 keI rfl rfl rfl rfl hE4 (fun _ _ => rfl) fun es7 clk7 hE7 => ?_)
  have hM7 := MV.set [7, 4, 3, 2] [1] (hM4.mono hlz9) (by decide) rfl fn_69 (mc_cancel er _) (hSz9) (by intro x; simp)
  refine op (e_slice1 rfl Tryd.underlying26 ti_3 rfl rfl (by decide) (by decide) rfl rfl rfl fun b11 => ?_)
  refine ufreeze fun rz11 hlz11 hRz11 => ?_
  have hSz11 : Sl rz11 1 encInt (some ⟨b11, 0, none⟩) 1 [3] := OwnS.sl (e := 3) (k := 1) (l := [3]) (enc := encInt) (OwnS.lit rfl (by simp [maxLen])) (fun _ _ => rfl) hRz11
  refine op (y (x_move rfl) rfl ?_)
  refine op (e_call rfl (fn_63) rfl rfl (end_c 3 _ _) fun v13 ro13 L13 hle13 hp13 => ?_)
  obtain ⟨bc, rfl, hbc, rfl⟩ := hp13
  refine op (y (x_build bu_97 rfl rfl) rfl ?_)
  refine op (e_insert 0 Tryd.underlying98 keI rfl rfl rfl rfl hE7 (fun _ _ => rfl) fun es5 clk5 hE5 => ?_)
  have hM5 := MV.set [5, 7, 4, 3, 2] [3] (hM7.mono (hlz11.trans hle13)) (by decide) rfl fn_64 (mc_commit er hbc) (hSz11.mono hle13) (by intro x; simp)
  refine op (e_sliceN (zs := [.int .i64 0, .int .i64 0, .int .i64 0, .int .i64 0]) rfl Tryd.underlying26 ti_3 tz_3 rfl (by decide) (by decide) (by kernel_rfl) rfl rfl fun b15 => ?_)
  refine ufreeze fun rz15 hlz15 hRz15 => ?_
  have hSz15 : Sl rz15 1 encInt (some ⟨b15, 0, none⟩) 4 [1, 2, 3, 4] := OwnS.sl (e := 3) (k := 1) (l := [1, 2, 3, 4]) (enc := encInt) (OwnS.lit rfl (by simp [maxLen])) (fun _ _ => rfl) hRz15
  refine op (y (x_move rfl) rfl ?_)
  refine op (e_call rfl (fn_63) rfl rfl (end_c 4 _ _) fun v17 ro17 L17 hle17 hp17 => ?_)
  obtain ⟨bd, rfl, hbd, rfl⟩ := hp17
  refine op (y (x_build bu_97 rfl rfl) rfl ?_)
  refine op (e_insert 0 Tryd.underlying98 keI rfl rfl rfl rfl hE5 (fun _ _ => rfl) fun es6 clk6 hE6 => ?_)
  have hM6 := MV.set [6, 5, 7, 4, 3, 2] [1, 2, 3, 4] (hM5.mono (hlz15.trans hle17)) (by decide) rfl fn_64 (mc_abort er hbd) (hSz15.mono hle17) (by intro x; simp)
  refine ufreeze fun ro10 hle10 hR10 => ?_
  have hcr := hR10 _ (List.mem_singleton.2 rfl)
  refine op (y (x_move rfl) rfl ?_)
  refine op (y (x_assign rfl) rfl ?_)
  refine nil ?_
  refine n_then ?_
  refine ret ?_
  exact done rfl (.tmp rfl (.nil)) (((((((((hlz3).trans hlz5).trans hlz7).trans hlz9).trans hlz11).trans hle13).trans hlz15).trans hle17).trans hle10) (L) (subF (by (repeat (first | exact List.Sublist.refl _ | apply List.Sublist.cons_cons | apply List.Sublist.cons)); done)) (⟨_, es6, clk6, _, rfl, hcr, hE6, hM6.mono hle10, rfl⟩)

theorem Index_c (l : List Int) (A : Option Addr) (cap : Nat) (a : Int) (ro : Ro) (L : List (List Blk)) (hl : Sl ro 1 encInt A cap l) :
    CT Tryd.prog 70 [.slice A l.length cap, .int .i64 a].toArray ro L (fun v ro' L' => ∃ i : Int, v = .int .i64 i ∧ (0 ≤ i ↔ a ∈ l) ∧ ro = ro' ∧ L = L') := by
  have hcap : l.length ≤ 9223372036854775807 := by have := hl.1; have := hl.2.1; unfold maxLen at this; omega
  refine enter Tryd.func70 rfl Tryd.ntmps70 rfl ?_
  refine seq ?_
  refine region ?_
  refine op (y (x_assign rfl) rfl ?_)
  refine nil ?_
  refine n_then ?_
  refine seq ?_
  refine seq ?_
  refine region ?_
  refine op (y (x_move rfl) rfl ?_)
  refine op (y (x_lenSl sz_26 rfl) rfl ?_)
  refine op (y (x_move rfl) rfl ?_)
  refine nil ?_
  refine n_then ?_
  refine block ?_
  refine loop (fun m F ro' L' => ∃ (k : Nat), (m = l.length - k) ∧ (F = [(0, .slice A l.length cap), (1, .int .i64 a), (7, .int .i64 (l.length : Nat)), (8, .int .i64 (k : Nat))]) ∧ (ro = ro') ∧ (L = L') ∧ (k ≤ l.length) ∧ (∀ j : Nat, j < k → l[j]? ≠ some a)) (l.length - 0) [(0, .slice A l.length cap), (1, .int .i64 a), (7, .int .i64 (l.length : Nat)), (8, .int .i64 (0 : Nat))] ⟨rfl, rfl, rfl, rfl, trivial⟩ ⟨0, rfl, rfl, rfl, rfl, by omega, by intro j hj; omega⟩ ?_
  rintro m F ro' L' ⟨k, rfl, rfl, rfl, rfl, hk, hall⟩
  refine seq ?_
  refine region ?_
  refine op (y (x_lss rfl rfl) rfl ?_)
  refine nil ?_
  refine n_then ?_
  refine seq ?_
  refine cond rfl (fun h2 => ?_) (fun h2 => ?_)
  · try simp only [decide_eq_true_eq, decide_eq_false_iff_not, beq_iff_eq, bne_iff_ne, ne_eq, beq_eq_false_iff_ne, bne_eq_false_iff_eq, Bool.not_eq_true', Bool.not_eq_false', Bool.not_eq_true, Bool.not_eq_false, Decidable.not_not, Int.not_lt, Int.not_le] at h2
    refine skip ?_
    refine n_then ?_
    refine seq ?_
    refine block ?_
    refine seq ?_
    refine region ?_
    refine op (y (x_move rfl) rfl ?_)
    refine op (y (x_assign rfl) rfl ?_)
    refine nil ?_
    refine n_then ?_
    refine seq ?_
    obtain ⟨bbx, offx, rfl, hcx⟩ := hl.at_ (i := k) (by omega)
    have hx := List.getElem?_eq_getElem (show k < l.length from by omega)
    have cx0 := hcx k _ hx 0 _ rfl
    refine region ?_
    refine op (y (x_move rfl) rfl ?_)
    refine op (y (x_move rfl) rfl ?_)
    refine op (y (x_move rfl) rfl ?_)
    refine op (y (x_indexNat sz_26 rfl rfl (by omega)) rfl ?_)
    refine op (y (x_load1 ag_3 rfl (by first | assumption | exact Cell.own 0 rfl rfl | exact Cell.own 1 rfl rfl | exact Cell.own 2 rfl rfl | exact Cell.own 3 rfl rfl | exact Cell.own 4 rfl rfl | exact Cell.own 5 rfl rfl | exact Cell.own 6 rfl rfl | exact Cell.own 7 rfl rfl | exact Cell.own 8 rfl rfl | exact Cell.own 9 rfl rfl | exact Cell.ofRo (by assumption))) rfl ?_)
    refine op (y (x_eql rfl rfl) rfl ?_)
    refine nil ?_
    refine n_then ?_
    refine cond rfl (fun h4 => ?_) (fun h4 => ?_)
    · try simp only [decide_eq_true_eq, decide_eq_false_iff_not, beq_iff_eq, bne_iff_ne, ne_eq, beq_eq_false_iff_ne, bne_eq_false_iff_eq, Bool.not_eq_true', Bool.not_eq_false', Bool.not_eq_true, Bool.not_eq_false, Decidable.not_not, Int.not_lt, Int.not_le] at h4
      refine seq ?_
      refine region ?_
      refine op (y (x_move rfl) rfl ?_)
      refine op (y (x_assign rfl) rfl ?_)
      refine nil ?_
      refine n_then ?_
      refine ret ?_
      refine r_in ?_
      refine r_then ?_
      refine r_then ?_
      refine r_in ?_
      refine r_then ?_
      exact done rfl (.tmp rfl (.nil)) (Ro.le.refl _) (L) (⟨_, .refl _, .refl _⟩) (⟨_, rfl, ⟨fun _ => List.mem_of_getElem? (i := k) (by rw [hx]; simp; grind), fun _ => by omega⟩, rfl, rfl⟩)
    · try simp only [decide_eq_true_eq, decide_eq_false_iff_not, beq_iff_eq, bne_iff_ne, ne_eq, beq_eq_false_iff_ne, bne_eq_false_iff_eq, Bool.not_eq_true', Bool.not_eq_false', Bool.not_eq_true, Bool.not_eq_false, Decidable.not_not, Int.not_lt, Int.not_le] at h4
      refine skip ?_
      refine n_in ?_
      refine n_then ?_
      refine region ?_
      refine op (y (x_add rfl rfl _ (wr (by omega) (by omega))) rfl ?_)
      refine op (y (x_move rfl) rfl ?_)
      refine nil ?_
      exact round (l.length - (k + 1)) [(0, .slice _ l.length cap), (1, .int .i64 a), (7, .int .i64 (l.length : Nat)), (8, .int .i64 ((k + 1) : Nat))] (by omega) ⟨rfl, rfl, rfl, rfl, trivial⟩ ⟨k + 1, rfl, rfl, rfl, rfl, by omega, upto (p := fun j => l[j]? ≠ some a) hall (fun e => h4 (by rw [hx] at e; grind))⟩
  · try simp only [decide_eq_true_eq, decide_eq_false_iff_not, beq_iff_eq, bne_iff_ne, ne_eq, beq_eq_false_iff_ne, bne_eq_false_iff_eq, Bool.not_eq_true', Bool.not_eq_false', Bool.not_eq_true, Bool.not_eq_false, Decidable.not_not, Int.not_lt, Int.not_le] at h2
    refine exit ?_
    refine e_then ?_
    refine e_then ?_
    refine e_in ?_
    refine n_then ?_
    refine seq ?_
    refine region ?_
    refine op (y (x_assign rfl) rfl ?_)
    refine nil ?_
    refine n_then ?_
    refine ret ?_
    exact done rfl (.tmp rfl (.nil)) (Ro.le.refl _) (L) (⟨_, .refl _, .refl _⟩) (⟨_, rfl, ⟨fun h => absurd h (by decide), fun h => absurd h (not_mem_of (fun j hj => hall j (by omega)))⟩, rfl, rfl⟩)

theorem Contains_c (l : List Int) (A : Option Addr) (cap : Nat) (a : Int) (ro : Ro) (L : List (List Blk)) (hl : Sl ro 1 encInt A cap l) :
    CT Tryd.prog 60 [.slice A l.length cap, .int .i64 a].toArray ro L (PQ (.bool (decide (a ∈ l))) ro L) := by
  refine enter Tryd.func60 rfl Tryd.ntmps60 rfl ?_
  refine seq ?_
  refine region ?_
  refine op (y (x_assign rfl) rfl ?_)
  refine nil ?_
  refine n_then ?_
  refine seq ?_
  refine region ?_
  refine op (y (x_move rfl) rfl ?_)
  refine op (y (x_move rfl) rfl ?_)
  refine op (e_call rfl fn_70 rfl rfl (Index_c l A cap a _ _ hl) fun v7 ro7 L7 hle7 hp7 => ?_)
  obtain ⟨i7, rfl, hi7, rfl, rfl⟩ := hp7
  refine op (y (x_geq rfl rfl) rfl ?_)
  refine op (y (x_assign rfl) rfl ?_)
  refine nil ?_
  refine n_then ?_
  refine ret ?_
  exact done rfl (.tmp rfl (.nil)) (Ro.le.refl _) (L) (⟨_, .refl _, .refl _⟩) (⟨by simp only [tupled]; congr 1; rw [decide_eq_decide]; exact hi7, rfl, rfl⟩)

end Go.Proofs.YtijafcilfefafaaDoor
