/- The walks of the keys of states. -/
import Derived.Test.YtgkngljojfkkfaaGreatDoorW7
import Derived.Lib.ItoaLen
namespace Go.Proofs.YtgkngljojfkkfaaGreatDoor
open Go Go.U
set_option maxRecDepth 20000
set_option linter.unusedSimpArgs false
set_option linter.unusedVariables false

def pairT (p : Pr) : ByteArray := numT p.key ++ ⟨#[58]⟩ ++ numT p.val
def restW (s : Sv) : List ByteArray := if s.kind = 1 ∨ s.kind = 2 then [numT s.num] else if s.kind = 3 then s.q.map numT else if s.kind = 4 then s.p.map pairT else []
def keyT (s : Sv) : ByteArray := joinT (wordT s.kind :: restW s) ⟨#[32]⟩
/-- a state's numbers are Go's -/
structure SvB (s : Sv) : Prop where
  kind : I64 s.kind
  num : I64 s.num
  q : ∀ x ∈ s.q, I64 x
  p : ∀ x ∈ s.p, I64 x.key ∧ I64 x.val
  ql : s.q.length ≤ 100000
  pl : s.p.length ≤ 100000
theorem numT_size {n : Int} (h : I64 n) : (numT n).data.toList.length ≤ 21 := by
  have := Lib.itoa_length_le n h.1 h.2
  simpa [numT] using this
theorem cat1 {a : Int} (h : I64 a) : (numT a).size + (⟨#[58]⟩ : ByteArray).size ≤ 9223372036854775807 := by
  have h1 := numT_size h
  have e1 : (numT a).size = (numT a).data.toList.length := (Array.length_toList).symm
  have e2 : (⟨#[58]⟩ : ByteArray).size = 1 := rfl
  omega
theorem cat2 {a b : Int} (h : I64 a) (g : I64 b) : (numT a ++ ⟨#[58]⟩).size + (numT b).size ≤ 9223372036854775807 := by
  have h1 := numT_size h
  have h2 := numT_size g
  have e1 : (numT a).size = (numT a).data.toList.length := (Array.length_toList).symm
  have e3 : (numT b).size = (numT b).data.toList.length := (Array.length_toList).symm
  have e2 : (⟨#[58]⟩ : ByteArray).size = 1 := rfl
  rw [ByteArray.size_append]
  omega
theorem pairT_size {p : Pr} (h : I64 p.key ∧ I64 p.val) : (pairT p).data.toList.length ≤ 43 := by
  have h1 := numT_size h.1
  have h2 := numT_size h.2
  unfold pairT
  simp only [ByteArray.data_append, Array.toList_append, List.length_append, List.length_cons, List.length_nil] at *
  omega
theorem wordT_size (k : Int) : (wordT k).data.toList.length ≤ 8 := by
  by_cases h : 1 ≤ k ∧ k ≤ 4
  · obtain rfl | rfl | rfl | rfl : k = 1 ∨ k = 2 ∨ k = 3 ∨ k = 4 := by omega
    all_goals decide +kernel
  · rw [wordT_empty h]; decide
theorem lens_le {c : Nat} : ∀ (l : List ByteArray), (∀ x ∈ l, x.data.toList.length ≤ c) → ((l.map (·.data.toList)).map List.length).sum ≤ l.length * c
  | [], _ => by simp
  | x :: l, h => by
    have h1 := h x (by simp)
    have ih := lens_le l (fun y hy => h y (by simp [hy]))
    simp only [List.map_cons, List.sum_cons, List.length_cons, Nat.succ_mul]
    omega
theorem join_le {c : Nat} {l : List ByteArray} {sep : ByteArray} (h : ∀ x ∈ l, x.data.toList.length ≤ c) : (Lib.join (l.map (·.data.toList)) sep.data.toList).length ≤ l.length * c + l.length * sep.data.toList.length := by
  have h1 := lens_le l h
  generalize hm : l.map (·.data.toList) = m at *
  have hml : m.length = l.length := by rw [← hm]; simp
  have key : ∀ m : List (List UInt8), (Lib.join m sep.data.toList).length ≤ (m.map List.length).sum + m.length * sep.data.toList.length := by
    intro m
    unfold Lib.join
    induction m with
    | nil => simp
    | cons x m ih =>
      cases m with
      | nil => simp
      | cons y m =>
        rw [List.intercalate_cons_cons]
        simp only [List.length_append, List.map_cons, List.sum_cons, List.length_cons, Nat.succ_mul] at ih ⊢
        omega
  have := key m
  rw [hml] at this
  omega
theorem restW_size {s : Sv} (h : SvB s) : ∀ x ∈ wordT s.kind :: restW s, x.data.toList.length ≤ 43 := by
  intro x hx
  rcases List.mem_cons.1 hx with rfl | hx
  · have := wordT_size s.kind; omega
  · unfold restW at hx
    split at hx
    · simp at hx; subst hx; have := numT_size h.num; omega
    split at hx
    · obtain ⟨y, hy, rfl⟩ := List.mem_map.1 hx
      have := numT_size (h.q y hy); omega
    split at hx
    · obtain ⟨y, hy, rfl⟩ := List.mem_map.1 hx
      exact pairT_size (h.p y hy)
    · cases hx
theorem restW_len {s : Sv} (h : SvB s) : (restW s).length ≤ 100000 := by
  have h1 := h.ql
  have h2 := h.pl
  unfold restW
  split
  · simp
  split
  · simpa using h1
  split
  · simpa using h2
  · simp
theorem keyT_size {s : Sv} (h : SvB s) : (keyT s).data.toList.length ≤ 5000000 := by
  have h1 := join_le (sep := ⟨#[32]⟩) (restW_size h)
  have h2 := restW_len h
  unfold keyT joinT
  simp only [List.length_cons, List.length_nil, Nat.succ_mul] at h1 ⊢
  simp at h1 ⊢
  omega

theorem Key_x (kd nm : Int) (qA : Option Addr) (qc : Nat) (q : List Int) (pA : Option Addr) (pc : Nat) (p : List Pr) (er : Nat → Addr) (ro : Ro) (L : List (List Blk)) (hG : Glob er ro) (hs : SnOk ro ⟨kd, nm, qA, qc, q, pA, pc, p⟩) (hB : SvB ⟨kd, nm, q, p⟩) :
    CT Tryz.prog 17 [.agg (encSn ⟨kd, nm, qA, qc, q, pA, pc, p⟩).toArray].toArray ro L (PV (.string (keyT ⟨kd, nm, q, p⟩)) L) := by
  have hql : q.length ≤ 9223372036854775807 := cap_ge hs.q
  have hpl : p.length ≤ 9223372036854775807 := cap_ge hs.p
  have hq5 : q.length ≤ 100000 := hB.ql
  have hp5 : p.length ≤ 100000 := hB.pl
  refine enter Tryz.func17 rfl Tryz.ntmps17 rfl ?_
  refine seq ?_
  refine region ?_
  refine op (e_box rfl rfl rfl fun b1 => ?_)
  refine op (y (x_assign rfl) rfl ?_)
  refine nil ?_
  refine n_then ?_
  refine seq ?_
  refine region ?_
  refine op (y (x_fieldAddr fo_29_0 rfl) rfl ?_)
  refine op (y (x_load1 ag_3 rfl (by first | assumption | exact Cell.own 0 rfl rfl | exact Cell.own 1 rfl rfl | exact Cell.own 2 rfl rfl | exact Cell.own 3 rfl rfl | exact Cell.own 4 rfl rfl | exact Cell.own 5 rfl rfl | exact Cell.own 6 rfl rfl | exact Cell.own 7 rfl rfl | exact Cell.own 8 rfl rfl | exact Cell.own 9 rfl rfl | exact Cell.ofRo (by assumption))) rfl ?_)
  refine op (e_call rfl fn_55 rfl rfl (Word_c kd hB.kind er _ _ hG) fun v10 ro10 L10 hle10 hp10 => ?_)
  obtain ⟨rfl, rfl, rfl⟩ := hp10
  refine op (e_slice1 rfl Tryz.underlying54 ti_9 rfl rfl (by decide) (by decide) rfl rfl rfl fun b11 => ?_)
  have hO1 : OwnS 9 1 (some ⟨b11, 0, none⟩) 1 1 [.string (wordT kd)] [(b11, .cells [.string (wordT kd)].toArray 9 (0, 0))] := OwnS.lit rfl (by decide)
  refine op (y (x_assign rfl) rfl ?_)
  refine nil ?_
  refine n_then ?_
  refine seqM (fun F ro' L' => ∃ (A3 : Option Addr) (c3 : Nat) (R3 : List Blk), (F = [(3, .slice A3 (wordT kd :: restW ⟨kd, nm, q, p⟩).length c3)]) ∧ (ro = ro') ∧ (L' = R3 :: [(b1, Obj.cells (encSn ⟨kd, nm, qA, qc, q, pA, pc, p⟩).toArray 29 (0, 0))] :: L) ∧ (OwnS 9 1 A3 (wordT kd :: restW ⟨kd, nm, q, p⟩).length c3 ((wordT kd :: restW ⟨kd, nm, q, p⟩).flatMap encW) R3)) ?_ ?_
  · skip
    refine seq ?_
    refine region ?_
    refine op (y (x_fieldAddr fo_29_0 rfl) rfl ?_)
    refine op (y (x_load1 ag_3 rfl (by first | assumption | exact Cell.own 0 rfl rfl | exact Cell.own 1 rfl rfl | exact Cell.own 2 rfl rfl | exact Cell.own 3 rfl rfl | exact Cell.own 4 rfl rfl | exact Cell.own 5 rfl rfl | exact Cell.own 6 rfl rfl | exact Cell.own 7 rfl rfl | exact Cell.own 8 rfl rfl | exact Cell.own 9 rfl rfl | exact Cell.ofRo (by assumption))) rfl ?_)
    refine nil ?_
    refine n_then ?_
    refine block ?_
    refine seq ?_
    refine seq ?_
    refine region ?_
    refine op (y (x_eql rfl rfl) rfl ?_)
    refine op (y (x_assign rfl) rfl ?_)
    refine nil ?_
    refine n_then ?_
    refine cond rfl (fun h3 => ?_) (fun h3 => ?_)
    · try simp only [decide_eq_true_eq, decide_eq_false_iff_not, beq_iff_eq, bne_iff_ne, ne_eq, beq_eq_false_iff_ne, bne_eq_false_iff_eq, Bool.not_eq_true', Bool.not_eq_false', Bool.not_eq_true, Bool.not_eq_false, Decidable.not_not, Int.not_lt, Int.not_le] at h3
      refine skip ?_
      refine n_then ?_
      refine cond rfl (fun h3 => ?_) (fun h3 => ?_)
      · try simp only [decide_eq_true_eq, decide_eq_false_iff_not, beq_iff_eq, bne_iff_ne, ne_eq, beq_eq_false_iff_ne, bne_eq_false_iff_eq, Bool.not_eq_true', Bool.not_eq_false', Bool.not_eq_true, Bool.not_eq_false, Decidable.not_not, Int.not_lt, Int.not_le] at h3
        refine region ?_
        refine op (y (x_move rfl) rfl ?_)
        refine op (y (x_fieldAddr fo_29_1 rfl) rfl ?_)
        refine op (y (x_load1 ag_3 rfl (by first | assumption | exact Cell.own 0 rfl rfl | exact Cell.own 1 rfl rfl | exact Cell.own 2 rfl rfl | exact Cell.own 3 rfl rfl | exact Cell.own 4 rfl rfl | exact Cell.own 5 rfl rfl | exact Cell.own 6 rfl rfl | exact Cell.own 7 rfl rfl | exact Cell.own 8 rfl rfl | exact Cell.own 9 rfl rfl | exact Cell.ofRo (by assumption))) rfl ?_)
        refine op (e_call rfl fn_56 rfl rfl (Print_c nm hB.num er _ _ hG) fun v20 ro20 L20 hle20 hp20 => ?_)
        obtain ⟨rfl, rfl, rfl⟩ := hp20
        refine op (e_slice1 rfl Tryz.underlying54 ti_9 rfl rfl (by decide) (by decide) rfl rfl rfl fun b21 => ?_)
        refine op (e_append1 0 rfl st_54 rfl rfl rfl hO1 rfl rfl (by omega) (by omega) (fun _ => rfl) fun A22 cap22 R22 hO22 => ?_)
        refine op (y (x_assign rfl) rfl ?_)
        refine nil ?_
        refine n_in ?_
        have hrw : restW ⟨kd, nm, q, p⟩ = [numT nm] := if_pos (by show kd = 1 ∨ kd = 2; grind)
        refine said 3 (.slice A22 (wordT kd :: restW ⟨kd, nm, q, p⟩).length cap22) rfl (by rw [hrw]; simp) ?_
        exact mid [(3, .slice A22 (wordT kd :: restW ⟨kd, nm, q, p⟩).length cap22)] ⟨rfl, trivial⟩ ⟨A22, cap22, R22, rfl, rfl, rfl, by rw [hrw]; exact hO22⟩
      · try simp only [decide_eq_true_eq, decide_eq_false_iff_not, beq_iff_eq, bne_iff_ne, ne_eq, beq_eq_false_iff_ne, bne_eq_false_iff_eq, Bool.not_eq_true', Bool.not_eq_false', Bool.not_eq_true, Bool.not_eq_false, Decidable.not_not, Int.not_lt, Int.not_le] at h3
        refine seq ?_
        refine region ?_
        refine op (y (x_eql rfl rfl) rfl ?_)
        refine op (y (x_assign rfl) rfl ?_)
        refine nil ?_
        refine n_then ?_
        refine cond rfl (fun h6 => ?_) (fun h6 => ?_)
        · try simp only [decide_eq_true_eq, decide_eq_false_iff_not, beq_iff_eq, bne_iff_ne, ne_eq, beq_eq_false_iff_ne, bne_eq_false_iff_eq, Bool.not_eq_true', Bool.not_eq_false', Bool.not_eq_true, Bool.not_eq_false, Decidable.not_not, Int.not_lt, Int.not_le] at h6
          refine seq ?_
          refine region ?_
          refine op (y (x_fieldAddr fo_29_2 rfl) rfl ?_)
          refine op (y (x_load1 ag_26 rfl (by first | assumption | exact Cell.own 0 rfl rfl | exact Cell.own 1 rfl rfl | exact Cell.own 2 rfl rfl | exact Cell.own 3 rfl rfl | exact Cell.own 4 rfl rfl | exact Cell.own 5 rfl rfl | exact Cell.own 6 rfl rfl | exact Cell.own 7 rfl rfl | exact Cell.own 8 rfl rfl | exact Cell.own 9 rfl rfl | exact Cell.ofRo (by assumption))) rfl ?_)
          refine op (y (x_lenSl sz_26 rfl) rfl ?_)
          refine op (y (x_move rfl) rfl ?_)
          refine nil ?_
          refine n_then ?_
          refine block ?_
          refine loop (fun m F ro' L' => ∃ (k : Nat) (A3 : Option Addr) (c3 : Nat) (R3 : List Blk), (m = q.length - k) ∧ (F = [(1, .pointer (some ⟨b1, 0, none⟩)), (3, .slice A3 (k + 1) c3), (26, .slice qA q.length qc), (27, .int .i64 (q.length : Nat)), (28, .int .i64 (k : Nat))]) ∧ (ro = ro') ∧ (L' = R3 :: [(b1, Obj.cells (encSn ⟨kd, nm, qA, qc, q, pA, pc, p⟩).toArray 29 (0, 0))] :: L) ∧ (k ≤ q.length) ∧ (OwnS 9 1 A3 (k + 1) c3 ((wordT kd :: (q.take k).map numT).flatMap encW) R3)) (q.length - 0) [(1, .pointer (some ⟨b1, 0, none⟩)), (3, .slice _ (0 + 1) 1), (26, .slice qA q.length qc), (27, .int .i64 (q.length : Nat)), (28, .int .i64 (0 : Nat))] ⟨rfl, rfl, rfl, rfl, rfl, trivial⟩ ⟨0, _, 1, _, rfl, rfl, rfl, rfl, by omega, hO1⟩ ?_
          rintro m F ro' L' ⟨k, A3, c3, R3, rfl, rfl, rfl, rfl, hk, hO⟩
          refine seq ?_
          refine region ?_
          refine op (y (x_lss rfl rfl) rfl ?_)
          refine nil ?_
          refine n_then ?_
          refine seq ?_
          refine cond rfl (fun h8 => ?_) (fun h8 => ?_)
          · try simp only [decide_eq_true_eq, decide_eq_false_iff_not, beq_iff_eq, bne_iff_ne, ne_eq, beq_eq_false_iff_ne, bne_eq_false_iff_eq, Bool.not_eq_true', Bool.not_eq_false', Bool.not_eq_true, Bool.not_eq_false, Decidable.not_not, Int.not_lt, Int.not_le] at h8
            refine skip ?_
            refine n_then ?_
            refine seq ?_
            refine block ?_
            refine seq ?_
            have hsq : Sl ro 1 encInt qA qc q := hs.q
            obtain ⟨bbx, offx, rfl, hcx⟩ := hsq.at_ (i := k) (by omega)
            have hx := List.getElem?_eq_getElem (show k < q.length from by omega)
            have cx0 := hcx k _ hx 0 _ rfl
            refine region ?_
            refine op (y (x_indexNat sz_26 rfl rfl (by omega)) rfl ?_)
            refine op (y (x_load1 ag_3 rfl (by first | assumption | exact Cell.own 0 rfl rfl | exact Cell.own 1 rfl rfl | exact Cell.own 2 rfl rfl | exact Cell.own 3 rfl rfl | exact Cell.own 4 rfl rfl | exact Cell.own 5 rfl rfl | exact Cell.own 6 rfl rfl | exact Cell.own 7 rfl rfl | exact Cell.own 8 rfl rfl | exact Cell.own 9 rfl rfl | exact Cell.ofRo (by assumption))) rfl ?_)
            refine op (y (x_assign rfl) rfl ?_)
            refine nil ?_
            refine n_then ?_
            refine region ?_
            refine op (y (x_move rfl) rfl ?_)
            refine op (y (x_move rfl) rfl ?_)
            refine op (e_call rfl fn_56 rfl rfl (Print_c (q[k]) (hB.q _ (List.mem_of_getElem? hx)) er _ _ hG) fun v34 ro34 L34 hle34 hp34 => ?_)
            obtain ⟨rfl, rfl, rfl⟩ := hp34
            refine op (e_slice1 rfl Tryz.underlying54 ti_9 rfl rfl (by decide) (by decide) rfl rfl rfl fun b35 => ?_)
            refine op (e_append1 0 rfl st_54 rfl rfl rfl hO rfl rfl (by omega) (by omega) (fun _ => rfl) fun A36 cap36 R36 hO36 => ?_)
            refine op (y (x_assign rfl) rfl ?_)
            refine nil ?_
            refine n_in ?_
            refine n_then ?_
            refine region ?_
            refine op (y (x_add rfl rfl _ (wr (by omega) (by omega))) rfl ?_)
            refine op (y (x_move rfl) rfl ?_)
            refine nil ?_
            exact round (q.length - (k + 1)) [(1, .pointer (some ⟨b1, 0, none⟩)), (3, .slice A36 ((k + 1) + 1) cap36), (26, .slice _ q.length qc), (27, .int .i64 (q.length : Nat)), (28, .int .i64 ((k + 1) : Nat))] (by omega) ⟨rfl, rfl, rfl, rfl, rfl, trivial⟩ ⟨k + 1, A36, cap36, R36, rfl, rfl, rfl, rfl, by omega, by rw [take_snoc' hx, List.map_append]; exact hO36.snoc (enc := encW) (l := wordT kd :: (q.take k).map numT) (x := numT q[k])⟩
          · try simp only [decide_eq_true_eq, decide_eq_false_iff_not, beq_iff_eq, bne_iff_ne, ne_eq, beq_eq_false_iff_ne, bne_eq_false_iff_eq, Bool.not_eq_true', Bool.not_eq_false', Bool.not_eq_true, Bool.not_eq_false, Decidable.not_not, Int.not_lt, Int.not_le] at h8
            refine exit ?_
            refine e_then ?_
            refine e_then ?_
            refine e_in ?_
            refine n_in ?_
            obtain rfl : k = q.length := by omega
            rw [List.take_length] at hO
            have hrw : restW ⟨kd, nm, q, p⟩ = q.map numT := by unfold restW; rw [if_neg (by show ¬ (kd = 1 ∨ kd = 2); grind), if_pos (by show kd = 3; grind)]
            refine said 3 (.slice A3 (wordT kd :: restW ⟨kd, nm, q, p⟩).length c3) rfl (by rw [hrw]; simp) ?_
            exact mid [(3, .slice A3 (wordT kd :: restW ⟨kd, nm, q, p⟩).length c3)] ⟨rfl, trivial⟩ ⟨A3, c3, R3, rfl, rfl, rfl, by rw [hrw]; simpa using hO⟩
        · try simp only [decide_eq_true_eq, decide_eq_false_iff_not, beq_iff_eq, bne_iff_ne, ne_eq, beq_eq_false_iff_ne, bne_eq_false_iff_eq, Bool.not_eq_true', Bool.not_eq_false', Bool.not_eq_true, Bool.not_eq_false, Decidable.not_not, Int.not_lt, Int.not_le] at h6
          refine seq ?_
          refine region ?_
          refine op (y (x_eql rfl rfl) rfl ?_)
          refine op (y (x_assign rfl) rfl ?_)
          refine nil ?_
          refine n_then ?_
          refine cond rfl (fun h12 => ?_) (fun h12 => ?_)
          · try simp only [decide_eq_true_eq, decide_eq_false_iff_not, beq_iff_eq, bne_iff_ne, ne_eq, beq_eq_false_iff_ne, bne_eq_false_iff_eq, Bool.not_eq_true', Bool.not_eq_false', Bool.not_eq_true, Bool.not_eq_false, Decidable.not_not, Int.not_lt, Int.not_le] at h12
            refine seq ?_
            refine region ?_
            refine op (y (x_fieldAddr fo_29_3 rfl) rfl ?_)
            refine op (y (x_load1 ag_27 rfl (by first | assumption | exact Cell.own 0 rfl rfl | exact Cell.own 1 rfl rfl | exact Cell.own 2 rfl rfl | exact Cell.own 3 rfl rfl | exact Cell.own 4 rfl rfl | exact Cell.own 5 rfl rfl | exact Cell.own 6 rfl rfl | exact Cell.own 7 rfl rfl | exact Cell.own 8 rfl rfl | exact Cell.own 9 rfl rfl | exact Cell.ofRo (by assumption))) rfl ?_)
            refine op (y (x_lenSl sz_27 rfl) rfl ?_)
            refine op (y (x_move rfl) rfl ?_)
            refine nil ?_
            refine n_then ?_
            refine block ?_
            refine loop (fun m F ro' L' => ∃ (k : Nat) (A3 : Option Addr) (c3 : Nat) (R3 : List Blk), (m = p.length - k) ∧ (F = [(1, .pointer (some ⟨b1, 0, none⟩)), (3, .slice A3 (k + 1) c3), (41, .slice pA p.length pc), (42, .int .i64 (p.length : Nat)), (43, .int .i64 (k : Nat))]) ∧ (ro = ro') ∧ (L' = R3 :: [(b1, Obj.cells (encSn ⟨kd, nm, qA, qc, q, pA, pc, p⟩).toArray 29 (0, 0))] :: L) ∧ (k ≤ p.length) ∧ (OwnS 9 1 A3 (k + 1) c3 ((wordT kd :: (p.take k).map pairT).flatMap encW) R3)) (p.length - 0) [(1, .pointer (some ⟨b1, 0, none⟩)), (3, .slice _ (0 + 1) 1), (41, .slice pA p.length pc), (42, .int .i64 (p.length : Nat)), (43, .int .i64 (0 : Nat))] ⟨rfl, rfl, rfl, rfl, rfl, trivial⟩ ⟨0, _, 1, _, rfl, rfl, rfl, rfl, by omega, hO1⟩ ?_
            rintro m F ro' L' ⟨k, A3, c3, R3, rfl, rfl, rfl, rfl, hk, hO⟩
            refine seq ?_
            refine region ?_
            refine op (y (x_lss rfl rfl) rfl ?_)
            refine nil ?_
            refine n_then ?_
            refine seq ?_
            refine cond rfl (fun h14 => ?_) (fun h14 => ?_)
            · try simp only [decide_eq_true_eq, decide_eq_false_iff_not, beq_iff_eq, bne_iff_ne, ne_eq, beq_eq_false_iff_ne, bne_eq_false_iff_eq, Bool.not_eq_true', Bool.not_eq_false', Bool.not_eq_true, Bool.not_eq_false, Decidable.not_not, Int.not_lt, Int.not_le] at h14
              refine skip ?_
              refine n_then ?_
              refine seq ?_
              refine block ?_
              refine seq ?_
              have hsp : Sl ro 2 encPr pA pc p := hs.p
              obtain ⟨bbx, offx, rfl, hcx⟩ := hsp.at_ (i := k) (by omega)
              have hx := List.getElem?_eq_getElem (show k < p.length from by omega)
              refine region ?_
              refine op (y (x_indexNat sz_27 rfl rfl (by omega)) rfl ?_)
              refine op (y (x_loadN ag_110 rfl rfl (CellsAt.ofRo (fun j v hv => hcx k _ hx j v hv))) rfl ?_)
              refine op (e_alloc rfl zc_110 rfl fun b7 => ?_)
              first | refine op (e_store 0 rfl rfl ts_110 rfl rfl rfl rfl rfl rfl ?_) | refine op (e_store 1 rfl rfl ts_110 rfl rfl rfl rfl rfl rfl ?_) | refine op (e_store 2 rfl rfl ts_110 rfl rfl rfl rfl rfl rfl ?_) | refine op (e_store 3 rfl rfl ts_110 rfl rfl rfl rfl rfl rfl ?_) | refine op (e_store 4 rfl rfl ts_110 rfl rfl rfl rfl rfl rfl ?_) | refine op (e_store 5 rfl rfl ts_110 rfl rfl rfl rfl rfl rfl ?_) | refine op (e_store 6 rfl rfl ts_110 rfl rfl rfl rfl rfl rfl ?_) | refine op (e_store 7 rfl rfl ts_110 rfl rfl rfl rfl rfl rfl ?_) | refine op (e_store 8 rfl rfl ts_110 rfl rfl rfl rfl rfl rfl ?_) | refine op (e_store 9 rfl rfl ts_110 rfl rfl rfl rfl rfl rfl ?_)
              refine nil ?_
              refine n_then ?_
              refine draw ([(b7, Obj.cells [Value.int .i64 (p[k]).key, Value.int .i64 (p[k]).val].toArray 110 (0, 0))]) (by kernel_rfl) ?_
              refine d_take 0 rfl (by kernel_rfl) (by kernel_rfl) (by kernel_rfl) (fun _ _ _ h => h) rfl (.inl rfl) (x_move rfl) (fun w hi => J.of_le (Ro.le.refl _) (fun x hx => by simp only [List.mem_singleton] at hx; subst hx; simp) hi) ?_
              refine d_take 1 rfl (by kernel_rfl) (by kernel_rfl) (by kernel_rfl) (fun _ _ _ h => h) rfl (.inl rfl) (x_fieldAddr fo_110_0 rfl) (fun w hi => J.of_le (Ro.le.refl _) (fun x hx => by simp only [List.mem_singleton] at hx; subst hx; simp) hi) ?_
              refine d_take 2 rfl (by kernel_rfl) (by kernel_rfl) (by kernel_rfl) (fun _ _ _ h => h) rfl (.inl rfl) (x_load1 ag_3 rfl (Cell.blk (List.mem_singleton.2 rfl) rfl)) (fun w hi => J.of_le (Ro.le.refl _) (fun x hx => by simp only [List.mem_singleton] at hx; subst hx; simp) hi) ?_
              refine d_take 5 rfl (by kernel_rfl) (by kernel_rfl) (by kernel_rfl) (fun _ _ _ h => h) rfl (.inl rfl) (x_fieldAddr fo_110_1 rfl) (fun w hi => J.of_le (Ro.le.refl _) (fun x hx => by simp only [List.mem_singleton] at hx; subst hx; simp) hi) ?_
              refine d_take 6 rfl (by kernel_rfl) (by kernel_rfl) (by kernel_rfl) (fun _ _ _ h => h) rfl (.inl rfl) (x_load1 ag_3 rfl (Cell.blk (List.mem_singleton.2 rfl) rfl)) (fun w hi => J.of_le (Ro.le.refl _) (fun x hx => by simp only [List.mem_singleton] at hx; subst hx; simp) hi) ?_
              refine d_one 3 rfl (by kernel_rfl) (.inl rfl) (e_call rfl fn_56 rfl rfl (Print_c (p[k]).key (hB.p _ (List.mem_of_getElem? hx)).1 er _ _ hG) fun v50 ro50 L50 hle50 hp50 => ?_)
              obtain ⟨rfl, rfl, rfl⟩ := hp50
              refine d_next (fun w hi => J.of_le (Ro.le.refl _) (fun x hx => by simp only [List.mem_singleton] at hx; subst hx; simp) hi) ?_
              refine d_take 4 rfl (by kernel_rfl) (by kernel_rfl) (by kernel_rfl) (fun _ _ _ h => h) rfl (.inl rfl) (x_strcat rfl rfl (cat1 (hB.p _ (List.mem_of_getElem? hx)).1)) (fun w hi => J.of_le (Ro.le.refl _) (fun x hx => by simp only [List.mem_singleton] at hx; subst hx; simp) hi) ?_
              refine d_one 7 rfl (by kernel_rfl) (.inl rfl) (e_call rfl fn_56 rfl rfl (Print_c (p[k]).val (hB.p _ (List.mem_of_getElem? hx)).2 er _ _ hG) fun v54 ro54 L54 hle54 hp54 => ?_)
              obtain ⟨rfl, rfl, rfl⟩ := hp54
              refine d_next (fun w hi => J.of_le (Ro.le.refl _) (fun x hx => by simp only [List.mem_singleton] at hx; subst hx; simp) hi) ?_
              refine d_take 8 rfl (by kernel_rfl) (by kernel_rfl) (by kernel_rfl) (fun _ _ _ h => h) rfl (.inl rfl) (x_strcat rfl rfl (cat2 (hB.p _ (List.mem_of_getElem? hx)).1 (hB.p _ (List.mem_of_getElem? hx)).2)) (fun w hi => J.of_le (Ro.le.refl _) (fun x hx => by simp only [List.mem_singleton] at hx; subst hx; simp) hi) ?_
              refine d_one 9 rfl (by kernel_rfl) (.inl rfl) (e_slice1 rfl Tryz.underlying54 ti_9 rfl rfl (by decide) (by decide) rfl rfl rfl fun b56 => ?_)
              refine d_next (fun w hi => J.of_le (Ro.le.refl _) (fun x hx => by simp only [List.mem_singleton] at hx; subst hx; simp) hi) ?_
              refine d_one 10 rfl (by kernel_rfl) (.inl rfl) (e_append1 1 rfl st_54 rfl rfl rfl hO rfl rfl (by omega) (by omega) (fun _ => rfl) fun A57 cap57 R57 hO57 => ?_)
              refine d_next (fun w hi => J.of_le (Ro.le.refl _) (fun x hx => by simp only [List.mem_singleton] at hx; subst hx; simp) hi) ?_
              refine d_take 11 rfl (by kernel_rfl) (by kernel_rfl) (by kernel_rfl) (fun _ _ _ h => h) rfl (.inl rfl) (x_assign rfl) (fun w hi => J.of_le (Ro.le.refl _) (fun x hx => by simp only [List.mem_singleton] at hx; subst hx; simp) hi) ?_
              refine d_end (by kernel_rfl) ?_
              refine n_in ?_
              refine n_then ?_
              refine region ?_
              refine op (y (x_add rfl rfl _ (wr (by omega) (by omega))) rfl ?_)
              refine op (y (x_move rfl) rfl ?_)
              refine nil ?_
              refine drop0 ?_
              exact round (p.length - (k + 1)) [(1, .pointer (some ⟨b1, 0, none⟩)), (3, .slice A57 ((k + 1) + 1) cap57), (41, .slice _ p.length pc), (42, .int .i64 (p.length : Nat)), (43, .int .i64 ((k + 1) : Nat))] (by omega) ⟨rfl, rfl, rfl, rfl, rfl, trivial⟩ ⟨k + 1, A57, cap57, R57, rfl, rfl, rfl, rfl, by omega, by rw [take_snoc' hx, List.map_append]; exact hO57.snoc (enc := encW) (l := wordT kd :: (p.take k).map pairT) (x := pairT p[k])⟩
            · try simp only [decide_eq_true_eq, decide_eq_false_iff_not, beq_iff_eq, bne_iff_ne, ne_eq, beq_eq_false_iff_ne, bne_eq_false_iff_eq, Bool.not_eq_true', Bool.not_eq_false', Bool.not_eq_true, Bool.not_eq_false, Decidable.not_not, Int.not_lt, Int.not_le] at h14
              refine exit ?_
              refine e_then ?_
              refine e_then ?_
              refine e_in ?_
              refine n_in ?_
              obtain rfl : k = p.length := by omega
              rw [List.take_length] at hO
              have hrw : restW ⟨kd, nm, q, p⟩ = p.map pairT := by unfold restW; rw [if_neg (by show ¬ (kd = 1 ∨ kd = 2); grind), if_neg (by show ¬ kd = 3; grind), if_pos (by show kd = 4; grind)]
              refine said 3 (.slice A3 (wordT kd :: restW ⟨kd, nm, q, p⟩).length c3) rfl (by rw [hrw]; simp) ?_
              exact mid [(3, .slice A3 (wordT kd :: restW ⟨kd, nm, q, p⟩).length c3)] ⟨rfl, trivial⟩ ⟨A3, c3, R3, rfl, rfl, rfl, by rw [hrw]; simpa using hO⟩
          · try simp only [decide_eq_true_eq, decide_eq_false_iff_not, beq_iff_eq, bne_iff_ne, ne_eq, beq_eq_false_iff_ne, bne_eq_false_iff_eq, Bool.not_eq_true', Bool.not_eq_false', Bool.not_eq_true, Bool.not_eq_false, Decidable.not_not, Int.not_lt, Int.not_le] at h12
            refine skip ?_
            refine n_in ?_
            have hrw : restW ⟨kd, nm, q, p⟩ = [] := by unfold restW; rw [if_neg (by show ¬ (kd = 1 ∨ kd = 2); grind), if_neg (by show ¬ kd = 3; grind), if_neg (by show ¬ kd = 4; grind)]
            refine said 3 (.slice (some ⟨b11, 0, none⟩) (wordT kd :: restW ⟨kd, nm, q, p⟩).length 1) rfl (by rw [hrw]; simp) ?_
            exact mid [(3, .slice ((some ⟨b11, 0, none⟩)) (wordT kd :: restW ⟨kd, nm, q, p⟩).length 1)] ⟨rfl, trivial⟩ ⟨(some ⟨b11, 0, none⟩), 1, _, rfl, rfl, rfl, by rw [hrw]; exact hO1⟩
    · try simp only [decide_eq_true_eq, decide_eq_false_iff_not, beq_iff_eq, bne_iff_ne, ne_eq, beq_eq_false_iff_ne, bne_eq_false_iff_eq, Bool.not_eq_true', Bool.not_eq_false', Bool.not_eq_true, Bool.not_eq_false, Decidable.not_not, Int.not_lt, Int.not_le] at h3
      refine region ?_
      refine op (y (x_eql rfl rfl) rfl ?_)
      refine op (y (x_assign rfl) rfl ?_)
      refine nil ?_
      refine n_then ?_
      refine cond rfl (fun h4 => ?_) (fun h4 => ?_)
      · try simp only [decide_eq_true_eq, decide_eq_false_iff_not, beq_iff_eq, bne_iff_ne, ne_eq, beq_eq_false_iff_ne, bne_eq_false_iff_eq, Bool.not_eq_true', Bool.not_eq_false', Bool.not_eq_true, Bool.not_eq_false, Decidable.not_not, Int.not_lt, Int.not_le] at h4
        refine region ?_
        refine op (y (x_move rfl) rfl ?_)
        refine op (y (x_fieldAddr fo_29_1 rfl) rfl ?_)
        refine op (y (x_load1 ag_3 rfl (by first | assumption | exact Cell.own 0 rfl rfl | exact Cell.own 1 rfl rfl | exact Cell.own 2 rfl rfl | exact Cell.own 3 rfl rfl | exact Cell.own 4 rfl rfl | exact Cell.own 5 rfl rfl | exact Cell.own 6 rfl rfl | exact Cell.own 7 rfl rfl | exact Cell.own 8 rfl rfl | exact Cell.own 9 rfl rfl | exact Cell.ofRo (by assumption))) rfl ?_)
        refine op (e_call rfl fn_56 rfl rfl (Print_c nm hB.num er _ _ hG) fun v20 ro20 L20 hle20 hp20 => ?_)
        obtain ⟨rfl, rfl, rfl⟩ := hp20
        refine op (e_slice1 rfl Tryz.underlying54 ti_9 rfl rfl (by decide) (by decide) rfl rfl rfl fun b21 => ?_)
        refine op (e_append1 0 rfl st_54 rfl rfl rfl hO1 rfl rfl (by omega) (by omega) (fun _ => rfl) fun A22 cap22 R22 hO22 => ?_)
        refine op (y (x_assign rfl) rfl ?_)
        refine nil ?_
        refine n_in ?_
        have hrw : restW ⟨kd, nm, q, p⟩ = [numT nm] := if_pos (by show kd = 1 ∨ kd = 2; grind)
        refine said 3 (.slice A22 (wordT kd :: restW ⟨kd, nm, q, p⟩).length cap22) rfl (by rw [hrw]; simp) ?_
        exact mid [(3, .slice A22 (wordT kd :: restW ⟨kd, nm, q, p⟩).length cap22)] ⟨rfl, trivial⟩ ⟨A22, cap22, R22, rfl, rfl, rfl, by rw [hrw]; exact hO22⟩
      · try simp only [decide_eq_true_eq, decide_eq_false_iff_not, beq_iff_eq, bne_iff_ne, ne_eq, beq_eq_false_iff_ne, bne_eq_false_iff_eq, Bool.not_eq_true', Bool.not_eq_false', Bool.not_eq_true, Bool.not_eq_false, Decidable.not_not, Int.not_lt, Int.not_le] at h4
        refine seq ?_
        refine region ?_
        refine op (y (x_eql rfl rfl) rfl ?_)
        refine op (y (x_assign rfl) rfl ?_)
        refine nil ?_
        refine n_then ?_
        refine cond rfl (fun h6 => ?_) (fun h6 => ?_)
        · try simp only [decide_eq_true_eq, decide_eq_false_iff_not, beq_iff_eq, bne_iff_ne, ne_eq, beq_eq_false_iff_ne, bne_eq_false_iff_eq, Bool.not_eq_true', Bool.not_eq_false', Bool.not_eq_true, Bool.not_eq_false, Decidable.not_not, Int.not_lt, Int.not_le] at h6
          refine seq ?_
          refine region ?_
          refine op (y (x_fieldAddr fo_29_2 rfl) rfl ?_)
          refine op (y (x_load1 ag_26 rfl (by first | assumption | exact Cell.own 0 rfl rfl | exact Cell.own 1 rfl rfl | exact Cell.own 2 rfl rfl | exact Cell.own 3 rfl rfl | exact Cell.own 4 rfl rfl | exact Cell.own 5 rfl rfl | exact Cell.own 6 rfl rfl | exact Cell.own 7 rfl rfl | exact Cell.own 8 rfl rfl | exact Cell.own 9 rfl rfl | exact Cell.ofRo (by assumption))) rfl ?_)
          refine op (y (x_lenSl sz_26 rfl) rfl ?_)
          refine op (y (x_move rfl) rfl ?_)
          refine nil ?_
          refine n_then ?_
          refine block ?_
          refine loop (fun m F ro' L' => ∃ (k : Nat) (A3 : Option Addr) (c3 : Nat) (R3 : List Blk), (m = q.length - k) ∧ (F = [(1, .pointer (some ⟨b1, 0, none⟩)), (3, .slice A3 (k + 1) c3), (26, .slice qA q.length qc), (27, .int .i64 (q.length : Nat)), (28, .int .i64 (k : Nat))]) ∧ (ro = ro') ∧ (L' = R3 :: [(b1, Obj.cells (encSn ⟨kd, nm, qA, qc, q, pA, pc, p⟩).toArray 29 (0, 0))] :: L) ∧ (k ≤ q.length) ∧ (OwnS 9 1 A3 (k + 1) c3 ((wordT kd :: (q.take k).map numT).flatMap encW) R3)) (q.length - 0) [(1, .pointer (some ⟨b1, 0, none⟩)), (3, .slice _ (0 + 1) 1), (26, .slice qA q.length qc), (27, .int .i64 (q.length : Nat)), (28, .int .i64 (0 : Nat))] ⟨rfl, rfl, rfl, rfl, rfl, trivial⟩ ⟨0, _, 1, _, rfl, rfl, rfl, rfl, by omega, hO1⟩ ?_
          rintro m F ro' L' ⟨k, A3, c3, R3, rfl, rfl, rfl, rfl, hk, hO⟩
          refine seq ?_
          refine region ?_
          refine op (y (x_lss rfl rfl) rfl ?_)
          refine nil ?_
          refine n_then ?_
          refine seq ?_
          refine cond rfl (fun h8 => ?_) (fun h8 => ?_)
          · try simp only [decide_eq_true_eq, decide_eq_false_iff_not, beq_iff_eq, bne_iff_ne, ne_eq, beq_eq_false_iff_ne, bne_eq_false_iff_eq, Bool.not_eq_true', Bool.not_eq_false', Bool.not_eq_true, Bool.not_eq_false, Decidable.not_not, Int.not_lt, Int.not_le] at h8
            refine skip ?_
            refine n_then ?_
            refine seq ?_
            refine block ?_
            refine seq ?_
            have hsq : Sl ro 1 encInt qA qc q := hs.q
            obtain ⟨bbx, offx, rfl, hcx⟩ := hsq.at_ (i := k) (by omega)
            have hx := List.getElem?_eq_getElem (show k < q.length from by omega)
            have cx0 := hcx k _ hx 0 _ rfl
            refine region ?_
            refine op (y (x_indexNat sz_26 rfl rfl (by omega)) rfl ?_)
            refine op (y (x_load1 ag_3 rfl (by first | assumption | exact Cell.own 0 rfl rfl | exact Cell.own 1 rfl rfl | exact Cell.own 2 rfl rfl | exact Cell.own 3 rfl rfl | exact Cell.own 4 rfl rfl | exact Cell.own 5 rfl rfl | exact Cell.own 6 rfl rfl | exact Cell.own 7 rfl rfl | exact Cell.own 8 rfl rfl | exact Cell.own 9 rfl rfl | exact Cell.ofRo (by assumption))) rfl ?_)
            refine op (y (x_assign rfl) rfl ?_)
            refine nil ?_
            refine n_then ?_
            refine region ?_
            refine op (y (x_move rfl) rfl ?_)
            refine op (y (x_move rfl) rfl ?_)
            refine op (e_call rfl fn_56 rfl rfl (Print_c (q[k]) (hB.q _ (List.mem_of_getElem? hx)) er _ _ hG) fun v34 ro34 L34 hle34 hp34 => ?_)
            obtain ⟨rfl, rfl, rfl⟩ := hp34
            refine op (e_slice1 rfl Tryz.underlying54 ti_9 rfl rfl (by decide) (by decide) rfl rfl rfl fun b35 => ?_)
            refine op (e_append1 0 rfl st_54 rfl rfl rfl hO rfl rfl (by omega) (by omega) (fun _ => rfl) fun A36 cap36 R36 hO36 => ?_)
            refine op (y (x_assign rfl) rfl ?_)
            refine nil ?_
            refine n_in ?_
            refine n_then ?_
            refine region ?_
            refine op (y (x_add rfl rfl _ (wr (by omega) (by omega))) rfl ?_)
            refine op (y (x_move rfl) rfl ?_)
            refine nil ?_
            exact round (q.length - (k + 1)) [(1, .pointer (some ⟨b1, 0, none⟩)), (3, .slice A36 ((k + 1) + 1) cap36), (26, .slice _ q.length qc), (27, .int .i64 (q.length : Nat)), (28, .int .i64 ((k + 1) : Nat))] (by omega) ⟨rfl, rfl, rfl, rfl, rfl, trivial⟩ ⟨k + 1, A36, cap36, R36, rfl, rfl, rfl, rfl, by omega, by rw [take_snoc' hx, List.map_append]; exact hO36.snoc (enc := encW) (l := wordT kd :: (q.take k).map numT) (x := numT q[k])⟩
          · try simp only [decide_eq_true_eq, decide_eq_false_iff_not, beq_iff_eq, bne_iff_ne, ne_eq, beq_eq_false_iff_ne, bne_eq_false_iff_eq, Bool.not_eq_true', Bool.not_eq_false', Bool.not_eq_true, Bool.not_eq_false, Decidable.not_not, Int.not_lt, Int.not_le] at h8
            refine exit ?_
            refine e_then ?_
            refine e_then ?_
            refine e_in ?_
            refine n_in ?_
            obtain rfl : k = q.length := by omega
            rw [List.take_length] at hO
            have hrw : restW ⟨kd, nm, q, p⟩ = q.map numT := by unfold restW; rw [if_neg (by show ¬ (kd = 1 ∨ kd = 2); grind), if_pos (by show kd = 3; grind)]
            refine said 3 (.slice A3 (wordT kd :: restW ⟨kd, nm, q, p⟩).length c3) rfl (by rw [hrw]; simp) ?_
            exact mid [(3, .slice A3 (wordT kd :: restW ⟨kd, nm, q, p⟩).length c3)] ⟨rfl, trivial⟩ ⟨A3, c3, R3, rfl, rfl, rfl, by rw [hrw]; simpa using hO⟩
        · try simp only [decide_eq_true_eq, decide_eq_false_iff_not, beq_iff_eq, bne_iff_ne, ne_eq, beq_eq_false_iff_ne, bne_eq_false_iff_eq, Bool.not_eq_true', Bool.not_eq_false', Bool.not_eq_true, Bool.not_eq_false, Decidable.not_not, Int.not_lt, Int.not_le] at h6
          refine seq ?_
          refine region ?_
          refine op (y (x_eql rfl rfl) rfl ?_)
          refine op (y (x_assign rfl) rfl ?_)
          refine nil ?_
          refine n_then ?_
          refine cond rfl (fun h12 => ?_) (fun h12 => ?_)
          · try simp only [decide_eq_true_eq, decide_eq_false_iff_not, beq_iff_eq, bne_iff_ne, ne_eq, beq_eq_false_iff_ne, bne_eq_false_iff_eq, Bool.not_eq_true', Bool.not_eq_false', Bool.not_eq_true, Bool.not_eq_false, Decidable.not_not, Int.not_lt, Int.not_le] at h12
            refine seq ?_
            refine region ?_
            refine op (y (x_fieldAddr fo_29_3 rfl) rfl ?_)
            refine op (y (x_load1 ag_27 rfl (by first | assumption | exact Cell.own 0 rfl rfl | exact Cell.own 1 rfl rfl | exact Cell.own 2 rfl rfl | exact Cell.own 3 rfl rfl | exact Cell.own 4 rfl rfl | exact Cell.own 5 rfl rfl | exact Cell.own 6 rfl rfl | exact Cell.own 7 rfl rfl | exact Cell.own 8 rfl rfl | exact Cell.own 9 rfl rfl | exact Cell.ofRo (by assumption))) rfl ?_)
            refine op (y (x_lenSl sz_27 rfl) rfl ?_)
            refine op (y (x_move rfl) rfl ?_)
            refine nil ?_
            refine n_then ?_
            refine block ?_
            refine loop (fun m F ro' L' => ∃ (k : Nat) (A3 : Option Addr) (c3 : Nat) (R3 : List Blk), (m = p.length - k) ∧ (F = [(1, .pointer (some ⟨b1, 0, none⟩)), (3, .slice A3 (k + 1) c3), (41, .slice pA p.length pc), (42, .int .i64 (p.length : Nat)), (43, .int .i64 (k : Nat))]) ∧ (ro = ro') ∧ (L' = R3 :: [(b1, Obj.cells (encSn ⟨kd, nm, qA, qc, q, pA, pc, p⟩).toArray 29 (0, 0))] :: L) ∧ (k ≤ p.length) ∧ (OwnS 9 1 A3 (k + 1) c3 ((wordT kd :: (p.take k).map pairT).flatMap encW) R3)) (p.length - 0) [(1, .pointer (some ⟨b1, 0, none⟩)), (3, .slice _ (0 + 1) 1), (41, .slice pA p.length pc), (42, .int .i64 (p.length : Nat)), (43, .int .i64 (0 : Nat))] ⟨rfl, rfl, rfl, rfl, rfl, trivial⟩ ⟨0, _, 1, _, rfl, rfl, rfl, rfl, by omega, hO1⟩ ?_
            rintro m F ro' L' ⟨k, A3, c3, R3, rfl, rfl, rfl, rfl, hk, hO⟩
            refine seq ?_
            refine region ?_
            refine op (y (x_lss rfl rfl) rfl ?_)
            refine nil ?_
            refine n_then ?_
            refine seq ?_
            refine cond rfl (fun h14 => ?_) (fun h14 => ?_)
            · try simp only [decide_eq_true_eq, decide_eq_false_iff_not, beq_iff_eq, bne_iff_ne, ne_eq, beq_eq_false_iff_ne, bne_eq_false_iff_eq, Bool.not_eq_true', Bool.not_eq_false', Bool.not_eq_true, Bool.not_eq_false, Decidable.not_not, Int.not_lt, Int.not_le] at h14
              refine skip ?_
              refine n_then ?_
              refine seq ?_
              refine block ?_
              refine seq ?_
              have hsp : Sl ro 2 encPr pA pc p := hs.p
              obtain ⟨bbx, offx, rfl, hcx⟩ := hsp.at_ (i := k) (by omega)
              have hx := List.getElem?_eq_getElem (show k < p.length from by omega)
              refine region ?_
              refine op (y (x_indexNat sz_27 rfl rfl (by omega)) rfl ?_)
              refine op (y (x_loadN ag_110 rfl rfl (CellsAt.ofRo (fun j v hv => hcx k _ hx j v hv))) rfl ?_)
              refine op (e_alloc rfl zc_110 rfl fun b7 => ?_)
              first | refine op (e_store 0 rfl rfl ts_110 rfl rfl rfl rfl rfl rfl ?_) | refine op (e_store 1 rfl rfl ts_110 rfl rfl rfl rfl rfl rfl ?_) | refine op (e_store 2 rfl rfl ts_110 rfl rfl rfl rfl rfl rfl ?_) | refine op (e_store 3 rfl rfl ts_110 rfl rfl rfl rfl rfl rfl ?_) | refine op (e_store 4 rfl rfl ts_110 rfl rfl rfl rfl rfl rfl ?_) | refine op (e_store 5 rfl rfl ts_110 rfl rfl rfl rfl rfl rfl ?_) | refine op (e_store 6 rfl rfl ts_110 rfl rfl rfl rfl rfl rfl ?_) | refine op (e_store 7 rfl rfl ts_110 rfl rfl rfl rfl rfl rfl ?_) | refine op (e_store 8 rfl rfl ts_110 rfl rfl rfl rfl rfl rfl ?_) | refine op (e_store 9 rfl rfl ts_110 rfl rfl rfl rfl rfl rfl ?_)
              refine nil ?_
              refine n_then ?_
              refine draw ([(b7, Obj.cells [Value.int .i64 (p[k]).key, Value.int .i64 (p[k]).val].toArray 110 (0, 0))]) (by kernel_rfl) ?_
              refine d_take 0 rfl (by kernel_rfl) (by kernel_rfl) (by kernel_rfl) (fun _ _ _ h => h) rfl (.inl rfl) (x_move rfl) (fun w hi => J.of_le (Ro.le.refl _) (fun x hx => by simp only [List.mem_singleton] at hx; subst hx; simp) hi) ?_
              refine d_take 1 rfl (by kernel_rfl) (by kernel_rfl) (by kernel_rfl) (fun _ _ _ h => h) rfl (.inl rfl) (x_fieldAddr fo_110_0 rfl) (fun w hi => J.of_le (Ro.le.refl _) (fun x hx => by simp only [List.mem_singleton] at hx; subst hx; simp) hi) ?_
              refine d_take 2 rfl (by kernel_rfl) (by kernel_rfl) (by kernel_rfl) (fun _ _ _ h => h) rfl (.inl rfl) (x_load1 ag_3 rfl (Cell.blk (List.mem_singleton.2 rfl) rfl)) (fun w hi => J.of_le (Ro.le.refl _) (fun x hx => by simp only [List.mem_singleton] at hx; subst hx; simp) hi) ?_
              refine d_take 5 rfl (by kernel_rfl) (by kernel_rfl) (by kernel_rfl) (fun _ _ _ h => h) rfl (.inl rfl) (x_fieldAddr fo_110_1 rfl) (fun w hi => J.of_le (Ro.le.refl _) (fun x hx => by simp only [List.mem_singleton] at hx; subst hx; simp) hi) ?_
              refine d_take 6 rfl (by kernel_rfl) (by kernel_rfl) (by kernel_rfl) (fun _ _ _ h => h) rfl (.inl rfl) (x_load1 ag_3 rfl (Cell.blk (List.mem_singleton.2 rfl) rfl)) (fun w hi => J.of_le (Ro.le.refl _) (fun x hx => by simp only [List.mem_singleton] at hx; subst hx; simp) hi) ?_
              refine d_one 3 rfl (by kernel_rfl) (.inl rfl) (e_call rfl fn_56 rfl rfl (Print_c (p[k]).key (hB.p _ (List.mem_of_getElem? hx)).1 er _ _ hG) fun v50 ro50 L50 hle50 hp50 => ?_)
              obtain ⟨rfl, rfl, rfl⟩ := hp50
              refine d_next (fun w hi => J.of_le (Ro.le.refl _) (fun x hx => by simp only [List.mem_singleton] at hx; subst hx; simp) hi) ?_
              refine d_take 4 rfl (by kernel_rfl) (by kernel_rfl) (by kernel_rfl) (fun _ _ _ h => h) rfl (.inl rfl) (x_strcat rfl rfl (cat1 (hB.p _ (List.mem_of_getElem? hx)).1)) (fun w hi => J.of_le (Ro.le.refl _) (fun x hx => by simp only [List.mem_singleton] at hx; subst hx; simp) hi) ?_
              refine d_one 7 rfl (by kernel_rfl) (.inl rfl) (e_call rfl fn_56 rfl rfl (Print_c (p[k]).val (hB.p _ (List.mem_of_getElem? hx)).2 er _ _ hG) fun v54 ro54 L54 hle54 hp54 => ?_)
              obtain ⟨rfl, rfl, rfl⟩ := hp54
              refine d_next (fun w hi => J.of_le (Ro.le.refl _) (fun x hx => by simp only [List.mem_singleton] at hx; subst hx; simp) hi) ?_
              refine d_take 8 rfl (by kernel_rfl) (by kernel_rfl) (by kernel_rfl) (fun _ _ _ h => h) rfl (.inl rfl) (x_strcat rfl rfl (cat2 (hB.p _ (List.mem_of_getElem? hx)).1 (hB.p _ (List.mem_of_getElem? hx)).2)) (fun w hi => J.of_le (Ro.le.refl _) (fun x hx => by simp only [List.mem_singleton] at hx; subst hx; simp) hi) ?_
              refine d_one 9 rfl (by kernel_rfl) (.inl rfl) (e_slice1 rfl Tryz.underlying54 ti_9 rfl rfl (by decide) (by decide) rfl rfl rfl fun b56 => ?_)
              refine d_next (fun w hi => J.of_le (Ro.le.refl _) (fun x hx => by simp only [List.mem_singleton] at hx; subst hx; simp) hi) ?_
              refine d_one 10 rfl (by kernel_rfl) (.inl rfl) (e_append1 1 rfl st_54 rfl rfl rfl hO rfl rfl (by omega) (by omega) (fun _ => rfl) fun A57 cap57 R57 hO57 => ?_)
              refine d_next (fun w hi => J.of_le (Ro.le.refl _) (fun x hx => by simp only [List.mem_singleton] at hx; subst hx; simp) hi) ?_
              refine d_take 11 rfl (by kernel_rfl) (by kernel_rfl) (by kernel_rfl) (fun _ _ _ h => h) rfl (.inl rfl) (x_assign rfl) (fun w hi => J.of_le (Ro.le.refl _) (fun x hx => by simp only [List.mem_singleton] at hx; subst hx; simp) hi) ?_
              refine d_end (by kernel_rfl) ?_
              refine n_in ?_
              refine n_then ?_
              refine region ?_
              refine op (y (x_add rfl rfl _ (wr (by omega) (by omega))) rfl ?_)
              refine op (y (x_move rfl) rfl ?_)
              refine nil ?_
              refine drop0 ?_
              exact round (p.length - (k + 1)) [(1, .pointer (some ⟨b1, 0, none⟩)), (3, .slice A57 ((k + 1) + 1) cap57), (41, .slice _ p.length pc), (42, .int .i64 (p.length : Nat)), (43, .int .i64 ((k + 1) : Nat))] (by omega) ⟨rfl, rfl, rfl, rfl, rfl, trivial⟩ ⟨k + 1, A57, cap57, R57, rfl, rfl, rfl, rfl, by omega, by rw [take_snoc' hx, List.map_append]; exact hO57.snoc (enc := encW) (l := wordT kd :: (p.take k).map pairT) (x := pairT p[k])⟩
            · try simp only [decide_eq_true_eq, decide_eq_false_iff_not, beq_iff_eq, bne_iff_ne, ne_eq, beq_eq_false_iff_ne, bne_eq_false_iff_eq, Bool.not_eq_true', Bool.not_eq_false', Bool.not_eq_true, Bool.not_eq_false, Decidable.not_not, Int.not_lt, Int.not_le] at h14
              refine exit ?_
              refine e_then ?_
              refine e_then ?_
              refine e_in ?_
              refine n_in ?_
              obtain rfl : k = p.length := by omega
              rw [List.take_length] at hO
              have hrw : restW ⟨kd, nm, q, p⟩ = p.map pairT := by unfold restW; rw [if_neg (by show ¬ (kd = 1 ∨ kd = 2); grind), if_neg (by show ¬ kd = 3; grind), if_pos (by show kd = 4; grind)]
              refine said 3 (.slice A3 (wordT kd :: restW ⟨kd, nm, q, p⟩).length c3) rfl (by rw [hrw]; simp) ?_
              exact mid [(3, .slice A3 (wordT kd :: restW ⟨kd, nm, q, p⟩).length c3)] ⟨rfl, trivial⟩ ⟨A3, c3, R3, rfl, rfl, rfl, by rw [hrw]; simpa using hO⟩
          · try simp only [decide_eq_true_eq, decide_eq_false_iff_not, beq_iff_eq, bne_iff_ne, ne_eq, beq_eq_false_iff_ne, bne_eq_false_iff_eq, Bool.not_eq_true', Bool.not_eq_false', Bool.not_eq_true, Bool.not_eq_false, Decidable.not_not, Int.not_lt, Int.not_le] at h12
            refine skip ?_
            refine n_in ?_
            have hrw : restW ⟨kd, nm, q, p⟩ = [] := by unfold restW; rw [if_neg (by show ¬ (kd = 1 ∨ kd = 2); grind), if_neg (by show ¬ kd = 3; grind), if_neg (by show ¬ kd = 4; grind)]
            refine said 3 (.slice (some ⟨b11, 0, none⟩) (wordT kd :: restW ⟨kd, nm, q, p⟩).length 1) rfl (by rw [hrw]; simp) ?_
            exact mid [(3, .slice ((some ⟨b11, 0, none⟩)) (wordT kd :: restW ⟨kd, nm, q, p⟩).length 1)] ⟨rfl, trivial⟩ ⟨(some ⟨b11, 0, none⟩), 1, _, rfl, rfl, rfl, by rw [hrw]; exact hO1⟩
  · rintro F ro' L' ⟨A3, c3, R3, rfl, rfl, rfl, hO⟩
    refine seq ?_
    refine ufreeze fun rz hz hR => ?_
    have hS := hO.sl enc_w hR
    have hle := join_le (sep := ⟨#[32]⟩) (restW_size hB)
    have hll := restW_len hB
    refine region ?_
    refine op (y (x_move rfl) rfl ?_)
    refine op (e_call rfl fn_57 rfl rfl (JoinW_c (wordT kd :: restW ⟨kd, nm, q, p⟩) A3 c3 _ _ hS (by simp only [List.length_cons]; omega) (by simp only [List.length_cons, Nat.succ_mul] at hle ⊢; simp at hle ⊢; omega)) fun v60 ro60 L60 hle60 hp60 => ?_)
    obtain ⟨rfl, rfl, rfl⟩ := hp60
    refine op (y (x_assign rfl) rfl ?_)
    refine nil ?_
    refine n_then ?_
    refine ret ?_
    exact done rfl (.tmp rfl (.nil)) (hz) (L) (subF (by (repeat (first | exact List.Sublist.refl _ | apply List.Sublist.cons_cons | apply List.Sublist.cons)); done)) (⟨rfl, rfl⟩)

theorem Key_c (s : Sn) (er : Nat → Addr) (ro : Ro) (L : List (List Blk)) (hG : Glob er ro) (hs : SnOk ro s) (hB : SvB s.v) :
    CT Tryz.prog 17 [.agg (encSn s).toArray].toArray ro L (PV (.string (keyT s.v)) L) := Key_x s.kind s.num s.qA s.qc s.q s.pA s.pc s.p er ro L hG hs hB

end Go.Proofs.YtgkngljojfkkfaaGreatDoor
