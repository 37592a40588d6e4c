/- The walks of deeds. -/
import Derived.Test.YtgkngljojfkkfaaGreatDoorW5
import Derived.Test.YtgkngljojfkkfaaGreatDoorU28
namespace Go.Proofs.YtgkngljojfkkfaaGreatDoor
open Go Go.U
set_option maxRecDepth 20000
set_option linter.unusedSimpArgs false
set_option linter.unusedVariables false

theorem CloneI_o (l : List Int) (A : Option Addr) (cap : Nat) (ro : Ro) (L : List (List Blk)) (hl : Sl ro 1 encInt A cap l) (hn : l.length ≤ 1000000) :
    CT Tryz.prog 81 [.slice A l.length cap].toArray ro L (PO 3 1 encInt l L) := by
  refine enter Tryz.func81 rfl Tryz.ntmps81 rfl ?_
  refine seq ?_
  refine region ?_
  refine op (y (x_assign rfl) rfl ?_)
  refine nil ?_
  refine n_then ?_
  refine seq ?_
  refine seq ?_
  refine region ?_
  refine op (y (x_move rfl) rfl ?_)
  refine op (y (x_slNil Tryz.underlying26 rfl) rfl ?_)
  refine nil ?_
  refine n_then ?_
  refine cond rfl (fun h1 => ?_) (fun h1 => ?_)
  · try simp only [decide_eq_true_eq, decide_eq_false_iff_not, beq_iff_eq, bne_iff_ne, ne_eq, beq_eq_false_iff_ne, bne_eq_false_iff_eq, Bool.not_eq_true', Bool.not_eq_false', Bool.not_eq_true, Bool.not_eq_false, Decidable.not_not, Int.not_lt, Int.not_le] at h1
    refine seq ?_
    obtain rfl : l = [] := by by_cases hn : l = []; exact hn; obtain ⟨b, off, rfl, _⟩ := hl.2.2.2 hn; simp at h1
    refine region ?_
    refine op (y (x_assign rfl) rfl ?_)
    refine nil ?_
    refine n_then ?_
    refine ret ?_
    refine r_then ?_
    exact done rfl (.tmp rfl (.nil)) (Ro.le.refl _) ([] :: L) (⟨_, .refl _, by simp⟩) (⟨none, 0, [], rfl, OwnS.none_ 3 1, rfl⟩)
  · try simp only [decide_eq_true_eq, decide_eq_false_iff_not, beq_iff_eq, bne_iff_ne, ne_eq, beq_eq_false_iff_ne, bne_eq_false_iff_eq, Bool.not_eq_true', Bool.not_eq_false', Bool.not_eq_true, Bool.not_eq_false, Decidable.not_not, Int.not_lt, Int.not_le] at h1
    refine skip ?_
    refine n_then ?_
    refine seq ?_
    refine region ?_
    refine op (e_slice0 rfl Tryz.underlying26 ti_3 fun b5 => ?_)
    refine op (y (x_move rfl) rfl ?_)
    refine op (e_append 0 rfl st_26 rfl rfl rfl OwnS.zero (Sl.src hl (by decide)) (int_ok _) (by omega) (by omega) (fun _ => rfl) fun A7 cap7 R7 hO7 => ?_)
    refine said 7 (.slice A7 l.length cap7) rfl (by simp) ?_
    refine op (y (x_assign rfl) rfl ?_)
    refine nil ?_
    refine n_then ?_
    refine ret ?_
    exact done rfl (.tmp rfl (.nil)) (Ro.le.refl _) (R7 :: L) (subF (by (repeat (first | exact List.Sublist.refl _ | apply List.Sublist.cons_cons | apply List.Sublist.cons)); done)) (⟨A7, cap7, R7, rfl, by simpa using hO7, rfl⟩)

theorem CloneP_o (l : List Pr) (A : Option Addr) (cap : Nat) (ro : Ro) (L : List (List Blk)) (hl : Sl ro 2 encPr A cap l) (hn : l.length ≤ 1000000) :
    CT Tryz.prog 84 [.slice A l.length cap].toArray ro L (PO 110 2 encPr l L) := by
  refine enter Tryz.func84 rfl Tryz.ntmps84 rfl ?_
  refine seq ?_
  refine region ?_
  refine op (y (x_assign rfl) rfl ?_)
  refine nil ?_
  refine n_then ?_
  refine seq ?_
  refine seq ?_
  refine region ?_
  refine op (y (x_move rfl) rfl ?_)
  refine op (y (x_slNil Tryz.underlying27 rfl) rfl ?_)
  refine nil ?_
  refine n_then ?_
  refine cond rfl (fun h1 => ?_) (fun h1 => ?_)
  · try simp only [decide_eq_true_eq, decide_eq_false_iff_not, beq_iff_eq, bne_iff_ne, ne_eq, beq_eq_false_iff_ne, bne_eq_false_iff_eq, Bool.not_eq_true', Bool.not_eq_false', Bool.not_eq_true, Bool.not_eq_false, Decidable.not_not, Int.not_lt, Int.not_le] at h1
    refine seq ?_
    obtain rfl : l = [] := by by_cases hn : l = []; exact hn; obtain ⟨b, off, rfl, _⟩ := hl.2.2.2 hn; simp at h1
    refine region ?_
    refine op (y (x_assign rfl) rfl ?_)
    refine nil ?_
    refine n_then ?_
    refine ret ?_
    refine r_then ?_
    exact done rfl (.tmp rfl (.nil)) (Ro.le.refl _) ([] :: L) (⟨_, .refl _, by simp⟩) (⟨none, 0, [], rfl, OwnS.none_ 110 2, rfl⟩)
  · try simp only [decide_eq_true_eq, decide_eq_false_iff_not, beq_iff_eq, bne_iff_ne, ne_eq, beq_eq_false_iff_ne, bne_eq_false_iff_eq, Bool.not_eq_true', Bool.not_eq_false', Bool.not_eq_true, Bool.not_eq_false, Decidable.not_not, Int.not_lt, Int.not_le] at h1
    refine skip ?_
    refine n_then ?_
    refine seq ?_
    refine region ?_
    refine op (e_slice0 rfl Tryz.underlying27 ti_110 fun b5 => ?_)
    refine op (y (x_move rfl) rfl ?_)
    refine op (e_append 0 rfl st_27 rfl rfl rfl OwnS.zero (Sl.src hl (by decide)) (ok_pr _) (by omega) (by omega) (fun _ => rfl) fun A7 cap7 R7 hO7 => ?_)
    refine said 7 (.slice A7 l.length cap7) rfl (by simp) ?_
    refine op (y (x_assign rfl) rfl ?_)
    refine nil ?_
    refine n_then ?_
    refine ret ?_
    exact done rfl (.tmp rfl (.nil)) (Ro.le.refl _) (R7 :: L) (subF (by (repeat (first | exact List.Sublist.refl _ | apply List.Sublist.cons_cons | apply List.Sublist.cons)); done)) (⟨A7, cap7, R7, rfl, by simpa using hO7, rfl⟩)

abbrev encI : Int → Value := fun i => Value.int .i64 i
theorem keI : KEnc Tryz.prog 3 encI := kenc_int Tryz.underlying3
/-- the state of an object, in plain words -/
structure Sv where
  kind : Int
  num : Int
  q : List Int
  p : List Pr
def Sn.v (s : Sn) : Sv := ⟨s.kind, s.num, s.q, s.p⟩
def findP : List Pr → Int → Option Int
  | [], _ => none
  | p :: l, k => if p.key = k then some p.val else findP l k
def putP : List Pr → Int → Int → List Pr
  | [], k, x => [⟨k, x⟩]
  | p :: l, k, x => if p.key < k then p :: putP l k x else if p.key = k then ⟨k, x⟩ :: l else ⟨k, x⟩ :: p :: l
def delP : List Pr → Int → List Pr
  | [], _ => []
  | p :: l, k => if p.key < k then p :: delP l k else if p.key = k then l else p :: l
def lookA (l : List Pr) (k : Int) : Int × Int := match findP l k with
  | some x => (3, x)
  | none => (2, 0)
/-- what an operation does: the next state, the answer, the value -/
def deedM (op key val : Int) (s : Sv) : Sv × Int × Int :=
  if op = 1 ∨ op = 4 then (s, 3, s.num) else if op = 2 then ({ s with num := val }, 1, 0) else if op = 3 then ({ s with num := s.num + val }, 1, 0)
  else if op = 5 then ({ s with q := s.q ++ [val] }, 1, 0) else if op = 6 then (match s.q with | [] => (s, 2, 0) | x :: q => ({ s with q := q }, 3, x))
  else if op = 7 then ({ s with p := putP s.p key val }, 1, 0) else if op = 8 then (s, (lookA s.p key).1, (lookA s.p key).2)
  else ({ s with p := delP s.p key }, (lookA s.p key).1, (lookA s.p key).2)
def deedF (op : Int) : FuncId := if op = 1 ∨ op = 4 then 77 else if op = 2 then 78 else if op = 3 then 79 else if op = 5 then 80 else if op = 6 then 82 else if op = 7 then 83 else if op = 8 then 87 else 89
theorem deedF_fn (op : Int) : Fun Tryz.prog (deedF op) := by
  unfold deedF
  split
  · exact fn_77
  split
  · exact fn_78
  split
  · exact fn_79
  split
  · exact fn_80
  split
  · exact fn_82
  split
  · exact fn_83
  split
  · exact fn_87
  · exact fn_89
def PDeed (op key val : Int) (s : Sn) (L : List (List Blk)) : Value → Ro → List (List Blk) → Prop := fun v ro' L' => ∃ s' : Sn, v = .tuple [.agg (encSn s').toArray, .int .i64 (deedM op key val s.v).2.1, .int .i64 (deedM op key val s.v).2.2].toArray ∧ SnOk ro' s' ∧ s'.v = (deedM op key val s.v).1 ∧ L = L'
def PDeeds (L : List (List Blk)) : Value → Ro → List (List Blk) → Prop := fun v ro' L' => ∃ (r : Nat) (es : Array MapEntry) (clk : Nat) (m : List (Int × Value)), v = .map (some r) ∧ ro'.cells r = some (.map es clk) ∧ MapE encI m es clk ∧ (∀ op : Int, 1 ≤ op → op ≤ 9 → mget m op = some (.func (.func (deedF op)) #[] #[])) ∧ L = L'

theorem deeds_c (ro : Ro) (L : List (List Blk)) : CT Tryz.prog 52 [].toArray ro L (PDeeds L) := by
  refine enter Tryz.func52 rfl Tryz.ntmps52 rfl ?_
  refine seq ?_
  refine region ?_
  refine op (y (x_assign rfl) rfl ?_)
  refine nil ?_
  refine n_then ?_
  refine seq ?_
  refine region ?_
  refine op (y (x_assign rfl) rfl ?_)
  refine nil ?_
  refine n_then ?_
  refine seq ?_
  refine region ?_
  refine op (e_makeMap rfl fun b2 => ?_)
  refine op (y (x_move rfl) rfl ?_)
  refine op (e_insert 0 Tryz.underlying106 keI rfl rfl rfl rfl MapE.empty (fun _ _ => rfl) fun es1 clk1 hE1 => ?_)
  refine op (y (x_move rfl) rfl ?_)
  refine op (e_insert 0 Tryz.underlying106 keI rfl rfl rfl rfl hE1 (fun _ _ => rfl) fun es4 clk4 hE4 => ?_)
  refine op (e_insert 0 Tryz.underlying106 keI rfl rfl rfl rfl hE4 (fun _ _ => rfl) fun es2 clk2 hE2 => ?_)
  refine op (e_insert 0 Tryz.underlying106 keI rfl rfl rfl rfl hE2 (fun _ _ => rfl) fun es3 clk3 hE3 => ?_)
  refine op (e_insert 0 Tryz.underlying106 keI rfl rfl rfl rfl hE3 (fun _ _ => rfl) fun es5 clk5 hE5 => ?_)
  refine op (e_insert 0 Tryz.underlying106 keI rfl rfl rfl rfl hE5 (fun _ _ => rfl) fun es6 clk6 hE6 => ?_)
  refine op (e_insert 0 Tryz.underlying106 keI rfl rfl rfl rfl hE6 (fun _ _ => rfl) fun es7 clk7 hE7 => ?_)
  refine op (e_insert 0 Tryz.underlying106 keI rfl rfl rfl rfl hE7 (fun _ _ => rfl) fun es8 clk8 hE8 => ?_)
  refine op (e_insert 0 Tryz.underlying106 keI rfl rfl rfl rfl hE8 (fun _ _ => rfl) fun es9 clk9 hE9 => ?_)
  refine ufreeze fun ro10 hle10 hR10 => ?_
  have hcr := hR10 _ (List.mem_singleton.2 rfl)
  refine op (y (x_move rfl) rfl ?_)
  refine op (y (x_assign rfl) rfl ?_)
  refine nil ?_
  refine n_then ?_
  refine ret ?_
  exact done rfl (.tmp rfl (.nil)) (hle10) (L) (subF (by (repeat (first | exact List.Sublist.refl _ | apply List.Sublist.cons_cons | apply List.Sublist.cons)); done)) (⟨_, es9, clk9, _, rfl, hcr, hE9, fun op h1 h2 => by obtain rfl | rfl | rfl | rfl | rfl | rfl | rfl | rfl | rfl : op = 1 ∨ op = 2 ∨ op = 3 ∨ op = 4 ∨ op = 5 ∨ op = 6 ∨ op = 7 ∨ op = 8 ∨ op = 9 := (by omega); all_goals rfl, rfl⟩)

theorem Enq_c (s : Sn) (key val : Int) (ro : Ro) (L : List (List Blk)) (hs : SnOk ro s) (hn : s.q.length ≤ 999999) :
    CT Tryz.prog 80 [.agg (encSn s).toArray, .int .i64 key, .int .i64 val].toArray ro L (PDeed 5 key val s L) := by
  refine enter Tryz.func80 rfl Tryz.ntmps80 rfl ?_
  refine seq ?_
  refine region ?_
  refine op (e_box rfl rfl rfl fun b3 => ?_)
  refine op (e_alloc rfl zc_29 rfl fun b6 => ?_)
  refine op (y (x_assign rfl) rfl ?_)
  refine op (y (x_assign rfl) rfl ?_)
  refine nil ?_
  refine n_then ?_
  refine seq ?_
  refine region ?_
  refine op (y (x_fieldAddr fo_29_2 rfl) rfl ?_)
  refine op (y (x_load1 ag_26 rfl (by first | assumption | exact Cell.own 0 rfl rfl | exact Cell.own 1 rfl rfl | exact Cell.own 2 rfl rfl | exact Cell.own 3 rfl rfl | exact Cell.own 4 rfl rfl | exact Cell.own 5 rfl rfl | exact Cell.own 6 rfl rfl | exact Cell.own 7 rfl rfl | exact Cell.own 8 rfl rfl | exact Cell.own 9 rfl rfl | exact Cell.ofRo (by assumption))) rfl ?_)
  refine op (e_call rfl fn_81 rfl rfl (CloneI_o s.q s.qA s.qc _ _ hs.q (by omega)) fun v11 ro11 L11 hle11 hp11 => ?_)
  obtain ⟨A11, c11, R11, rfl, hO11, rfl⟩ := hp11
  refine op (y (x_move rfl) rfl ?_)
  refine op (e_slice1 rfl Tryz.underlying26 ti_3 rfl rfl (by decide) (by decide) rfl rfl rfl fun b13 => ?_)
  refine op (e_append1 0 rfl st_26 rfl rfl rfl hO11 rfl rfl (by omega) (by omega) (fun _ => rfl) fun A14 cap14 R14 hO14 => ?_)
  refine op (y (x_fieldAddr fo_29_2 rfl) rfl ?_)
  first | refine op (e_store 0 rfl rfl ts_26 rfl rfl rfl rfl rfl rfl ?_) | refine op (e_store 1 rfl rfl ts_26 rfl rfl rfl rfl rfl rfl ?_) | refine op (e_store 2 rfl rfl ts_26 rfl rfl rfl rfl rfl rfl ?_) | refine op (e_store 3 rfl rfl ts_26 rfl rfl rfl rfl rfl rfl ?_) | refine op (e_store 4 rfl rfl ts_26 rfl rfl rfl rfl rfl rfl ?_) | refine op (e_store 5 rfl rfl ts_26 rfl rfl rfl rfl rfl rfl ?_) | refine op (e_store 6 rfl rfl ts_26 rfl rfl rfl rfl rfl rfl ?_) | refine op (e_store 7 rfl rfl ts_26 rfl rfl rfl rfl rfl rfl ?_) | refine op (e_store 8 rfl rfl ts_26 rfl rfl rfl rfl rfl rfl ?_) | refine op (e_store 9 rfl rfl ts_26 rfl rfl rfl rfl rfl rfl ?_)
  refine nil ?_
  refine n_then ?_
  refine seq ?_
  refine ufreeze fun rz hz hR => ?_
  have hO14x := (hO14.snoc (enc := encInt) (x := val)).cast (m' := (s.q ++ [val]).length) (by simp) rfl
  have hS := hO14x.sl int_len hR
  have hp2 := (hs.mono (hle11.trans hz)).p
  refine region ?_
  refine op (y ((by first | exact x_loadOwn 0 _ ag_29 rfl rfl rfl rfl | exact x_loadOwn 1 _ ag_29 rfl rfl rfl rfl | exact x_loadOwn 2 _ ag_29 rfl rfl rfl rfl | exact x_loadOwn 3 _ ag_29 rfl rfl rfl rfl | exact x_loadOwn 4 _ ag_29 rfl rfl rfl rfl | exact x_loadOwn 5 _ ag_29 rfl rfl rfl rfl | exact x_loadOwn 6 _ ag_29 rfl rfl rfl rfl | exact x_loadOwn 7 _ ag_29 rfl rfl rfl rfl | exact x_loadOwn 8 _ ag_29 rfl rfl rfl rfl | exact x_loadOwn 9 _ ag_29 rfl rfl rfl rfl | exact x_loadOwn 10 _ ag_29 rfl rfl rfl rfl | exact x_loadOwn 11 _ ag_29 rfl rfl rfl rfl)) rfl ?_)
  first | refine op (e_store 0 rfl rfl ts_29 rfl rfl rfl rfl rfl rfl ?_) | refine op (e_store 1 rfl rfl ts_29 rfl rfl rfl rfl rfl rfl ?_) | refine op (e_store 2 rfl rfl ts_29 rfl rfl rfl rfl rfl rfl ?_) | refine op (e_store 3 rfl rfl ts_29 rfl rfl rfl rfl rfl rfl ?_) | refine op (e_store 4 rfl rfl ts_29 rfl rfl rfl rfl rfl rfl ?_) | refine op (e_store 5 rfl rfl ts_29 rfl rfl rfl rfl rfl rfl ?_) | refine op (e_store 6 rfl rfl ts_29 rfl rfl rfl rfl rfl rfl ?_) | refine op (e_store 7 rfl rfl ts_29 rfl rfl rfl rfl rfl rfl ?_) | refine op (e_store 8 rfl rfl ts_29 rfl rfl rfl rfl rfl rfl ?_) | refine op (e_store 9 rfl rfl ts_29 rfl rfl rfl rfl rfl rfl ?_)
  refine op (y (x_assign rfl) rfl ?_)
  refine op (y (x_assign rfl) rfl ?_)
  refine nil ?_
  refine n_then ?_
  refine ret ?_
  exact done rfl (Res.cellN ag_29 rfl rfl (CellsAt.own 0 0 4 _ rfl rfl) (.tmp rfl (.tmp rfl (.nil)))) (hle11.trans hz) (L) (subF (by (repeat (first | exact List.Sublist.refl _ | apply List.Sublist.cons_cons | apply List.Sublist.cons)); done)) (⟨⟨s.kind, s.num, A14, cap14, s.q ++ [val], s.pA, s.pc, s.p⟩, by simp [tupled, encSn, deedM], ⟨hS, hp2⟩, rfl, rfl⟩)

end Go.Proofs.YtgkngljojfkkfaaGreatDoor
