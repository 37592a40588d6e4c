/- The walks of stores as they begin. -/
import Derived.Test.YtgkngljojfkkfaaGreatDoorW4
namespace Go.Proofs.YtgkngljojfkkfaaGreatDoor
open Go Go.U
set_option maxRecDepth 20000
set_option linter.unusedSimpArgs false
set_option linter.unusedVariables false

def HVO (os : List Ob) : Prop := os.length ≤ 8 ∧ ∀ o ∈ os, ObOk o
instance instHVO (os : List Ob) : Decidable (HVO os) := by unfold HVO; exact inferInstance
def bareSn (o : Ob) : Sn := ⟨o.kind, o.init, none, 0, [], none, 0, []⟩
def PStore (os : List Ob) (L : List (List Blk)) : Value → Ro → List (List Blk) → Prop := fun v ro' L' => ∃ (A : Option Addr) (cap : Nat) (l : List Sn) (ev : Value), v = .tuple [.agg [.slice A l.length cap].toArray, ev].toArray ∧ IfV ev ∧ L = L' ∧ SSt ro' A cap l ∧
  ((isNilI ev = true ∧ HVO os ∧ l = os.map bareSn) ∨ (isNilI ev = false ∧ ¬ HVO os ∧ l = []))
theorem sst_nil {ro : Ro} : SSt ro none 0 [] := ⟨sl_nil, fun s hs => by cases hs⟩

theorem SAt_c (l : List Sn) (A : Option Addr) (cap : Nat) (i : Int) (ro : Ro) (L : List (List Blk)) (hl : Sl ro 4 encSn A cap l) :
    CT Tryz.prog 41 [.agg [.slice A l.length cap].toArray, .int .i64 i].toArray ro L (PQ (.tuple [.agg (encSn ((atL l i).getD zeroSn)).toArray, .bool (atL l i).isSome].toArray) ro L) := by
  refine enter Tryz.func41 rfl Tryz.ntmps41 rfl ?_
  refine seq ?_
  refine region ?_
  refine op (e_box rfl rfl rfl fun b2 => ?_)
  refine op (e_alloc rfl zc_29 rfl fun b4 => ?_)
  refine op (y (x_assign rfl) rfl ?_)
  refine nil ?_
  refine n_then ?_
  refine seq ?_
  refine region ?_
  refine op (y (x_fieldAddr fo_66_0 rfl) rfl ?_)
  refine op (y ((by first | exact x_loadOwn 0 _ ag_64 rfl rfl rfl rfl | exact x_loadOwn 1 _ ag_64 rfl rfl rfl rfl | exact x_loadOwn 2 _ ag_64 rfl rfl rfl rfl | exact x_loadOwn 3 _ ag_64 rfl rfl rfl rfl | exact x_loadOwn 4 _ ag_64 rfl rfl rfl rfl | exact x_loadOwn 5 _ ag_64 rfl rfl rfl rfl | exact x_loadOwn 6 _ ag_64 rfl rfl rfl rfl | exact x_loadOwn 7 _ ag_64 rfl rfl rfl rfl | exact x_loadOwn 8 _ ag_64 rfl rfl rfl rfl | exact x_loadOwn 9 _ ag_64 rfl rfl rfl rfl | exact x_loadOwn 10 _ ag_64 rfl rfl rfl rfl | exact x_loadOwn 11 _ ag_64 rfl rfl rfl rfl)) rfl ?_)
  refine op (y (x_move rfl) rfl ?_)
  refine op (e_call rfl fn_72 rfl rfl (AtS_c l A cap i _ _ hl) fun v9 ro9 L9 hle9 hp9 => ?_)
  obtain ⟨rfl, rfl, rfl⟩ := hp9
  refine op (y (x_extract rfl rfl) rfl ?_)
  refine op (y (x_extract rfl rfl) rfl ?_)
  first | refine op (e_store 0 rfl rfl ts_29 rfl rfl rfl rfl rfl rfl ?_) | refine op (e_store 1 rfl rfl ts_29 rfl rfl rfl rfl rfl rfl ?_) | refine op (e_store 2 rfl rfl ts_29 rfl rfl rfl rfl rfl rfl ?_) | refine op (e_store 3 rfl rfl ts_29 rfl rfl rfl rfl rfl rfl ?_) | refine op (e_store 4 rfl rfl ts_29 rfl rfl rfl rfl rfl rfl ?_) | refine op (e_store 5 rfl rfl ts_29 rfl rfl rfl rfl rfl rfl ?_) | refine op (e_store 6 rfl rfl ts_29 rfl rfl rfl rfl rfl rfl ?_) | refine op (e_store 7 rfl rfl ts_29 rfl rfl rfl rfl rfl rfl ?_) | refine op (e_store 8 rfl rfl ts_29 rfl rfl rfl rfl rfl rfl ?_) | refine op (e_store 9 rfl rfl ts_29 rfl rfl rfl rfl rfl rfl ?_)
  refine op (y (x_assign rfl) rfl ?_)
  refine nil ?_
  refine n_then ?_
  refine ret ?_
  exact done rfl (Res.cellN ag_29 rfl rfl (CellsAt.own 0 0 4 _ rfl rfl) (.tmp rfl (.nil))) (Ro.le.refl _) (L) (subF (by (repeat (first | exact List.Sublist.refl _ | apply List.Sublist.cons_cons | apply List.Sublist.cons)); done)) (⟨rfl, rfl, rfl⟩)

theorem SLen_c (l : List Sn) (A : Option Addr) (cap : Nat) (ro : Ro) (L : List (List Blk)) (hl : Sl ro 4 encSn A cap l) :
    CT Tryz.prog 38 [.agg [.slice A l.length cap].toArray].toArray ro L (PQ (.int .i64 (l.length : Nat)) ro L) := by
  refine enter Tryz.func38 rfl Tryz.ntmps38 rfl ?_
  refine seq ?_
  refine region ?_
  refine op (e_box rfl rfl rfl fun b1 => ?_)
  refine op (y (x_assign rfl) rfl ?_)
  refine nil ?_
  refine n_then ?_
  refine seq ?_
  refine region ?_
  refine op (y (x_fieldAddr fo_66_0 rfl) rfl ?_)
  refine op (y ((by first | exact x_loadOwn 0 _ ag_64 rfl rfl rfl rfl | exact x_loadOwn 1 _ ag_64 rfl rfl rfl rfl | exact x_loadOwn 2 _ ag_64 rfl rfl rfl rfl | exact x_loadOwn 3 _ ag_64 rfl rfl rfl rfl | exact x_loadOwn 4 _ ag_64 rfl rfl rfl rfl | exact x_loadOwn 5 _ ag_64 rfl rfl rfl rfl | exact x_loadOwn 6 _ ag_64 rfl rfl rfl rfl | exact x_loadOwn 7 _ ag_64 rfl rfl rfl rfl | exact x_loadOwn 8 _ ag_64 rfl rfl rfl rfl | exact x_loadOwn 9 _ ag_64 rfl rfl rfl rfl | exact x_loadOwn 10 _ ag_64 rfl rfl rfl rfl | exact x_loadOwn 11 _ ag_64 rfl rfl rfl rfl)) rfl ?_)
  refine op (e_call rfl fn_70 rfl rfl (LenS_c l A cap _ _ hl) fun v5 ro5 L5 hle5 hp5 => ?_)
  obtain ⟨rfl, rfl, rfl⟩ := hp5
  refine op (y (x_assign rfl) rfl ?_)
  refine nil ?_
  refine n_then ?_
  refine ret ?_
  exact done rfl (.tmp rfl (.nil)) (Ro.le.refl _) (L) (subF (by (repeat (first | exact List.Sublist.refl _ | apply List.Sublist.cons_cons | apply List.Sublist.cons)); done)) (⟨rfl, rfl, rfl⟩)

theorem atE_c (pos : Int) (t u) (ro : Ro) (L : List (List Blk)) :
    CT Tryz.prog 99 [.int .i64 pos, .iface t u].toArray ro L (PErr L) := by
  refine enter Tryz.func99 rfl Tryz.ntmps99 rfl ?_
  refine seq ?_
  refine region ?_
  refine op (y (x_assign rfl) rfl ?_)
  refine nil ?_
  refine n_then ?_
  refine seq ?_
  refine region ?_
  refine op (y (x_move rfl) rfl ?_)
  refine op (y (x_move rfl) rfl ?_)
  refine op (y (x_build bu_182 rfl rfl) rfl ?_)
  refine op (e_box rfl rfl rfl fun b8 => ?_)
  refine op (y (x_mkI Tryz.underlying180 rfl) rfl ?_)
  refine op (y (x_assign rfl) rfl ?_)
  refine nil ?_
  refine n_then ?_
  refine ret ?_
  exact done rfl (.tmp rfl (.nil)) (Ro.le.refl _) (L) (subF (by (repeat (first | exact List.Sublist.refl _ | apply List.Sublist.cons_cons | apply List.Sublist.cons)); done)) (⟨⟨_, _, rfl⟩, rfl⟩)

theorem HistValid_c (os : List Ob) (A : Option Addr) (cA : Nat) (ro : Ro) (L : List (List Blk)) (hh : Sl ro 2 encOb A cA os) (hI : ∀ o ∈ os, I64 o.kind) (er : Nat → Addr) (hG : Glob er ro) :
    CT Tryz.prog 64 [.agg [Value.slice A os.length cA, Value.slice none 0 0].toArray].toArray ro L (PE (HVO os) L) := by
  have hcap := cap_ge hh
  refine enter Tryz.func64 rfl Tryz.ntmps64 rfl ?_
  refine seq ?_
  refine region ?_
  refine op (e_box rfl rfl rfl fun b1 => ?_)
  refine op (y (x_assign rfl) rfl ?_)
  refine nil ?_
  refine n_then ?_
  refine seq ?_
  refine seq ?_
  refine region ?_
  refine op (y (x_fieldAddr fo_125_0 rfl) rfl ?_)
  refine op (y (x_load1 ag_60 rfl (by first | assumption | exact Cell.own 0 rfl rfl | exact Cell.own 1 rfl rfl | exact Cell.own 2 rfl rfl | exact Cell.own 3 rfl rfl | exact Cell.own 4 rfl rfl | exact Cell.own 5 rfl rfl | exact Cell.own 6 rfl rfl | exact Cell.own 7 rfl rfl | exact Cell.own 8 rfl rfl | exact Cell.own 9 rfl rfl | exact Cell.ofRo (by assumption))) rfl ?_)
  refine op (y (x_lenSl sz_60 rfl) rfl ?_)
  refine op (y (x_gtr rfl rfl) rfl ?_)
  refine op (y (x_move rfl) rfl ?_)
  refine bsplit 13 rfl (fun g13 => ?_) (fun g13 => ?_)
  · try simp only [decide_eq_true_eq, decide_eq_false_iff_not, beq_iff_eq, bne_iff_ne, ne_eq, beq_eq_false_iff_ne, bne_eq_false_iff_eq, Bool.not_eq_true', Bool.not_eq_false', Bool.not_eq_true, Bool.not_eq_false, Decidable.not_not, Int.not_lt, Int.not_le] at g13
    refine opN rfl rfl rfl rfl ?_
    refine opN rfl rfl rfl rfl ?_
    refine opN rfl rfl rfl rfl ?_
    refine opN rfl rfl rfl rfl ?_
    refine op (y (x_pickT rfl rfl) rfl ?_)
    refine nil ?_
    refine n_then ?_
    refine condT rfl ?_
    refine seq ?_
    have hGc := hG.err 5 (by omega) (by omega) (by omega)
    refine region ?_
    refine op (y (x_load1 ag_31 rfl (Cell.ofRo hGc)) rfl ?_)
    refine op (y (x_assign rfl) rfl ?_)
    refine nil ?_
    refine n_then ?_
    refine ret ?_
    refine r_then ?_
    exact done rfl (.tmp rfl (.nil)) (Ro.le.refl _) (L) (subF (by (repeat (first | exact List.Sublist.refl _ | apply List.Sublist.cons_cons | apply List.Sublist.cons)); done)) (⟨IfV.mk _ _, ⟨fun h => (by cases h), fun h => absurd h (fun hk => by unfold HVO at hk; grind)⟩, rfl⟩)
  · try simp only [decide_eq_true_eq, decide_eq_false_iff_not, beq_iff_eq, bne_iff_ne, ne_eq, beq_eq_false_iff_ne, bne_eq_false_iff_eq, Bool.not_eq_true', Bool.not_eq_false', Bool.not_eq_true, Bool.not_eq_false, Decidable.not_not, Int.not_lt, Int.not_le] at g13
    refine opG rfl rfl (y (x_fieldAddr fo_125_1 rfl) rfl ?_)
    refine opG rfl rfl (y (x_load1 ag_123 rfl (by first | assumption | exact Cell.own 0 rfl rfl | exact Cell.own 1 rfl rfl | exact Cell.own 2 rfl rfl | exact Cell.own 3 rfl rfl | exact Cell.own 4 rfl rfl | exact Cell.own 5 rfl rfl | exact Cell.own 6 rfl rfl | exact Cell.own 7 rfl rfl | exact Cell.own 8 rfl rfl | exact Cell.own 9 rfl rfl | exact Cell.ofRo (by assumption))) rfl ?_)
    refine opG rfl rfl (y (x_lenSl sz_123 rfl) rfl ?_)
    refine opG rfl rfl (y (x_gtr rfl rfl) rfl ?_)
    refine op (y (x_pickF rfl rfl) rfl ?_)
    refine nil ?_
    refine n_then ?_
    refine cond rfl (fun h1 => ?_) (fun h1 => ?_)
    · try simp only [decide_eq_true_eq, decide_eq_false_iff_not, beq_iff_eq, bne_iff_ne, ne_eq, beq_eq_false_iff_ne, bne_eq_false_iff_eq, Bool.not_eq_true', Bool.not_eq_false', Bool.not_eq_true, Bool.not_eq_false, Decidable.not_not, Int.not_lt, Int.not_le] at h1
      refine seq ?_
      have hGc := hG.err 5 (by omega) (by omega) (by omega)
      refine region ?_
      refine op (y (x_load1 ag_31 rfl (Cell.ofRo hGc)) rfl ?_)
      refine op (y (x_assign rfl) rfl ?_)
      refine nil ?_
      refine n_then ?_
      refine ret ?_
      refine r_then ?_
      exact done rfl (.tmp rfl (.nil)) (Ro.le.refl _) (L) (subF (by (repeat (first | exact List.Sublist.refl _ | apply List.Sublist.cons_cons | apply List.Sublist.cons)); done)) (⟨IfV.mk _ _, ⟨fun h => (by cases h), fun h => absurd h (fun hk => by unfold HVO at hk; grind)⟩, rfl⟩)
    · try simp only [decide_eq_true_eq, decide_eq_false_iff_not, beq_iff_eq, bne_iff_ne, ne_eq, beq_eq_false_iff_ne, bne_eq_false_iff_eq, Bool.not_eq_true', Bool.not_eq_false', Bool.not_eq_true, Bool.not_eq_false, Decidable.not_not, Int.not_lt, Int.not_le] at h1
      refine skip ?_
      refine n_then ?_
      refine seq ?_
      refine seq ?_
      refine region ?_
      refine op (y (x_fieldAddr fo_125_0 rfl) rfl ?_)
      refine op (y (x_load1 ag_60 rfl (by first | assumption | exact Cell.own 0 rfl rfl | exact Cell.own 1 rfl rfl | exact Cell.own 2 rfl rfl | exact Cell.own 3 rfl rfl | exact Cell.own 4 rfl rfl | exact Cell.own 5 rfl rfl | exact Cell.own 6 rfl rfl | exact Cell.own 7 rfl rfl | exact Cell.own 8 rfl rfl | exact Cell.own 9 rfl rfl | exact Cell.ofRo (by assumption))) rfl ?_)
      refine op (y (x_lenSl sz_60 rfl) rfl ?_)
      refine op (y (x_move rfl) rfl ?_)
      refine nil ?_
      refine n_then ?_
      refine block ?_
      refine loop (fun m F ro' L' => ∃ (k : Nat), (m = os.length - k) ∧ (F = [(1, .pointer (some ⟨b1, 0, none⟩)), (21, .slice A os.length cA), (22, .int .i64 (os.length : Nat)), (23, .int .i64 (k : Nat))]) ∧ (L' = [(b1, Obj.cells [Value.slice A os.length cA, Value.slice none 0 0].toArray 125 (0, 0))] :: L) ∧ (k ≤ os.length) ∧ (ro.le ro') ∧ (∀ q : Nat, q < k → ∀ o, os[q]? = some o → ObOk o)) (os.length - 0) [(1, .pointer (some ⟨b1, 0, none⟩)), (21, .slice A os.length cA), (22, .int .i64 (os.length : Nat)), (23, .int .i64 (0 : Nat))] ⟨rfl, rfl, rfl, rfl, trivial⟩ ⟨0, rfl, rfl, rfl, by omega, Ro.le.refl _, by omega⟩ ?_
      rintro m F ro' L' ⟨k, rfl, rfl, rfl, hk, hro, hall⟩
      refine seq ?_
      refine region ?_
      refine op (y (x_lss rfl rfl) rfl ?_)
      refine nil ?_
      refine n_then ?_
      refine seq ?_
      refine cond rfl (fun h4 => ?_) (fun h4 => ?_)
      · try simp only [decide_eq_true_eq, decide_eq_false_iff_not, beq_iff_eq, bne_iff_ne, ne_eq, beq_eq_false_iff_ne, bne_eq_false_iff_eq, Bool.not_eq_true', Bool.not_eq_false', Bool.not_eq_true, Bool.not_eq_false, Decidable.not_not, Int.not_lt, Int.not_le] at h4
        refine skip ?_
        refine n_then ?_
        refine seq ?_
        refine block ?_
        refine seq ?_
        obtain ⟨bbx, offx, rfl, hcx⟩ := hh.at_ (i := k) (by omega)
        have hx := List.getElem?_eq_getElem (show k < os.length from by omega)
        have hm := List.mem_of_getElem? hx
        refine region ?_
        refine op (y (x_move rfl) rfl ?_)
        refine op (y (x_indexNat sz_60 rfl rfl (by omega)) rfl ?_)
        refine op (y (x_loadN ag_35 rfl rfl (CellsAt.ofRo (fun j v hv => hro.cell (hcx k _ hx j v hv)))) rfl ?_)
        refine op (e_alloc rfl zc_35 rfl fun b4 => ?_)
        refine op (y (x_assign rfl) rfl ?_)
        first | refine op (e_store 0 rfl rfl ts_35 rfl rfl rfl rfl rfl rfl ?_) | refine op (e_store 1 rfl rfl ts_35 rfl rfl rfl rfl rfl rfl ?_) | refine op (e_store 2 rfl rfl ts_35 rfl rfl rfl rfl rfl rfl ?_) | refine op (e_store 3 rfl rfl ts_35 rfl rfl rfl rfl rfl rfl ?_) | refine op (e_store 4 rfl rfl ts_35 rfl rfl rfl rfl rfl rfl ?_) | refine op (e_store 5 rfl rfl ts_35 rfl rfl rfl rfl rfl rfl ?_) | refine op (e_store 6 rfl rfl ts_35 rfl rfl rfl rfl rfl rfl ?_) | refine op (e_store 7 rfl rfl ts_35 rfl rfl rfl rfl rfl rfl ?_) | refine op (e_store 8 rfl rfl ts_35 rfl rfl rfl rfl rfl rfl ?_) | refine op (e_store 9 rfl rfl ts_35 rfl rfl rfl rfl rfl rfl ?_)
        refine nil ?_
        refine n_then ?_
        refine seq ?_
        refine region ?_
        refine op (y ((by first | exact x_loadOwn 0 _ ag_35 rfl rfl rfl rfl | exact x_loadOwn 1 _ ag_35 rfl rfl rfl rfl | exact x_loadOwn 2 _ ag_35 rfl rfl rfl rfl | exact x_loadOwn 3 _ ag_35 rfl rfl rfl rfl | exact x_loadOwn 4 _ ag_35 rfl rfl rfl rfl | exact x_loadOwn 5 _ ag_35 rfl rfl rfl rfl | exact x_loadOwn 6 _ ag_35 rfl rfl rfl rfl | exact x_loadOwn 7 _ ag_35 rfl rfl rfl rfl | exact x_loadOwn 8 _ ag_35 rfl rfl rfl rfl | exact x_loadOwn 9 _ ag_35 rfl rfl rfl rfl | exact x_loadOwn 10 _ ag_35 rfl rfl rfl rfl | exact x_loadOwn 11 _ ag_35 rfl rfl rfl rfl)) rfl ?_)
        refine op (e_call rfl fn_47 rfl rfl (ValidObject_c (os[k]) (hI _ hm) er _ _ (hG.mono hro)) fun v29 ro29 L29 hle29 hp29 => ?_)
        obtain ⟨hv29, hi29, rfl⟩ := hp29
        refine op (y (x_assign rfl) rfl ?_)
        refine nil ?_
        refine n_then ?_
        refine seq ?_
        refine region ?_
        refine op (y (x_move rfl) rfl ?_)
        refine op (y (x_ifNeNil Tryz.underlying31 rfl (by assumption)) rfl ?_)
        refine nil ?_
        refine n_then ?_
        refine cond rfl (fun h7 => ?_) (fun h7 => ?_)
        · try simp only [decide_eq_true_eq, decide_eq_false_iff_not, beq_iff_eq, bne_iff_ne, ne_eq, beq_eq_false_iff_ne, bne_eq_false_iff_eq, Bool.not_eq_true', Bool.not_eq_false', Bool.not_eq_true, Bool.not_eq_false, Decidable.not_not, Int.not_lt, Int.not_le] at h7
          refine seq ?_
          have hno : ¬ ObOk (os[k]) := fun hx => by have := hi29.2 hx; grind
          obtain ⟨tt, uu, rfl⟩ := ifv_some hv29 (by grind)
          refine region ?_
          refine op (y (x_move rfl) rfl ?_)
          refine op (y (x_move rfl) rfl ?_)
          refine op (e_call rfl fn_99 rfl rfl (atE_c _ _ _ _ _) fun v34 ro34 L34 hle34 hp34 => ?_)
          obtain ⟨⟨t3, u3, rfl⟩, rfl⟩ := hp34
          refine op (y (x_assign rfl) rfl ?_)
          refine nil ?_
          refine n_then ?_
          refine ret ?_
          refine r_in ?_
          refine r_then ?_
          refine r_then ?_
          refine r_in ?_
          refine r_then ?_
          exact done rfl (.tmp rfl (.nil)) (hro.trans (hle29.trans hle34)) (L) (subF (by (repeat (first | exact List.Sublist.refl _ | apply List.Sublist.cons_cons | apply List.Sublist.cons)); done)) (⟨IfV.mk _ _, ⟨fun h => (by cases h), fun h => absurd h (fun hk => hno (hk.2 _ hm))⟩, rfl⟩)
        · try simp only [decide_eq_true_eq, decide_eq_false_iff_not, beq_iff_eq, bne_iff_ne, ne_eq, beq_eq_false_iff_ne, bne_eq_false_iff_eq, Bool.not_eq_true', Bool.not_eq_false', Bool.not_eq_true, Bool.not_eq_false, Decidable.not_not, Int.not_lt, Int.not_le] at h7
          refine skip ?_
          refine n_in ?_
          refine n_then ?_
          refine region ?_
          refine op (y (x_add rfl rfl _ (wr (by omega) (by omega))) rfl ?_)
          refine op (y (x_move rfl) rfl ?_)
          refine nil ?_
          refine drop0 ?_
          exact round (os.length - (k + 1)) [(1, .pointer (some ⟨b1, 0, none⟩)), (21, .slice _ os.length cA), (22, .int .i64 (os.length : Nat)), (23, .int .i64 ((k + 1) : Nat))] (by omega) ⟨rfl, rfl, rfl, rfl, trivial⟩ ⟨k + 1, rfl, rfl, rfl, by omega, hro.trans hle29, upto (p := fun q => ∀ o, os[q]? = some o → ObOk o) hall (fun o ho => by rw [hx] at ho; cases ho; exact hi29.1 (by grind))⟩
      · try simp only [decide_eq_true_eq, decide_eq_false_iff_not, beq_iff_eq, bne_iff_ne, ne_eq, beq_eq_false_iff_ne, bne_eq_false_iff_eq, Bool.not_eq_true', Bool.not_eq_false', Bool.not_eq_true, Bool.not_eq_false, Decidable.not_not, Int.not_lt, Int.not_le] at h4
        refine exit ?_
        refine e_then ?_
        refine e_then ?_
        refine e_in ?_
        refine n_then ?_
        refine seq ?_
        refine seq ?_
        have hAll := allq (by intro q hq o ho; exact hall q (by omega) o ho)
        refine region ?_
        refine op (y (x_fieldAddr fo_125_1 rfl) rfl ?_)
        refine op (y (x_load1 ag_123 rfl (by first | assumption | exact Cell.own 0 rfl rfl | exact Cell.own 1 rfl rfl | exact Cell.own 2 rfl rfl | exact Cell.own 3 rfl rfl | exact Cell.own 4 rfl rfl | exact Cell.own 5 rfl rfl | exact Cell.own 6 rfl rfl | exact Cell.own 7 rfl rfl | exact Cell.own 8 rfl rfl | exact Cell.own 9 rfl rfl | exact Cell.ofRo (by assumption))) rfl ?_)
        refine op (y (x_lenSl sz_123 rfl) rfl ?_)
        refine op (y (x_move rfl) rfl ?_)
        refine nil ?_
        refine n_then ?_
        refine block ?_
        refine loop (fun m F ro2' L2' => ∃ (z0 : Nat), (m = 0) ∧ (F = [(1, .pointer (some ⟨b1, 0, none⟩)), (38, .int .i64 0), (39, .int .i64 0)]) ∧ (L2' = [(b1, Obj.cells [Value.slice A os.length cA, Value.slice none 0 0].toArray 125 (0, 0))] :: L) ∧ (ro.le ro2')) (0) [(1, .pointer (some ⟨b1, 0, none⟩)), (38, .int .i64 0), (39, .int .i64 0)] ⟨rfl, rfl, rfl, trivial⟩ ⟨0, rfl, rfl, rfl, hro⟩ ?_
        rintro m F ro2' L2' ⟨z0, rfl, rfl, rfl, hro2⟩
        refine seq ?_
        refine region ?_
        refine op (y (x_lss rfl rfl) rfl ?_)
        refine said 40 (.bool false) rfl rfl ?_
        refine nil ?_
        refine n_then ?_
        refine seq ?_
        refine condF rfl ?_
        refine exit ?_
        refine e_then ?_
        refine e_then ?_
        refine e_in ?_
        refine n_then ?_
        refine seq ?_
        
        refine region ?_
        refine op (y (x_assign rfl) rfl ?_)
        refine nil ?_
        refine n_then ?_
        refine ret ?_
        exact done rfl (.tmp rfl (.nil)) (hro2) (L) (subF (by (repeat (first | exact List.Sublist.refl _ | apply List.Sublist.cons_cons | apply List.Sublist.cons)); done)) (⟨IfV.nil, ⟨fun _ => ⟨by omega, hAll⟩, fun _ => rfl⟩, rfl⟩)

theorem SNew_c (os : List Ob) (A : Option Addr) (cA : Nat) (ro : Ro) (L : List (List Blk)) (hh : Sl ro 2 encOb A cA os) (hI : ∀ o ∈ os, I64 o.kind) (er : Nat → Addr) (hG : Glob er ro) :
    CT Tryz.prog 33 [.slice A os.length cA].toArray ro L (PStore os L) := by
  have hcap := cap_ge hh
  refine enter Tryz.func33 rfl Tryz.ntmps33 rfl ?_
  refine seq ?_
  refine region ?_
  refine op (e_alloc rfl zc_66 rfl fun b2 => ?_)
  refine op (y (x_assign rfl) rfl ?_)
  refine nil ?_
  refine n_then ?_
  refine seq ?_
  refine seq ?_
  refine region ?_
  refine op (y (x_move rfl) rfl ?_)
  refine op (y (x_build bu_125 rfl rfl) rfl ?_)
  refine op (e_call rfl fn_64 rfl rfl (HistValid_c os A cA _ _ hh hI er hG) fun v12 ro12 L12 hle12 hp12 => ?_)
  obtain ⟨hv12, hi12, rfl⟩ := hp12
  refine op (y (x_assign rfl) rfl ?_)
  refine nil ?_
  refine n_then ?_
  refine seq ?_
  refine region ?_
  refine op (y (x_move rfl) rfl ?_)
  refine op (y (x_ifNeNil Tryz.underlying31 rfl (by assumption)) rfl ?_)
  refine nil ?_
  refine n_then ?_
  refine cond rfl (fun h2 => ?_) (fun h2 => ?_)
  · try simp only [decide_eq_true_eq, decide_eq_false_iff_not, beq_iff_eq, bne_iff_ne, ne_eq, beq_eq_false_iff_ne, bne_eq_false_iff_eq, Bool.not_eq_true', Bool.not_eq_false', Bool.not_eq_true, Bool.not_eq_false, Decidable.not_not, Int.not_lt, Int.not_le] at h2
    refine seq ?_
    change isNilI v12 = false at h2
    refine region ?_
    refine op (y (x_build bu_66 rfl rfl) rfl ?_)
    refine op (y (x_move rfl) rfl ?_)
    first | refine op (e_store 0 rfl rfl ts_66 rfl rfl rfl rfl rfl rfl ?_) | refine op (e_store 1 rfl rfl ts_66 rfl rfl rfl rfl rfl rfl ?_) | refine op (e_store 2 rfl rfl ts_66 rfl rfl rfl rfl rfl rfl ?_) | refine op (e_store 3 rfl rfl ts_66 rfl rfl rfl rfl rfl rfl ?_) | refine op (e_store 4 rfl rfl ts_66 rfl rfl rfl rfl rfl rfl ?_) | refine op (e_store 5 rfl rfl ts_66 rfl rfl rfl rfl rfl rfl ?_) | refine op (e_store 6 rfl rfl ts_66 rfl rfl rfl rfl rfl rfl ?_) | refine op (e_store 7 rfl rfl ts_66 rfl rfl rfl rfl rfl rfl ?_) | refine op (e_store 8 rfl rfl ts_66 rfl rfl rfl rfl rfl rfl ?_) | refine op (e_store 9 rfl rfl ts_66 rfl rfl rfl rfl rfl rfl ?_)
    refine op (y (x_assign rfl) rfl ?_)
    refine nil ?_
    refine n_then ?_
    refine ret ?_
    refine r_then ?_
    exact done rfl (Res.cellN ag_66 rfl rfl (CellsAt.own 0 0 1 _ rfl rfl) (.tmp rfl (.nil))) (hle12) (L) (subF (by (repeat (first | exact List.Sublist.refl _ | apply List.Sublist.cons_cons | apply List.Sublist.cons)); done)) (⟨none, 0, [], _, rfl, hv12, rfl, sst_nil, .inr ⟨h2, fun hk => (by rw [hi12.2 hk] at h2; cases h2), rfl⟩⟩)
  · try simp only [decide_eq_true_eq, decide_eq_false_iff_not, beq_iff_eq, bne_iff_ne, ne_eq, beq_eq_false_iff_ne, bne_eq_false_iff_eq, Bool.not_eq_true', Bool.not_eq_false', Bool.not_eq_true, Bool.not_eq_false, Decidable.not_not, Int.not_lt, Int.not_le] at h2
    refine skip ?_
    refine n_then ?_
    refine seq ?_
    change isNilI v12 = true at h2
    have hV := hi12.1 h2
    refine region ?_
    refine op (e_alloc rfl zc_64 rfl fun b5 => ?_)
    refine nil ?_
    refine n_then ?_
    refine seq ?_
    refine seq ?_
    refine region ?_
    refine op (y (x_move rfl) rfl ?_)
    refine op (y (x_lenSl sz_60 rfl) rfl ?_)
    refine op (y (x_move rfl) rfl ?_)
    refine nil ?_
    refine n_then ?_
    refine block ?_
    refine loop (fun m F ro' L' => ∃ (k : Nat) (A5 : Option Addr) (c5 : Nat), (m = os.length - k) ∧ (F = [(2, .pointer (some ⟨b2, 0, none⟩)), (5, .pointer (some ⟨b5, 0, none⟩)), (17, .slice A os.length cA), (18, .int .i64 (os.length : Nat)), (19, .int .i64 (k : Nat))]) ∧ (L' = [(b5, Obj.cells [Value.slice A5 ((os.take k).map bareSn).length c5].toArray 64 (0, 0))] :: [(b2, Obj.cells [Value.slice none 0 0].toArray 66 (0, 0))] :: L) ∧ (k ≤ os.length) ∧ (ro12.le ro') ∧ (SSt ro' A5 c5 ((os.take k).map bareSn))) (os.length - 0) [(2, .pointer (some ⟨b2, 0, none⟩)), (5, .pointer (some ⟨b5, 0, none⟩)), (17, .slice A os.length cA), (18, .int .i64 (os.length : Nat)), (19, .int .i64 (0 : Nat))] ⟨rfl, rfl, rfl, rfl, rfl, trivial⟩ ⟨0, none, 0, rfl, rfl, rfl, by omega, Ro.le.refl _, sst_nil⟩ ?_
    rintro m F ro' L' ⟨k, A5, c5, rfl, rfl, rfl, hk, hro, hS⟩
    refine seq ?_
    refine region ?_
    refine op (y (x_lss rfl rfl) rfl ?_)
    refine nil ?_
    refine n_then ?_
    refine seq ?_
    refine cond rfl (fun h6 => ?_) (fun h6 => ?_)
    · try simp only [decide_eq_true_eq, decide_eq_false_iff_not, beq_iff_eq, bne_iff_ne, ne_eq, beq_eq_false_iff_ne, bne_eq_false_iff_eq, Bool.not_eq_true', Bool.not_eq_false', Bool.not_eq_true, Bool.not_eq_false, Decidable.not_not, Int.not_lt, Int.not_le] at h6
      refine skip ?_
      refine n_then ?_
      refine seq ?_
      refine block ?_
      refine seq ?_
      obtain ⟨bbx, offx, rfl, hcx⟩ := hh.at_ (i := k) (by omega)
      have hx := List.getElem?_eq_getElem (show k < os.length from by omega)
      have hm := List.mem_of_getElem? hx
      refine region ?_
      refine op (y (x_indexNat sz_60 rfl rfl (by omega)) rfl ?_)
      refine op (y (x_loadN ag_35 rfl rfl (CellsAt.ofRo (fun j v hv => (hle12.trans hro).cell (hcx k _ hx j v hv)))) rfl ?_)
      refine op (e_alloc rfl zc_35 rfl fun b7 => ?_)
      first | refine op (e_store 0 rfl rfl ts_35 rfl rfl rfl rfl rfl rfl ?_) | refine op (e_store 1 rfl rfl ts_35 rfl rfl rfl rfl rfl rfl ?_) | refine op (e_store 2 rfl rfl ts_35 rfl rfl rfl rfl rfl rfl ?_) | refine op (e_store 3 rfl rfl ts_35 rfl rfl rfl rfl rfl rfl ?_) | refine op (e_store 4 rfl rfl ts_35 rfl rfl rfl rfl rfl rfl ?_) | refine op (e_store 5 rfl rfl ts_35 rfl rfl rfl rfl rfl rfl ?_) | refine op (e_store 6 rfl rfl ts_35 rfl rfl rfl rfl rfl rfl ?_) | refine op (e_store 7 rfl rfl ts_35 rfl rfl rfl rfl rfl rfl ?_) | refine op (e_store 8 rfl rfl ts_35 rfl rfl rfl rfl rfl rfl ?_) | refine op (e_store 9 rfl rfl ts_35 rfl rfl rfl rfl rfl rfl ?_)
      refine nil ?_
      refine n_then ?_
      refine seq ?_
      refine region ?_
      refine op (y ((by first | exact x_loadOwn 0 _ ag_35 rfl rfl rfl rfl | exact x_loadOwn 1 _ ag_35 rfl rfl rfl rfl | exact x_loadOwn 2 _ ag_35 rfl rfl rfl rfl | exact x_loadOwn 3 _ ag_35 rfl rfl rfl rfl | exact x_loadOwn 4 _ ag_35 rfl rfl rfl rfl | exact x_loadOwn 5 _ ag_35 rfl rfl rfl rfl | exact x_loadOwn 6 _ ag_35 rfl rfl rfl rfl | exact x_loadOwn 7 _ ag_35 rfl rfl rfl rfl | exact x_loadOwn 8 _ ag_35 rfl rfl rfl rfl | exact x_loadOwn 9 _ ag_35 rfl rfl rfl rfl | exact x_loadOwn 10 _ ag_35 rfl rfl rfl rfl | exact x_loadOwn 11 _ ag_35 rfl rfl rfl rfl)) rfl ?_)
      refine op (e_call rfl fn_13 rfl rfl (New_c (os[k]) (hI _ hm) er _ _ (hG.mono (hle12.trans hro))) fun v25 ro25 L25 hle25 hp25 => ?_)
      obtain ⟨s25, ev25, rfl, hev25, rfl, hc25⟩ := hp25
      obtain ⟨hn25, rfl⟩ : isNilI ev25 = true ∧ s25 = bareSn (os[k]) := by rcases hc25 with ⟨h1, _, h2⟩ | ⟨_, h1, _⟩; exact ⟨h1, h2⟩; exact absurd (hV.2 _ hm) h1
      obtain rfl := isnil hev25 hn25
      refine op (y (x_move rfl) rfl ?_)
      refine op (y (x_extract rfl rfl) rfl ?_)
      refine op (y (x_extract rfl rfl) rfl ?_)
      refine op (e_alloc rfl zc_29 rfl fun b8 => ?_)
      first | refine op (e_store 0 rfl rfl ts_29 rfl rfl rfl rfl rfl rfl ?_) | refine op (e_store 1 rfl rfl ts_29 rfl rfl rfl rfl rfl rfl ?_) | refine op (e_store 2 rfl rfl ts_29 rfl rfl rfl rfl rfl rfl ?_) | refine op (e_store 3 rfl rfl ts_29 rfl rfl rfl rfl rfl rfl ?_) | refine op (e_store 4 rfl rfl ts_29 rfl rfl rfl rfl rfl rfl ?_) | refine op (e_store 5 rfl rfl ts_29 rfl rfl rfl rfl rfl rfl ?_) | refine op (e_store 6 rfl rfl ts_29 rfl rfl rfl rfl rfl rfl ?_) | refine op (e_store 7 rfl rfl ts_29 rfl rfl rfl rfl rfl rfl ?_) | refine op (e_store 8 rfl rfl ts_29 rfl rfl rfl rfl rfl rfl ?_) | refine op (e_store 9 rfl rfl ts_29 rfl rfl rfl rfl rfl rfl ?_)
      refine op (y (x_assign rfl) rfl ?_)
      refine nil ?_
      refine n_then ?_
      refine seq ?_
      refine seq ?_
      refine region ?_
      refine op (y (x_move rfl) rfl ?_)
      refine op (y (x_ifNeNil Tryz.underlying31 rfl (IfV.nil)) rfl ?_)
      refine said 29 (.bool false) rfl rfl ?_
      refine nil ?_
      refine n_then ?_
      refine condF rfl ?_
      refine skip ?_
      refine n_then ?_
      refine region ?_
      refine op (y ((by first | exact x_loadOwn 0 _ ag_64 rfl rfl rfl rfl | exact x_loadOwn 1 _ ag_64 rfl rfl rfl rfl | exact x_loadOwn 2 _ ag_64 rfl rfl rfl rfl | exact x_loadOwn 3 _ ag_64 rfl rfl rfl rfl | exact x_loadOwn 4 _ ag_64 rfl rfl rfl rfl | exact x_loadOwn 5 _ ag_64 rfl rfl rfl rfl | exact x_loadOwn 6 _ ag_64 rfl rfl rfl rfl | exact x_loadOwn 7 _ ag_64 rfl rfl rfl rfl | exact x_loadOwn 8 _ ag_64 rfl rfl rfl rfl | exact x_loadOwn 9 _ ag_64 rfl rfl rfl rfl | exact x_loadOwn 10 _ ag_64 rfl rfl rfl rfl | exact x_loadOwn 11 _ ag_64 rfl rfl rfl rfl)) rfl ?_)
      refine op (y ((by first | exact x_loadOwn 0 _ ag_29 rfl rfl rfl rfl | exact x_loadOwn 1 _ ag_29 rfl rfl rfl rfl | exact x_loadOwn 2 _ ag_29 rfl rfl rfl rfl | exact x_loadOwn 3 _ ag_29 rfl rfl rfl rfl | exact x_loadOwn 4 _ ag_29 rfl rfl rfl rfl | exact x_loadOwn 5 _ ag_29 rfl rfl rfl rfl | exact x_loadOwn 6 _ ag_29 rfl rfl rfl rfl | exact x_loadOwn 7 _ ag_29 rfl rfl rfl rfl | exact x_loadOwn 8 _ ag_29 rfl rfl rfl rfl | exact x_loadOwn 9 _ ag_29 rfl rfl rfl rfl | exact x_loadOwn 10 _ ag_29 rfl rfl rfl rfl | exact x_loadOwn 11 _ ag_29 rfl rfl rfl rfl)) rfl ?_)
      refine op (e_call rfl fn_65 rfl rfl (PLO.frozen enc_sn (AndS_o ((os.take k).map bareSn) A5 c5 _ _ (hS.mono hle25).sl (by have := hV.1; simp; omega) (bareSn (os[k])))) fun v34 ro34 L34 hle34 hp34 => ?_)
      obtain ⟨A34, c34, rfl, hS34, rfl⟩ := hp34
      refine said 34 (.agg [.slice A34 ((os.take (k + 1)).map bareSn).length c34].toArray) rfl (by rw [take_snoc' hx, List.map_append]; rfl) ?_
      first | refine op (e_store 0 rfl rfl ts_64 rfl rfl rfl rfl rfl rfl ?_) | refine op (e_store 1 rfl rfl ts_64 rfl rfl rfl rfl rfl rfl ?_) | refine op (e_store 2 rfl rfl ts_64 rfl rfl rfl rfl rfl rfl ?_) | refine op (e_store 3 rfl rfl ts_64 rfl rfl rfl rfl rfl rfl ?_) | refine op (e_store 4 rfl rfl ts_64 rfl rfl rfl rfl rfl rfl ?_) | refine op (e_store 5 rfl rfl ts_64 rfl rfl rfl rfl rfl rfl ?_) | refine op (e_store 6 rfl rfl ts_64 rfl rfl rfl rfl rfl rfl ?_) | refine op (e_store 7 rfl rfl ts_64 rfl rfl rfl rfl rfl rfl ?_) | refine op (e_store 8 rfl rfl ts_64 rfl rfl rfl rfl rfl rfl ?_) | refine op (e_store 9 rfl rfl ts_64 rfl rfl rfl rfl rfl rfl ?_)
      refine nil ?_
      refine n_in ?_
      refine n_then ?_
      refine region ?_
      refine op (y (x_add rfl rfl _ (wr (by omega) (by omega))) rfl ?_)
      refine op (y (x_move rfl) rfl ?_)
      refine nil ?_
      refine drop0 ?_
      refine drop0 ?_
      exact round (os.length - (k + 1)) [(2, .pointer (some ⟨b2, 0, none⟩)), (5, .pointer (some ⟨b5, 0, none⟩)), (17, .slice _ os.length cA), (18, .int .i64 (os.length : Nat)), (19, .int .i64 ((k + 1) : Nat))] (by omega) ⟨rfl, rfl, rfl, rfl, rfl, trivial⟩ ⟨k + 1, A34, c34, rfl, rfl, rfl, by omega, hro.trans (hle25.trans hle34), by rw [take_snoc' hx, List.map_append]; exact ⟨hS34, fun s hs => by rcases List.mem_append.1 hs with h | h; exact ((hS.ok s h).mono hle25).mono hle34; (simp at h; subst h; exact SnOk.bare _ _)⟩⟩
    · try simp only [decide_eq_true_eq, decide_eq_false_iff_not, beq_iff_eq, bne_iff_ne, ne_eq, beq_eq_false_iff_ne, bne_eq_false_iff_eq, Bool.not_eq_true', Bool.not_eq_false', Bool.not_eq_true, Bool.not_eq_false, Decidable.not_not, Int.not_lt, Int.not_le] at h6
      refine exit ?_
      refine e_then ?_
      refine e_then ?_
      refine e_in ?_
      refine n_then ?_
      refine seq ?_
      obtain rfl : k = os.length := by omega
      rw [List.take_length] at hS ⊢
      refine region ?_
      refine op (y ((by first | exact x_loadOwn 0 _ ag_64 rfl rfl rfl rfl | exact x_loadOwn 1 _ ag_64 rfl rfl rfl rfl | exact x_loadOwn 2 _ ag_64 rfl rfl rfl rfl | exact x_loadOwn 3 _ ag_64 rfl rfl rfl rfl | exact x_loadOwn 4 _ ag_64 rfl rfl rfl rfl | exact x_loadOwn 5 _ ag_64 rfl rfl rfl rfl | exact x_loadOwn 6 _ ag_64 rfl rfl rfl rfl | exact x_loadOwn 7 _ ag_64 rfl rfl rfl rfl | exact x_loadOwn 8 _ ag_64 rfl rfl rfl rfl | exact x_loadOwn 9 _ ag_64 rfl rfl rfl rfl | exact x_loadOwn 10 _ ag_64 rfl rfl rfl rfl | exact x_loadOwn 11 _ ag_64 rfl rfl rfl rfl)) rfl ?_)
      refine op (y (x_build bu_66 rfl rfl) rfl ?_)
      first | refine op (e_store 0 rfl rfl ts_66 rfl rfl rfl rfl rfl rfl ?_) | refine op (e_store 1 rfl rfl ts_66 rfl rfl rfl rfl rfl rfl ?_) | refine op (e_store 2 rfl rfl ts_66 rfl rfl rfl rfl rfl rfl ?_) | refine op (e_store 3 rfl rfl ts_66 rfl rfl rfl rfl rfl rfl ?_) | refine op (e_store 4 rfl rfl ts_66 rfl rfl rfl rfl rfl rfl ?_) | refine op (e_store 5 rfl rfl ts_66 rfl rfl rfl rfl rfl rfl ?_) | refine op (e_store 6 rfl rfl ts_66 rfl rfl rfl rfl rfl rfl ?_) | refine op (e_store 7 rfl rfl ts_66 rfl rfl rfl rfl rfl rfl ?_) | refine op (e_store 8 rfl rfl ts_66 rfl rfl rfl rfl rfl rfl ?_) | refine op (e_store 9 rfl rfl ts_66 rfl rfl rfl rfl rfl rfl ?_)
      refine op (y (x_assign rfl) rfl ?_)
      refine nil ?_
      refine n_then ?_
      refine ret ?_
      exact done rfl (Res.cellN ag_66 rfl rfl (CellsAt.own 1 0 1 _ rfl rfl) (.tmp rfl (.nil))) (hle12.trans hro) (L) (subF (by (repeat (first | exact List.Sublist.refl _ | apply List.Sublist.cons_cons | apply List.Sublist.cons)); done)) (⟨A5, c5, os.map bareSn, .nilIface, rfl, IfV.nil, rfl, hS, .inl ⟨rfl, hV, rfl⟩⟩)

end Go.Proofs.YtgkngljojfkkfaaGreatDoor
