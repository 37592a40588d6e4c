/- The walks of histories that are taken; the table of their transactions. -/
import Derived.Test.YtijafcilfefafaaDoorV16
namespace Go.Proofs.YtijafcilfefafaaDoor
open Go Go.U
set_option maxRecDepth 20000
set_option linter.unusedSimpArgs false
set_option linter.unusedVariables false

instance instObOk (o : Ob) : Decidable (ObOk o) := inferInstanceAs (Decidable (_ ∧ _))
instance instHV (h : Hi) : Decidable (HV h) := inferInstanceAs (Decidable (_ ∧ _))
def runM (os : List Ob) : Nat → List St → List Ev → Option (List St)
  | _, sts, [] => some sts
  | n, sts, e :: es => match feedM os n sts e with
    | none => none
    | some s' => runM os (n + 1) s' es
theorem runM_append (os : List Ob) : ∀ (es fs : List Ev) (n : Nat) (sts : List St), runM os n sts (es ++ fs) = (runM os n sts es).bind (fun s => runM os (n + es.length) s fs)
  | [], fs, n, sts => by simp [runM]
  | e :: es, fs, n, sts => by
    simp only [List.cons_append, runM]
    cases feedM os n sts e with
    | none => rfl
    | some s' =>
      simp only
      rw [runM_append os es fs (n + 1) s', List.length_cons, show n + 1 + es.length = n + (es.length + 1) by omega]
theorem runM_snoc {os : List Ob} {es : List Ev} {k : Nat} {e : Ev} (hx : es[k]? = some e) {sts : List St} (h : runM os 0 [] (es.take k) = some sts) : runM os 0 [] (es.take (k + 1)) = feedM os k sts e := by
  have hk : k < es.length := (List.getElem?_eq_some_iff.1 hx).1
  rw [take_snoc' hx, runM_append, h]
  have : (es.take k).length = k := by simp; omega
  simp only [Option.bind_some, this, Nat.zero_add, runM]
  cases feedM os k sts e <;> rfl
theorem runM_none {os : List Ob} {es : List Ev} {k : Nat} (h : runM os 0 [] (es.take k) = none) : runM os 0 [] es = none := by
  rw [← List.take_append_drop k es, runM_append, h]; rfl
/-- a history is taken -/
def takenM (h : Hi) : Option (List St) := if HV h then runM h.os 0 [] h.es else none
def PTaken (h : Hi) (L : List (List Blk)) : Value → Ro → List (List Blk) → Prop := fun v ro' L' => ∃ pv ev, v = .tuple [pv, ev].toArray ∧ IfV ev ∧
  ((isNilI ev = true ∧ ∃ y : AX, takenM h = some (y.G.map (·.s)) ∧ pv = .pointer (some ⟨y.a, 0, none⟩) ∧ y.Ok h.os h.es.length ro' ∧ L' = y.L h.os h.es.length ++ L) ∨ (isNilI ev = false ∧ takenM h = none ∧ L' = L))
def PNew (os : List Ob) (L : List (List Blk)) : Value → Ro → List (List Blk) → Prop := fun v ro' L' => ∃ pv ev, v = .tuple [pv, ev].toArray ∧ IfV ev ∧
  ((isNilI ev = true ∧ ∃ y : AX, y.G = [] ∧ pv = .pointer (some ⟨y.a, 0, none⟩) ∧ y.Ok os 0 ro' ∧ L' = y.L os 0 ++ L) ∨ (isNilI ev = false ∧ ¬ HV ⟨os, []⟩ ∧ L' = L))
theorem Feed_c (y : AX) (a : Nat) (ha : y.a = a) (os : List Ob) (n : Nat) (e : Ev) (he : EvI e) (er : Nat → Addr) (ro : Ro) (L : List (List Blk)) (hG : Glob er ro) (hy : y.Ok os n ro) :
    CT Tryd.prog 53 [.pointer (some ⟨a, 0, none⟩), .agg (encEv e).toArray].toArray ro (y.L os n ++ L) (PFeed os n (y.G.map (·.s)) e a L) := by
  subst ha
  exact Feed_e y.a y.oA y.oc os n y.tA y.tc y.Rt y.rb y.eb y.cb y.mb y.ru y.eu y.cu y.mu y.G e he er ro L hG hy.o hy.t hy.eb hy.hb hy.eu hy.hu hy.g hy.inv hy.n hy.os
theorem perm_yl {α : Type} (a b : α) (Y L : List α) : (Y ++ (a :: b :: L)).Perm (a :: b :: (Y ++ L)) :=
  List.perm_middle.trans (List.Perm.cons _ List.perm_middle)
theorem perm_yl1 {α : Type} (a : α) (Y L : List α) : (Y ++ (a :: L)).Perm (a :: (Y ++ L)) := List.perm_middle
theorem sl_nil {α : Type} {ro : Ro} {k : Nat} {enc : α → List Value} : Sl ro k enc none 0 ([] : List α) := ⟨by simp, by simp [maxLen], by simp, fun h => absurd rfl h⟩
/-- a transaction of a table -/
structure TG where
  A : Option Addr
  cap : Nat
  tm : Tm
def encTG (t : TG) : List Value := tmC t.A t.cap t.tm
theorem enc_tg {l : List TG} : ∀ x ∈ l, (encTG x).length = 7 := fun _ _ => rfl
theorem ok_tm (A : Option Addr) (cap : Nat) (t : Tm) : okAll (tmC A cap t) = true := rfl
/-- a table of transactions, in memory that stays -/
structure STb (ro : Ro) (A : Option Addr) (cap : Nat) (l : List TG) : Prop where
  sl : Sl ro 7 encTG A cap l
  ds : ∀ t ∈ l, Sl ro 8 encDe t.A t.cap t.tm.ds
theorem STb.mono {ro ro' : Ro} {A : Option Addr} {cap : Nat} {l : List TG} (h : STb ro A cap l) (hle : ro.le ro') : STb ro' A cap l := ⟨h.sl.mono hle, fun t ht => (h.ds t ht).mono hle⟩
theorem stc_tm {A : Option Addr} {cap : Nat} {s : St} {j : Nat} {v : Value} (h : (tmC A cap s.tx)[j]? = some v) : (stC A cap s).toArray[0 + j]? = some v := by
  have : stC A cap s = tmC A cap s.tx ++ [.int .i64 s.stand] := rfl
  rw [Nat.zero_add, List.getElem?_toArray, this, List.getElem?_append_left (List.getElem?_eq_some_iff.1 h).1]
  exact h
theorem flat_sg (G : List SG) (k : Nat) {g : SG} (h : G[k]? = some g) : (G.flatMap encSG)[k * 1]? = some (.pointer (some (adr g))) := by
  have : G.flatMap encSG = G.map (fun g => Value.pointer (some (adr g))) := flatMap_one _ G
  rw [this, Nat.mul_one, List.getElem?_map, h]; rfl
/-- the numbers of the transactions, their places -/
def findM (l : List Tm) (id : Int) : Option Nat := l.findIdx? (fun t => decide (t.id = id))
def findV (r : Option Nat) : Value := .tuple [.int .i64 ((r.getD 0 : Nat) : Int), .bool r.isSome].toArray
theorem findM_some {l : List Tm} {id : Int} {k : Nat} {t : Tm} (h : l[k]? = some t) (ht : t.id = id) (hall : ∀ q : Nat, q < k → ∀ t, l[q]? = some t → t.id ≠ id) : findM l id = some k := by
  unfold findM
  rw [List.findIdx?_eq_some_iff_getElem]
  obtain ⟨hk, hke⟩ := List.getElem?_eq_some_iff.1 h
  refine ⟨hk, by simp [hke, ht], fun j hj => ?_⟩
  simpa using hall j hj _ (List.getElem?_eq_getElem (by omega))
theorem findM_none {l : List Tm} {id : Int} (hall : ∀ q : Nat, q < l.length → ∀ t, l[q]? = some t → t.id ≠ id) : findM l id = none := by
  unfold findM
  rw [List.findIdx?_eq_none_iff]
  intro t ht
  simpa using allq (p := fun t : Tm => t.id ≠ id) hall t ht

theorem new_sub {b1 b2 b3 : Blk} {L : List (List Blk)} : ∃ M, M.Perm (List.flatten ([b1] :: [b3] :: [b2] :: L)) ∧ (List.flatten ([b1] :: [] :: [b2] :: [b3] :: [] :: L)).Sublist M :=
  ⟨[b1, b2, b3] ++ L.flatten, by simp only [List.flatten_cons, List.cons_append, List.nil_append]; exact List.Perm.cons _ (List.Perm.swap _ _ _), by simp⟩

theorem SClone_c (l : List Ob) (A : Option Addr) (cap : Nat) (ro : Ro) (L : List (List Blk)) (hl : Sl ro 2 encOb A cap l) (hn : l.length ≤ 100) :
    CT Tryd.prog 58 [.slice A l.length cap].toArray ro L (PS 2 encOb l L) := by
  refine enter Tryd.func58 rfl Tryd.ntmps58 rfl ?_
  refine seq ?_
  refine region ?_
  refine op (y (x_assign rfl) rfl ?_)
  refine nil ?_
  refine n_then ?_
  refine seq ?_
  refine seq ?_
  refine region ?_
  refine op (y (x_move rfl) rfl ?_)
  refine op (y (x_slNil Tryd.underlying22 rfl) rfl ?_)
  refine nil ?_
  refine n_then ?_
  refine cond rfl (fun h1 => ?_) (fun h1 => ?_)
  · try simp only [decide_eq_true_eq, decide_eq_false_iff_not, beq_iff_eq, bne_iff_ne, ne_eq, beq_eq_false_iff_ne, bne_eq_false_iff_eq, Bool.not_eq_true', Bool.not_eq_false', Bool.not_eq_true, Bool.not_eq_false, Decidable.not_not, Int.not_lt, Int.not_le] at h1
    refine seq ?_
    obtain rfl : l = [] := Classical.byContradiction fun hne => by obtain ⟨b, off, rfl, _⟩ := hl.2.2.2 hne; simp at h1
    refine region ?_
    refine op (y (x_assign rfl) rfl ?_)
    refine nil ?_
    refine n_then ?_
    refine ret ?_
    refine r_then ?_
    exact done rfl (.tmp rfl (.nil)) (Ro.le.refl _) (L) (⟨_, .refl _, .refl _⟩) (⟨none, 0, rfl, sl_nil, rfl⟩)
  · try simp only [decide_eq_true_eq, decide_eq_false_iff_not, beq_iff_eq, bne_iff_ne, ne_eq, beq_eq_false_iff_ne, bne_eq_false_iff_eq, Bool.not_eq_true', Bool.not_eq_false', Bool.not_eq_true, Bool.not_eq_false, Decidable.not_not, Int.not_lt, Int.not_le] at h1
    refine skip ?_
    refine n_then ?_
    refine seq ?_
    refine region ?_
    refine op (e_slice0 rfl Tryd.underlying22 ti_31 fun b5 => ?_)
    refine op (y (x_move rfl) rfl ?_)
    refine op (e_append 0 rfl st_22 rfl rfl rfl OwnS.zero (Sl.src hl) (ok_ob _) (by omega) (by omega) (fun _ => rfl) fun A7 cap7 R7 hO7 => ?_)
    refine said 7 (.slice A7 l.length cap7) rfl (by simp) ?_
    refine ufreeze fun ro7 hle7 hR7 => ?_
    have hS7 : Sl ro7 2 encOb A7 cap7 l := OwnS.sl (by simpa using hO7) enc_ob hR7
    refine op (y (x_assign rfl) rfl ?_)
    refine nil ?_
    refine n_then ?_
    refine ret ?_
    exact done rfl (.tmp rfl (.nil)) (hle7) (L) (⟨_, .refl _, .refl _⟩) (⟨A7, cap7, rfl, hS7, rfl⟩)

theorem New_c (os : List Ob) (A : Option Addr) (cap : Nat) (ro : Ro) (L : List (List Blk)) (ho : Sl ro 2 encOb A cap os) (hn : os.length ≤ 100) (hI : ∀ o ∈ os, I64 o.kind ∧ I64 o.init) (er : Nat → Addr) (hG : Glob er ro) :
    CT Tryd.prog 52 [.slice A os.length cap].toArray ro L (PNew os L) := by
  refine enter Tryd.func52 rfl Tryd.ntmps52 rfl ?_
  refine seq ?_
  refine region ?_
  refine op (y (x_assign rfl) rfl ?_)
  refine op (y (x_assign rfl) rfl ?_)
  refine nil ?_
  refine n_then ?_
  refine seq ?_
  refine seq ?_
  refine region ?_
  refine op (y (x_move rfl) rfl ?_)
  refine op (y (x_build bu_25 rfl rfl) rfl ?_)
  refine op (e_call rfl fn_51 rfl rfl (HistValid_c ⟨os, []⟩ A cap none 0 _ _ ⟨ho, sl_nil⟩ hn (by simp) ⟨hI, by simp⟩ er hG) fun v7 ro7 L7 hle7 hp7 => ?_)
  obtain ⟨hv7, hi7, rfl⟩ := hp7
  refine op (y (x_assign rfl) rfl ?_)
  refine nil ?_
  refine n_then ?_
  refine seq ?_
  refine region ?_
  refine op (y (x_move rfl) rfl ?_)
  refine op (y (x_ifNeNil Tryd.underlying43 rfl (by assumption)) rfl ?_)
  refine nil ?_
  refine n_then ?_
  refine cond rfl (fun h2 => ?_) (fun h2 => ?_)
  · try simp only [decide_eq_true_eq, decide_eq_false_iff_not, beq_iff_eq, bne_iff_ne, ne_eq, beq_eq_false_iff_ne, bne_eq_false_iff_eq, Bool.not_eq_true', Bool.not_eq_false', Bool.not_eq_true, Bool.not_eq_false, Decidable.not_not, Int.not_lt, Int.not_le] at h2
    refine seq ?_
    refine region ?_
    refine op (y (x_move rfl) rfl ?_)
    refine op (y (x_assign rfl) rfl ?_)
    refine op (y (x_assign rfl) rfl ?_)
    refine nil ?_
    refine n_then ?_
    refine ret ?_
    refine r_then ?_
    exact done rfl (.tmp rfl (.tmp rfl (.nil))) (hle7) (L) (⟨_, .refl _, .refl _⟩) (⟨_, _, rfl, hv7, .inr ⟨h2, fun hx => (by rw [hi7.2 hx] at h2; cases h2), rfl⟩⟩)
  · try simp only [decide_eq_true_eq, decide_eq_false_iff_not, beq_iff_eq, bne_iff_ne, ne_eq, beq_eq_false_iff_ne, bne_eq_false_iff_eq, Bool.not_eq_true', Bool.not_eq_false', Bool.not_eq_true, Bool.not_eq_false, Decidable.not_not, Int.not_lt, Int.not_le] at h2
    refine skip ?_
    refine n_then ?_
    refine seq ?_
    refine region ?_
    refine op (y (x_move rfl) rfl ?_)
    refine op (e_call rfl fn_58 rfl rfl (SClone_c os A cap _ _ (ho.mono hle7) hn) fun v12 ro12 L12 hle12 hp12 => ?_)
    obtain ⟨A12, cap12, rfl, hS12, rfl⟩ := hp12
    refine op (e_makeMap rfl fun b13 => ?_)
    refine op (e_makeMap rfl fun b14 => ?_)
    refine op (y (x_build bu_87 rfl rfl) rfl ?_)
    refine op (e_box rfl rfl rfl fun b16 => ?_)
    refine op (y (x_assign rfl) rfl ?_)
    refine op (y (x_assign rfl) rfl ?_)
    refine nil ?_
    refine n_then ?_
    refine ret ?_
    exact done rfl (.tmp rfl (.tmp rfl (.nil))) (hle7.trans hle12) ([(b16, Obj.cells [Value.slice A12 os.length cap12, Value.int .i64 0, Value.slice none 0 0, Value.map (some b13), Value.map (some b14)].toArray 87 (0, 0))] :: [] :: [(b13, Obj.map #[] 0)] :: [(b14, Obj.map #[] 0)] :: [] :: L) (new_sub) (⟨_, _, rfl, IfV.nil, .inl ⟨rfl, ⟨b16, A12, cap12, none, 0, [], b13, #[], 0, [], b14, #[], 0, [], []⟩, rfl, rfl, ⟨hS12, OwnS.none_ 88 1, MapE.empty, fun _ => rfl, MapE.empty, fun _ => rfl, (fun g hg => (by cases hg)), Inv.nil, (by simp), hn⟩, rfl⟩⟩)

theorem taken_c (h : Hi) (A : Option Addr) (cA : Nat) (B : Option Addr) (cB : Nat) (ro : Ro) (L : List (List Blk)) (hh : SH ro A cA B cB h) (hn1 : h.os.length ≤ 100) (hn2 : h.es.length ≤ 600) (hI : HI h) (er : Nat → Addr) (hG : Glob er ro) :
    CT Tryd.prog 47 [.agg [.slice A h.os.length cA, .slice B h.es.length cB].toArray].toArray ro L (PTaken h L) := by
  refine enter Tryd.func47 rfl Tryd.ntmps47 rfl ?_
  refine seq ?_
  refine region ?_
  refine op (e_box rfl rfl rfl fun b1 => ?_)
  refine op (y (x_assign rfl) rfl ?_)
  refine op (y (x_assign rfl) rfl ?_)
  refine nil ?_
  refine n_then ?_
  refine seq ?_
  refine seq ?_
  refine region ?_
  refine op (y ((by first | exact x_loadOwn 0 _ ag_25 rfl rfl rfl rfl | exact x_loadOwn 1 _ ag_25 rfl rfl rfl rfl | exact x_loadOwn 2 _ ag_25 rfl rfl rfl rfl | exact x_loadOwn 3 _ ag_25 rfl rfl rfl rfl | exact x_loadOwn 4 _ ag_25 rfl rfl rfl rfl | exact x_loadOwn 5 _ ag_25 rfl rfl rfl rfl | exact x_loadOwn 6 _ ag_25 rfl rfl rfl rfl | exact x_loadOwn 7 _ ag_25 rfl rfl rfl rfl | exact x_loadOwn 8 _ ag_25 rfl rfl rfl rfl | exact x_loadOwn 9 _ ag_25 rfl rfl rfl rfl | exact x_loadOwn 10 _ ag_25 rfl rfl rfl rfl | exact x_loadOwn 11 _ ag_25 rfl rfl rfl rfl)) rfl ?_)
  refine op (e_call rfl fn_51 rfl rfl (HistValid_c h A cA B cB _ _ hh hn1 hn2 hI er hG) fun v11 ro11 L11 hle11 hp11 => ?_)
  obtain ⟨hv11, hi11, rfl⟩ := hp11
  refine op (y (x_assign rfl) rfl ?_)
  refine nil ?_
  refine n_then ?_
  refine seq ?_
  refine region ?_
  refine op (y (x_move rfl) rfl ?_)
  refine op (y (x_ifNeNil Tryd.underlying43 rfl (by assumption)) rfl ?_)
  refine nil ?_
  refine n_then ?_
  refine cond rfl (fun h2 => ?_) (fun h2 => ?_)
  · try simp only [decide_eq_true_eq, decide_eq_false_iff_not, beq_iff_eq, bne_iff_ne, ne_eq, beq_eq_false_iff_ne, bne_eq_false_iff_eq, Bool.not_eq_true', Bool.not_eq_false', Bool.not_eq_true, Bool.not_eq_false, Decidable.not_not, Int.not_lt, Int.not_le] at h2
    refine seq ?_
    refine region ?_
    refine op (y (x_move rfl) rfl ?_)
    refine op (y (x_assign rfl) rfl ?_)
    refine op (y (x_assign rfl) rfl ?_)
    refine nil ?_
    refine n_then ?_
    refine ret ?_
    refine r_then ?_
    exact done rfl (.tmp rfl (.tmp rfl (.nil))) (hle11) (L) (subF (by (repeat (first | exact List.Sublist.refl _ | apply List.Sublist.cons_cons | apply List.Sublist.cons)); done)) (⟨_, _, rfl, hv11, .inr ⟨h2, if_neg (fun hx => (by rw [hi11.2 hx] at h2; cases h2)), rfl⟩⟩)
  · try simp only [decide_eq_true_eq, decide_eq_false_iff_not, beq_iff_eq, bne_iff_ne, ne_eq, beq_eq_false_iff_ne, bne_eq_false_iff_eq, Bool.not_eq_true', Bool.not_eq_false', Bool.not_eq_true, Bool.not_eq_false, Decidable.not_not, Int.not_lt, Int.not_le] at h2
    refine skip ?_
    refine n_then ?_
    refine seq ?_
    have hHV : HV h := hi11.1 h2
    refine region ?_
    refine op (y (x_fieldAddr fo_25_0 rfl) rfl ?_)
    refine op (y (x_load1 ag_22 rfl (by first | assumption | exact Cell.own 0 rfl rfl | exact Cell.own 1 rfl rfl | exact Cell.own 2 rfl rfl | exact Cell.own 3 rfl rfl | exact Cell.own 4 rfl rfl | exact Cell.own 5 rfl rfl | exact Cell.own 6 rfl rfl | exact Cell.own 7 rfl rfl | exact Cell.own 8 rfl rfl | exact Cell.own 9 rfl rfl | exact Cell.ofRo (by assumption))) rfl ?_)
    refine op (e_call rfl fn_52 rfl rfl (New_c h.os A cA _ _ (hh.o.mono hle11) hn1 hI.o er (hG.mono hle11)) fun v18 ro18 L18 hle18 hp18 => ?_)
    obtain ⟨pv18, ev18, rfl, hev18, hcase18⟩ := hp18
    refine op (y (x_move rfl) rfl ?_)
    refine op (y (x_extract rfl rfl) rfl ?_)
    refine op (y (x_extract rfl rfl) rfl ?_)
    refine op (y (x_assign rfl) rfl ?_)
    refine op (y (x_assign rfl) rfl ?_)
    refine nil ?_
    refine n_then ?_
    refine seq ?_
    refine seq ?_
    refine region ?_
    refine op (y (x_move rfl) rfl ?_)
    refine op (y (x_ifNeNil Tryd.underlying43 rfl (by assumption)) rfl ?_)
    refine nil ?_
    refine n_then ?_
    refine cond rfl (fun h5 => ?_) (fun h5 => ?_)
    · try simp only [decide_eq_true_eq, decide_eq_false_iff_not, beq_iff_eq, bne_iff_ne, ne_eq, beq_eq_false_iff_ne, bne_eq_false_iff_eq, Bool.not_eq_true', Bool.not_eq_false', Bool.not_eq_true, Bool.not_eq_false, Decidable.not_not, Int.not_lt, Int.not_le] at h5
      refine seq ?_
      refine region ?_
      refine op (y (x_move rfl) rfl ?_)
      refine op (y (x_assign rfl) rfl ?_)
      refine op (y (x_assign rfl) rfl ?_)
      refine nil ?_
      refine n_then ?_
      refine ret ?_
      refine r_then ?_
      exfalso
      change isNilI ev18 = false at h5
      rcases hcase18.symm with ⟨_, hno, _⟩ | ⟨hx, _⟩
      · exact absurd ⟨hHV.1, by simp, hHV.2.2.1, by simp⟩ hno
      · rw [hx] at h5; cases h5
    · try simp only [decide_eq_true_eq, decide_eq_false_iff_not, beq_iff_eq, bne_iff_ne, ne_eq, beq_eq_false_iff_ne, bne_eq_false_iff_eq, Bool.not_eq_true', Bool.not_eq_false', Bool.not_eq_true, Bool.not_eq_false, Decidable.not_not, Int.not_lt, Int.not_le] at h5
      refine skip ?_
      refine n_then ?_
      refine seq ?_
      refine seq ?_
      change isNilI ev18 = true at h5
      rcases hcase18.symm with ⟨hx, _⟩ | ⟨_, yx, hyG, rfl, hy, rfl⟩
      · rw [hx] at h5; cases h5
      obtain ⟨ya, hya⟩ : ∃ ya, yx.a = ya := ⟨_, rfl⟩
      refine said 5 (.pointer (some ⟨ya, 0, none⟩)) rfl (by show Value.pointer (some ⟨yx.a, 0, none⟩) = _; rw [hya]) ?_
      refine permL ([(b1, _)] :: (yx.L h.os 0 ++ L)) (perm_yl1 _ _ _).symm ?_
      refine region ?_
      refine op (y (x_fieldAddr fo_25_1 rfl) rfl ?_)
      refine op (y (x_load1 ag_23 rfl (by first | assumption | exact Cell.own 0 rfl rfl | exact Cell.own 1 rfl rfl | exact Cell.own 2 rfl rfl | exact Cell.own 3 rfl rfl | exact Cell.own 4 rfl rfl | exact Cell.own 5 rfl rfl | exact Cell.own 6 rfl rfl | exact Cell.own 7 rfl rfl | exact Cell.own 8 rfl rfl | exact Cell.own 9 rfl rfl | exact Cell.ofRo (by assumption))) rfl ?_)
      refine op (y (x_lenSl sz_23 rfl) rfl ?_)
      refine op (y (x_move rfl) rfl ?_)
      refine nil ?_
      refine n_then ?_
      refine block ?_
      refine loop (fun m F ro' L' => ∃ (k : Nat) (yx : AX), (m = h.es.length - k) ∧ (F = [(1, .pointer (some ⟨b1, 0, none⟩)), (5, .pointer (some ⟨ya, 0, none⟩)), (25, .slice B h.es.length cB), (26, .int .i64 (h.es.length : Nat)), (27, .int .i64 (k : Nat))]) ∧ (L' = [(b1, Obj.cells [Value.slice A h.os.length cA, Value.slice B h.es.length cB].toArray 25 (0, 0))] :: (yx.L h.os k ++ L)) ∧ (k ≤ h.es.length) ∧ (ro.le ro') ∧ (yx.a = ya) ∧ (yx.Ok h.os k ro') ∧ (runM h.os 0 [] (h.es.take k) = some (yx.G.map (·.s)))) (h.es.length - 0) [(1, .pointer (some ⟨b1, 0, none⟩)), (5, .pointer (some ⟨ya, 0, none⟩)), (25, .slice B h.es.length cB), (26, .int .i64 (h.es.length : Nat)), (27, .int .i64 (0 : Nat))] ⟨rfl, rfl, rfl, rfl, rfl, trivial⟩ ⟨0, yx, rfl, rfl, rfl, by omega, hle11.trans hle18, hya, hy, by simp [runM, hyG]⟩ ?_
      rintro m F ro' L' ⟨k, yx, rfl, rfl, rfl, hk, hro, hya, hy, hr⟩
      refine seq ?_
      refine region ?_
      refine op (y (x_lss rfl rfl) rfl ?_)
      refine nil ?_
      refine n_then ?_
      refine seq ?_
      refine cond rfl (fun h8 => ?_) (fun h8 => ?_)
      · try simp only [decide_eq_true_eq, decide_eq_false_iff_not, beq_iff_eq, bne_iff_ne, ne_eq, beq_eq_false_iff_ne, bne_eq_false_iff_eq, Bool.not_eq_true', Bool.not_eq_false', Bool.not_eq_true, Bool.not_eq_false, Decidable.not_not, Int.not_lt, Int.not_le] at h8
        refine skip ?_
        refine n_then ?_
        refine seq ?_
        refine block ?_
        refine seq ?_
        have hB := hh.e
        obtain ⟨bbx, offx, rfl, hcx⟩ := hB.at_ (i := k) (by omega)
        have hx := List.getElem?_eq_getElem (show k < h.es.length from by omega)
        have hm := List.mem_of_getElem? hx
        refine region ?_
        refine op (y (x_move rfl) rfl ?_)
        refine op (y (x_indexNat sz_23 rfl rfl (by omega)) rfl ?_)
        refine op (y (x_loadN ag_34 rfl rfl (CellsAt.ofRo (fun j v hv => hro.cell (hcx k _ hx j v hv)))) rfl ?_)
        refine op (e_alloc rfl zc_34 rfl fun b8 => ?_)
        refine op (y (x_assign rfl) rfl ?_)
        first | refine op (e_store 0 rfl rfl ts_34 rfl rfl rfl rfl rfl rfl ?_) | refine op (e_store 1 rfl rfl ts_34 rfl rfl rfl rfl rfl rfl ?_) | refine op (e_store 2 rfl rfl ts_34 rfl rfl rfl rfl rfl rfl ?_) | refine op (e_store 3 rfl rfl ts_34 rfl rfl rfl rfl rfl rfl ?_) | refine op (e_store 4 rfl rfl ts_34 rfl rfl rfl rfl rfl rfl ?_) | refine op (e_store 5 rfl rfl ts_34 rfl rfl rfl rfl rfl rfl ?_) | refine op (e_store 6 rfl rfl ts_34 rfl rfl rfl rfl rfl rfl ?_) | refine op (e_store 7 rfl rfl ts_34 rfl rfl rfl rfl rfl rfl ?_) | refine op (e_store 8 rfl rfl ts_34 rfl rfl rfl rfl rfl rfl ?_) | refine op (e_store 9 rfl rfl ts_34 rfl rfl rfl rfl rfl rfl ?_)
        refine nil ?_
        refine n_then ?_
        refine seq ?_
        refine region ?_
        refine op (y (x_move rfl) rfl ?_)
        refine op (y ((by first | exact x_loadOwn 0 _ ag_34 rfl rfl rfl rfl | exact x_loadOwn 1 _ ag_34 rfl rfl rfl rfl | exact x_loadOwn 2 _ ag_34 rfl rfl rfl rfl | exact x_loadOwn 3 _ ag_34 rfl rfl rfl rfl | exact x_loadOwn 4 _ ag_34 rfl rfl rfl rfl | exact x_loadOwn 5 _ ag_34 rfl rfl rfl rfl | exact x_loadOwn 6 _ ag_34 rfl rfl rfl rfl | exact x_loadOwn 7 _ ag_34 rfl rfl rfl rfl | exact x_loadOwn 8 _ ag_34 rfl rfl rfl rfl | exact x_loadOwn 9 _ ag_34 rfl rfl rfl rfl | exact x_loadOwn 10 _ ag_34 rfl rfl rfl rfl | exact x_loadOwn 11 _ ag_34 rfl rfl rfl rfl)) rfl ?_)
        refine permL _ (perm_yl _ _ _ _) ?_
        refine op (e_call rfl fn_53 rfl rfl (Feed_c yx ya hya h.os k (h.es[k]) (hI.e _ hm) er _ _ (hG.mono hro) hy) fun v34 ro34 L34 hle34 hp34 => ?_)
        obtain ⟨hv34, hcase⟩ := hp34
        refine op (y (x_assign rfl) rfl ?_)
        refine nil ?_
        refine n_then ?_
        refine seq ?_
        refine region ?_
        refine op (y (x_move rfl) rfl ?_)
        refine op (y (x_ifNeNil Tryd.underlying43 rfl (by assumption)) rfl ?_)
        refine nil ?_
        refine n_then ?_
        refine cond rfl (fun h11 => ?_) (fun h11 => ?_)
        · try simp only [decide_eq_true_eq, decide_eq_false_iff_not, beq_iff_eq, bne_iff_ne, ne_eq, beq_eq_false_iff_ne, bne_eq_false_iff_eq, Bool.not_eq_true', Bool.not_eq_false', Bool.not_eq_true, Bool.not_eq_false, Decidable.not_not, Int.not_lt, Int.not_le] at h11
          rcases hcase with ⟨hx, _⟩ | ⟨_, hf, rfl⟩
          · rw [hx] at h11; cases h11
          obtain ⟨tt, uu, rfl⟩ := ifv_some hv34 h11
          refine seq ?_
          refine region ?_
          refine op (y (x_move rfl) rfl ?_)
          refine op (y (x_move rfl) rfl ?_)
          refine op (y (x_build bu_83 rfl rfl) rfl ?_)
          refine op (e_box rfl rfl rfl fun b40 => ?_)
          refine op (y (x_mkI Tryd.underlying81 rfl) rfl ?_)
          refine op (y (x_assign rfl) rfl ?_)
          refine op (y (x_assign rfl) rfl ?_)
          refine nil ?_
          refine n_then ?_
          refine ret ?_
          refine r_in ?_
          refine r_then ?_
          refine r_then ?_
          refine r_in ?_
          refine r_then ?_
          exact done rfl (.tmp rfl (.tmp rfl (.nil))) (hro.trans hle34) (L) (subF (by (repeat (first | exact List.Sublist.refl _ | apply List.Sublist.cons_cons | apply List.Sublist.cons)); done)) (⟨_, _, rfl, IfV.mk _ _, .inr ⟨rfl, by unfold takenM; rw [if_pos hHV]; exact runM_none (k := k + 1) (by rw [runM_snoc hx hr]; exact hf), rfl⟩⟩)
        · try simp only [decide_eq_true_eq, decide_eq_false_iff_not, beq_iff_eq, bne_iff_ne, ne_eq, beq_eq_false_iff_ne, bne_eq_false_iff_eq, Bool.not_eq_true', Bool.not_eq_false', Bool.not_eq_true, Bool.not_eq_false, Decidable.not_not, Int.not_lt, Int.not_le] at h11
          refine skip ?_
          refine n_in ?_
          refine n_then ?_
          rcases hcase.symm with ⟨hx, _⟩ | ⟨_, y2, hya2, hf, hy2, rfl⟩
          · rw [hx] at h11; cases h11
          refine permL _ (perm_yl _ _ _ _).symm ?_
          refine region ?_
          refine op (y (x_add rfl rfl _ (wr (by omega) (by omega))) rfl ?_)
          refine op (y (x_move rfl) rfl ?_)
          refine nil ?_
          refine drop0 ?_
          exact round (h.es.length - (k + 1)) [(1, .pointer (some ⟨b1, 0, none⟩)), (5, .pointer (some ⟨ya, 0, none⟩)), (25, .slice _ h.es.length cB), (26, .int .i64 (h.es.length : Nat)), (27, .int .i64 ((k + 1) : Nat))] (by omega) ⟨rfl, rfl, rfl, rfl, rfl, trivial⟩ ⟨k + 1, y2, rfl, rfl, rfl, by omega, hro.trans hle34, hya2, hy2, by rw [runM_snoc hx hr]; exact hf⟩
      · try simp only [decide_eq_true_eq, decide_eq_false_iff_not, beq_iff_eq, bne_iff_ne, ne_eq, beq_eq_false_iff_ne, bne_eq_false_iff_eq, Bool.not_eq_true', Bool.not_eq_false', Bool.not_eq_true, Bool.not_eq_false, Decidable.not_not, Int.not_lt, Int.not_le] at h8
        refine exit ?_
        refine e_then ?_
        refine e_then ?_
        refine e_in ?_
        refine n_then ?_
        refine seq ?_
        obtain rfl : k = h.es.length := by omega
        rw [List.take_length] at hr
        subst hya
        refine region ?_
        refine op (y (x_move rfl) rfl ?_)
        refine op (y (x_assign rfl) rfl ?_)
        refine op (y (x_assign rfl) rfl ?_)
        refine nil ?_
        refine n_then ?_
        refine ret ?_
        exact done rfl (.tmp rfl (.tmp rfl (.nil))) (hro) (yx.L h.os h.es.length ++ L) (subF ((List.Sublist.refl _).cons _)) (⟨_, _, rfl, IfV.nil, .inl ⟨rfl, yx, by unfold takenM; rw [if_pos hHV]; exact hr, rfl, hy, rfl⟩⟩)

end Go.Proofs.YtijafcilfefafaaDoor
