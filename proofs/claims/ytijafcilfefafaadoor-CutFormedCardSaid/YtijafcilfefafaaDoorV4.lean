/- The walks of histories without a transaction, of some transactions alone; whether one is a part of another. -/
import Derived.Test.YtijafcilfefafaaDoorV3
namespace Go.Proofs.YtijafcilfefafaaDoor
open Go Go.U
set_option maxRecDepth 20000
set_option linter.unusedSimpArgs false
set_option linter.unusedVariables false

/-- what is left of events of which one is met -/
def restF (r : List Ev) (e : Ev) : List Ev := match r with
  | [] => []
  | x :: r' => if x = e then r' else x :: r'
theorem restF_sub : ∀ (l r : List Ev), (l.foldl restF r = []) ↔ r.Sublist l
  | [], r => by simp [List.sublist_nil]
  | e :: l, [] => by
    have h : restF [] e = [] := rfl
    rw [List.foldl_cons, h, restF_sub l []]
    simp
  | e :: l, x :: r => by
    rw [List.foldl_cons, restF_sub l]
    simp only [restF]
    by_cases h : x = e
    · rw [if_pos h, h]
      exact ⟨fun hs => hs.cons_cons e, fun hs => List.Sublist.of_cons_cons hs⟩
    · rw [if_neg h]
      refine ⟨fun hs => hs.cons e, fun hs => ?_⟩
      cases hs with
      | cons _ hs => exact hs
      | cons_cons _ hs => exact absurd rfl h
theorem restF_nil (l : List Ev) : l.foldl restF [] = [] := (restF_sub l []).2 (List.nil_sublist l)
/-- is a history a part of another one? -/
def SubH (a b : Hi) : Prop := a.os = b.os ∧ a.es.Sublist b.es
instance instSubH (a b : Hi) : Decidable (SubH a b) := inferInstanceAs (Decidable (_ ∧ _))
def woT (h : Hi) (tx : Int) : Hi := ⟨h.os, h.es.filter (fun e => decide (e.tx ≠ tx))⟩
def onT (h : Hi) (q : Int → Bool) : Hi := ⟨h.os, h.es.filter (fun e => q e.tx)⟩
theorem kp_w (h : Hi) (tx : Int) : (⟨h.os, kp (fun _ e => decide (e.tx ≠ tx)) h.es⟩ : Hi) = woT h tx := by rw [kp_filter]; rfl
theorem kp_o (h : Hi) (q : Int → Bool) : (⟨h.os, kp (fun _ e => q e.tx) h.es⟩ : Hi) = onT h q := by rw [kp_filter (fun e => q e.tx)]; rfl

theorem perm_x {α : Type} (Lx K1 L0 : List α) (B : α) : (Lx ++ (B :: (K1 ++ L0))).Perm (B :: (K1 ++ (Lx ++ L0))) := by
  refine List.perm_middle.trans (List.Perm.cons _ ?_)
  rw [← List.append_assoc, ← List.append_assoc]
  exact List.perm_append_comm.append_right _

theorem Without1_c (i : Nat) (e : Ev) (tx : Int) (b : Nat) (ro : Ro) (L : List (List Blk)) (hK : (b, Obj.cells [Value.int .i64 tx].toArray 3 (0, 0)) ∈ L.flatten) :
    CT Tryd.prog 39 [.int .i64 (i : Nat), .agg (encEv e).toArray, .pointer (some ⟨b, 0, none⟩)].toArray ro L (fun v _ L' => v = .bool (decide (e.tx ≠ tx)) ∧ L' = L) := by
  refine enter Tryd.func39 rfl Tryd.ntmps39 rfl ?_
  refine seq ?_
  refine region ?_
  refine op (e_box rfl rfl rfl fun b4 => ?_)
  refine op (y (x_assign rfl) rfl ?_)
  refine nil ?_
  refine n_then ?_
  refine seq ?_
  refine region ?_
  refine op (y (x_fieldAddr fo_34_1 rfl) rfl ?_)
  refine op (y (x_load1 ag_3 rfl (by first | assumption | exact Cell.own 0 rfl rfl | exact Cell.own 1 rfl rfl | exact Cell.own 2 rfl rfl | exact Cell.own 3 rfl rfl | exact Cell.own 4 rfl rfl | exact Cell.own 5 rfl rfl | exact Cell.own 6 rfl rfl | exact Cell.own 7 rfl rfl | exact Cell.own 8 rfl rfl | exact Cell.own 9 rfl rfl | exact Cell.ofRo (by assumption))) rfl ?_)
  refine op (y (x_load1 ag_3 rfl (Cell.blk (mem1 hK) rfl)) rfl ?_)
  refine op (y (x_neq rfl rfl) rfl ?_)
  refine op (y (x_assign rfl) rfl ?_)
  refine nil ?_
  refine n_then ?_
  refine ret ?_
  exact done rfl (.tmp rfl (.nil)) (Ro.le.refl _) (L) (subF (by (repeat (first | exact List.Sublist.refl _ | apply List.Sublist.cons_cons | apply List.Sublist.cons)); done)) (⟨by simp [tupled, bne, beq_dec], rfl⟩)

theorem Without_o (h : Hi) (A : Option Addr) (cA : Nat) (B : Option Addr) (cB : Nat) (ro : Ro) (L : List (List Blk)) (hh : SH ro A cA B cB h) (tx : Int) (hn1 : h.os.length ≤ 100) (hn2 : h.es.length ≤ 600) :
    CT Tryd.prog 15 [.agg [.slice A h.os.length cA, .slice B h.es.length cB].toArray, .int .i64 tx].toArray ro L (PHo (woT h tx) L) := by
  refine enter Tryd.func15 rfl Tryd.ntmps15 rfl ?_
  refine seq ?_
  refine region ?_
  refine op (e_box rfl rfl rfl fun b2 => ?_)
  refine op (e_box rfl rfl rfl fun b3 => ?_)
  refine op (e_alloc rfl zc_25 rfl fun b4 => ?_)
  refine nil ?_
  refine n_then ?_
  refine seq ?_
  refine region ?_
  refine op (y ((by first | exact x_loadOwn 0 _ ag_25 rfl rfl rfl rfl | exact x_loadOwn 1 _ ag_25 rfl rfl rfl rfl | exact x_loadOwn 2 _ ag_25 rfl rfl rfl rfl | exact x_loadOwn 3 _ ag_25 rfl rfl rfl rfl | exact x_loadOwn 4 _ ag_25 rfl rfl rfl rfl | exact x_loadOwn 5 _ ag_25 rfl rfl rfl rfl | exact x_loadOwn 6 _ ag_25 rfl rfl rfl rfl | exact x_loadOwn 7 _ ag_25 rfl rfl rfl rfl | exact x_loadOwn 8 _ ag_25 rfl rfl rfl rfl | exact x_loadOwn 9 _ ag_25 rfl rfl rfl rfl | exact x_loadOwn 10 _ ag_25 rfl rfl rfl rfl | exact x_loadOwn 11 _ ag_25 rfl rfl rfl rfl)) rfl ?_)
  refine op (y (x_makeFunc rfl rfl) rfl ?_)
  refine op (e_call rfl fn_38 rfl rfl (kept_c h A cA B cB _ _ hh hn1 hn2 39 [.pointer (some ⟨b3, 0, none⟩)] fn_39 (fun _ e => decide (e.tx ≠ tx)) (fun _ Lx => Lx = [(b4, .cells [Value.slice none 0 0, Value.slice none 0 0].toArray 25 (0, 0))] :: [(b3, .cells [Value.int .i64 tx].toArray 3 (0, 0))] :: [(b2, .cells [Value.slice A h.os.length cA, Value.slice B h.es.length cB].toArray 25 (0, 0))] :: L) (fun i e Lx L0 ro' _ _ hL => (Without1_c i e tx b3 ro' (Lx ++ L0) (by rw [hL]; simp)).mono fun v ro2 L2 _ hp => ⟨hp.1, Lx, hL, hp.2⟩) rfl) fun v7 ro7 L7 hle7 hp7 => ?_)
  obtain ⟨A5, c5, B5, c6, R1, R2, Lx, hv7, hO1, hO2, hLx, rfl⟩ := hp7
  rw [kp_w] at hv7 hO2
  subst hv7
  subst hLx
  first | refine op (e_store 0 rfl rfl ts_25 rfl rfl rfl rfl rfl rfl ?_) | refine op (e_store 1 rfl rfl ts_25 rfl rfl rfl rfl rfl rfl ?_) | refine op (e_store 2 rfl rfl ts_25 rfl rfl rfl rfl rfl rfl ?_) | refine op (e_store 3 rfl rfl ts_25 rfl rfl rfl rfl rfl rfl ?_) | refine op (e_store 4 rfl rfl ts_25 rfl rfl rfl rfl rfl rfl ?_) | refine op (e_store 5 rfl rfl ts_25 rfl rfl rfl rfl rfl rfl ?_) | refine op (e_store 6 rfl rfl ts_25 rfl rfl rfl rfl rfl rfl ?_) | refine op (e_store 7 rfl rfl ts_25 rfl rfl rfl rfl rfl rfl ?_) | refine op (e_store 8 rfl rfl ts_25 rfl rfl rfl rfl rfl rfl ?_) | refine op (e_store 9 rfl rfl ts_25 rfl rfl rfl rfl rfl rfl ?_)
  refine nil ?_
  refine n_then ?_
  refine ret ?_
  exact done rfl (Res.cellN ag_25 rfl rfl (CellsAt.own 2 0 2 _ rfl rfl) (.nil)) (hle7) (R1 :: R2 :: L) (subF (by (repeat (first | exact List.Sublist.refl _ | apply List.Sublist.cons_cons | apply List.Sublist.cons)); done)) (⟨A5, c5, B5, c6, R1, R2, rfl, hO1, hO2, rfl⟩)

/-- what is asked of the function that tells which transactions are kept -/
def Tells (k : FuncId) (caps : List Value) (q : Int → Bool) (es : List Ev) (ro : Ro) (St : Nat → List (List Blk) → Prop) : Prop :=
  ∀ (i : Nat) (e : Ev) (Lx L0 : List (List Blk)) (ro' : Ro), ro.le ro' → es[i]? = some e → St i Lx → CT Tryd.prog k ([Value.int .i64 e.tx] ++ caps).toArray ro' (Lx ++ L0) (fun v ro'' L'' => v = .bool (q e.tx) ∧ ∃ Lx', St (i + 1) Lx' ∧ L'' = Lx' ++ L0)

theorem Only1_c (i : Nat) (e : Ev) (es : List Ev) (he : es[i]? = some e) (fk : FuncId) (caps : List Value) (hfn : Fun Tryd.prog fk) (q : Int → Bool) (St : Nat → List (List Blk) → Prop) (b : Nat) (ro0 ro : Ro) (hro : ro0.le ro) (hq : Tells fk caps q es ro0 St) (K1 Lx L0 : List (List Blk)) (hst : St i Lx)
    (hK : (b, Obj.cells [Value.func (.func fk) #[] caps.toArray].toArray 38 (0, 0)) ∈ K1.flatten) :
    CT Tryd.prog 40 [.int .i64 (i : Nat), .agg (encEv e).toArray, .pointer (some ⟨b, 0, none⟩)].toArray ro (K1 ++ (Lx ++ L0)) (fun v _ L' => v = .bool (q e.tx) ∧ ∃ Lx', St (i + 1) Lx' ∧ L' = K1 ++ (Lx' ++ L0)) := by
  refine enter Tryd.func40 rfl Tryd.ntmps40 rfl ?_
  refine seq ?_
  refine region ?_
  refine op (e_box rfl rfl rfl fun b4 => ?_)
  refine op (y (x_assign rfl) rfl ?_)
  refine nil ?_
  refine n_then ?_
  refine seq ?_
  refine region ?_
  refine op (y (x_load1 ag_38 rfl (Cell.blk (mem1 (by rw [List.flatten_append]; exact List.mem_append_left _ hK)) rfl)) rfl ?_)
  refine op (y (x_fieldAddr fo_34_1 rfl) rfl ?_)
  refine op (y (x_load1 ag_3 rfl (by first | assumption | exact Cell.own 0 rfl rfl | exact Cell.own 1 rfl rfl | exact Cell.own 2 rfl rfl | exact Cell.own 3 rfl rfl | exact Cell.own 4 rfl rfl | exact Cell.own 5 rfl rfl | exact Cell.own 6 rfl rfl | exact Cell.own 7 rfl rfl | exact Cell.own 8 rfl rfl | exact Cell.own 9 rfl rfl | exact Cell.ofRo (by assumption))) rfl ?_)
  refine permL _ (perm_x Lx K1 L0 _) ?_
  refine op (e_call rfl (hfn) rfl rfl (hq i e Lx _ _ hro he hst) fun v9 ro9 L9 hle9 hp9 => ?_)
  obtain ⟨rfl, Lx', hst', rfl⟩ := hp9
  refine permL _ (perm_x Lx' K1 L0 _).symm ?_
  refine op (y (x_assign rfl) rfl ?_)
  refine nil ?_
  refine n_then ?_
  refine ret ?_
  exact done rfl (.tmp rfl (.nil)) (hle9) (K1 ++ (Lx' ++ L0)) (subF (by (repeat (first | exact List.Sublist.refl _ | apply List.Sublist.cons_cons | apply List.Sublist.cons)); done)) (⟨rfl, _, hst', rfl⟩)

theorem Only_c (h : Hi) (A : Option Addr) (cA : Nat) (B : Option Addr) (cB : Nat) (ro : Ro) (L : List (List Blk)) (hh : SH ro A cA B cB h) (hn1 : h.os.length ≤ 100) (hn2 : h.es.length ≤ 600) (fk : FuncId) (caps : List Value) (hfn : Fun Tryd.prog fk) (q : Int → Bool) (St : Nat → List (List Blk) → Prop) (hq : Tells fk caps q h.es ro St) (h0 : St 0 L) :
    CT Tryd.prog 17 [.agg [.slice A h.os.length cA, .slice B h.es.length cB].toArray, .func (.func fk) #[] caps.toArray].toArray ro L (PHk (onT h q) (St h.es.length)) := by
  refine enter Tryd.func17 rfl Tryd.ntmps17 rfl ?_
  refine seq ?_
  refine region ?_
  refine op (e_box rfl rfl rfl fun b2 => ?_)
  refine op (e_box rfl rfl rfl fun b3 => ?_)
  refine op (e_alloc rfl zc_25 rfl fun b4 => ?_)
  refine nil ?_
  refine n_then ?_
  refine seq ?_
  refine region ?_
  refine op (y ((by first | exact x_loadOwn 0 _ ag_25 rfl rfl rfl rfl | exact x_loadOwn 1 _ ag_25 rfl rfl rfl rfl | exact x_loadOwn 2 _ ag_25 rfl rfl rfl rfl | exact x_loadOwn 3 _ ag_25 rfl rfl rfl rfl | exact x_loadOwn 4 _ ag_25 rfl rfl rfl rfl | exact x_loadOwn 5 _ ag_25 rfl rfl rfl rfl | exact x_loadOwn 6 _ ag_25 rfl rfl rfl rfl | exact x_loadOwn 7 _ ag_25 rfl rfl rfl rfl | exact x_loadOwn 8 _ ag_25 rfl rfl rfl rfl | exact x_loadOwn 9 _ ag_25 rfl rfl rfl rfl | exact x_loadOwn 10 _ ag_25 rfl rfl rfl rfl | exact x_loadOwn 11 _ ag_25 rfl rfl rfl rfl)) rfl ?_)
  refine op (y (x_makeFunc rfl rfl) rfl ?_)
  refine op (e_call rfl fn_38 rfl rfl (kept_c h A cA B cB _ _ hh hn1 hn2 40 [.pointer (some ⟨b3, 0, none⟩)] fn_40 (fun _ e => q e.tx) (fun j Lz => ∃ Lx, St j Lx ∧ Lz = [[(b4, Obj.cells [Value.slice none 0 0, Value.slice none 0 0].toArray 25 (0, 0))], [(b3, Obj.cells [Value.func (.func fk) #[] caps.toArray].toArray 38 (0, 0))], [(b2, Obj.cells [Value.slice A h.os.length cA, Value.slice B h.es.length cB].toArray 25 (0, 0))]] ++ Lx) (fun i e Lz L0 ro' hro he hL => by obtain ⟨Lx, hst, rfl⟩ := hL; rw [List.append_assoc]; exact (Only1_c i e h.es he fk caps hfn q St b3 ro ro' hro hq [[(b4, Obj.cells [Value.slice none 0 0, Value.slice none 0 0].toArray 25 (0, 0))], [(b3, Obj.cells [Value.func (.func fk) #[] caps.toArray].toArray 38 (0, 0))], [(b2, Obj.cells [Value.slice A h.os.length cA, Value.slice B h.es.length cB].toArray 25 (0, 0))]] Lx L0 hst (by simp)).mono fun v ro2 L2 _ hp => ⟨hp.1, by obtain ⟨Lx', h1, rfl⟩ := hp.2; exact ⟨_, ⟨Lx', h1, rfl⟩, by rw [List.append_assoc]⟩⟩) ⟨L, h0, rfl⟩) fun v7 ro7 L7 hle7 hp7 => ?_)
  obtain ⟨A5, c5, B5, c6, R1, R2, Lz, hv7, hO1, hO2, ⟨Lx, hst, rfl⟩, rfl⟩ := hp7
  rw [kp_o] at hv7 hO2
  subst hv7
  first | refine op (e_store 0 rfl rfl ts_25 rfl rfl rfl rfl rfl rfl ?_) | refine op (e_store 1 rfl rfl ts_25 rfl rfl rfl rfl rfl rfl ?_) | refine op (e_store 2 rfl rfl ts_25 rfl rfl rfl rfl rfl rfl ?_) | refine op (e_store 3 rfl rfl ts_25 rfl rfl rfl rfl rfl rfl ?_) | refine op (e_store 4 rfl rfl ts_25 rfl rfl rfl rfl rfl rfl ?_) | refine op (e_store 5 rfl rfl ts_25 rfl rfl rfl rfl rfl rfl ?_) | refine op (e_store 6 rfl rfl ts_25 rfl rfl rfl rfl rfl rfl ?_) | refine op (e_store 7 rfl rfl ts_25 rfl rfl rfl rfl rfl rfl ?_) | refine op (e_store 8 rfl rfl ts_25 rfl rfl rfl rfl rfl rfl ?_) | refine op (e_store 9 rfl rfl ts_25 rfl rfl rfl rfl rfl rfl ?_)
  refine nil ?_
  refine n_then ?_
  refine ret ?_
  exact done rfl (Res.cellN ag_25 rfl rfl (CellsAt.own 2 0 2 _ rfl rfl) (.nil)) (hle7) (R1 :: R2 :: Lx) (subF (by (repeat (first | exact List.Sublist.refl _ | apply List.Sublist.cons_cons | apply List.Sublist.cons)); done)) (⟨A5, c5, B5, c6, R1, R2, Lx, rfl, hO1, hO2, hst, rfl⟩)

end Go.Proofs.YtijafcilfefafaaDoor
