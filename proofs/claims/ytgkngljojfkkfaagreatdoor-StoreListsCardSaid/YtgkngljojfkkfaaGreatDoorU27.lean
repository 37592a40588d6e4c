/- Interface values, package variables, structs that are compared, more on maps of one's own; two operations that may come in either order. -/
import Derived.Test.YtgkngljojfkkfaaGreatDoorU21
import Derived.LaidEql
import Derived.Laws.StructEq
import Derived.Laws.Cover3
set_option linter.unusedVariables false
set_option linter.unusedSectionVars false
namespace Go.U
open Go

theorem ev_c (a : Act) (v : Value) : a.eval (.const v) = v := rfl
def IfV (v : Value) : Prop := v = .nilIface ∨ ∃ t u, v = .iface t u
def isNilI : Value → Bool
  | .nilIface => true
  | _ => false
theorem IfV.nil : IfV .nilIface := .inl rfl
theorem IfV.mk (t : TypeId) (u : Value) : IfV (.iface t u) := .inr ⟨t, u, rfl⟩
def FnV (v : Value) : Prop := v = .nilFunc ∨ ∃ f as bs, v = .func f as bs
def isNilF : Value → Bool
  | .nilFunc => true
  | _ => false

section
variable {P : Program} {n : Sz} {F : Frm} {ro : Ro} {K : List Blk} {dst : Option Tmp} {ty : TypeId} {pos : String} {aft : Array Edge} {g : Option (Nat × Bool)}

theorem x_mkI {t e : TypeId} {x : Operand} {v : Value} (ht : P.underlying t = some (.pointer e)) (hx : ev F x = some v) : Ex P n F ro K ⟨dst, .makeInterface t x, ty, pos, aft, g⟩ (.iface t v) :=
  fun a w hf _ => by simp [execOp, hf.ev hx, Instr.makeInterface, run_underlying ht]

theorem run_equal_ifNil (w : World) {t : TypeId} {ms : Array (String × TypeId)} {v : Value} (ht : P.underlying t = some (.interface ms)) (hv : IfV v) : (Op.equal t v .nilIface).run P w = .ok (isNilI v) w := by
  have h : ∀ d, (Op.equalIn (d + 1) t v .nilIface).run P w = .ok (isNilI v) w := fun d => by
    rcases hv with rfl | ⟨tp, u, rfl⟩ <;> simp [Op.equalIn, run_underlying ht, isNilI]
  exact h 9999
theorem x_ifEqNil {t t' : TypeId} {ms : Array (String × TypeId)} {x : Operand} {v : Value} (ht : P.underlying t = some (.interface ms)) (hx : ev F x = some v) (hv : IfV v) :
    Ex P n F ro K ⟨dst, .binOp .eql t x (.const .nilIface) t', ty, pos, aft, g⟩ (.bool (isNilI v)) :=
  fun a w hf _ => by
    have h := run_equal_ifNil w ht hv
    rcases hv with rfl | ⟨tp, u, rfl⟩ <;> (simp only [execOp, hf.ev hx, ev_c, eqGuard, binOp]; simp [h])
theorem x_ifNeNil {t t' : TypeId} {ms : Array (String × TypeId)} {x : Operand} {v : Value} (ht : P.underlying t = some (.interface ms)) (hx : ev F x = some v) (hv : IfV v) :
    Ex P n F ro K ⟨dst, .binOp .neq t x (.const .nilIface) t', ty, pos, aft, g⟩ (.bool (!isNilI v)) :=
  fun a w hf _ => by
    have h := run_equal_ifNil w ht hv
    rcases hv with rfl | ⟨tp, u, rfl⟩ <;> (simp only [execOp, hf.ev hx, ev_c, eqGuard, binOp]; simp [h])
/-- one and the same pointer in two interface values -/
theorem x_ifSame {t t' tp te : TypeId} {ms : Array (String × TypeId)} {i j : TypeInfo} {x y : Operand} {ad : Addr} (ht : P.underlying t = some (.interface ms)) (hp : P.underlying tp = some (.pointer te)) (hinfo : P.info? tp = some i) (hcomp : i.comparable = true) (hte : P.info? te = some j)
    (hx : ev F x = some (.iface tp (.pointer (some ad)))) (hy : ev F y = some (.iface tp (.pointer (some ad)))) : Ex P n F ro K ⟨dst, .binOp .eql t x y t', ty, pos, aft, g⟩ (.bool true) :=
  fun a w hf _ => by
    have h := run_eql_iface_ptr_same w ad ht hp hinfo hcomp hte
    simp [execOp, hf.ev hx, hf.ev hy, eqGuard, h]
theorem x_slNil {t t' e : TypeId} {x : Operand} {A : Option Addr} {l c : Nat} (ht : P.underlying t = some (.slice e)) (hx : ev F x = some (.slice A l c)) :
    Ex P n F ro K ⟨dst, .binOp .eql t x (.const (.slice none 0 0)) t', ty, pos, aft, g⟩ (.bool A.isNone) :=
  fun a w hf _ => by
    have h := run_equal_slice_nil w t e A l c ht
    simp only [execOp, hf.ev hx, ev_c, eqGuard, binOp]
    simp [h]
theorem x_fnNil {t t' : TypeId} {p r : Array TypeId} {b : Bool} {x : Operand} {v : Value} (ht : P.underlying t = some (.func p r b)) (hx : ev F x = some v) (hv : FnV v) :
    Ex P n F ro K ⟨dst, .binOp .eql t x (.const .nilFunc) t', ty, pos, aft, g⟩ (.bool (isNilF v)) :=
  fun a w hf _ => by
    have h : ∀ d, (Op.equalIn (d + 1) t v .nilFunc).run P w = .ok (isNilF v) w := fun d => by
      rcases hv with rfl | ⟨f, as, bs, rfl⟩ <;> simp [Op.equalIn, run_underlying ht, isNilF]
    have h2 : (Op.equal t v .nilFunc).run P w = .ok (isNilF v) w := h 9999
    rcases hv with rfl | ⟨f, as, bs, rfl⟩ <;> (simp only [execOp, hf.ev hx, ev_c, eqGuard, binOp]; simp [h2])

def isI64 : Option TypeDesc → Bool
  | some (.int .i64) => true
  | _ => false
theorem isI64_of {o : Option TypeDesc} (h : isI64 o = true) : o = some (.int .i64) := by
  unfold isI64 at h
  split at h
  · rfl
  · cases h
/-- a struct of so many numbers -/
structure IntSt (P : Program) (t : TypeId) (k : Nat) : Prop where
  und : P.underlying t = some (.struct (P.fieldsOf t))
  held : P.stoodInHeld t = false
  guard : P.eqGuardType P.depth t = false
  size : (P.fieldsOf t).size = k
  fld : (P.fieldsOf t).toList.zipIdx.all (fun x => x.1.name != "_" && x.1.offset == x.2 && isI64 (P.underlying x.1.type) && decide ((P.info? x.1.type).isSome)) = true
theorem run_eqFields {w : World} (d : Nat) (as bs : List Int) (hl : as.length = bs.length) : ∀ (fs : List Field) (j : Nat), j + fs.length = as.length → (fs.zipIdx j).all (fun x => x.1.name != "_" && x.1.offset == x.2 && isI64 (P.underlying x.1.type) && decide ((P.info? x.1.type).isSome)) = true →
    (Op.eqFields (d + 1) (as.map (Value.int .i64)).toArray (bs.map (Value.int .i64)).toArray fs).run P w = .ok (decide (as.drop j = bs.drop j)) w
  | [], j, hj, _ => by
    have h1 : as.drop j = [] := List.drop_eq_nil_of_le (by simp at hj; omega)
    have h2 : bs.drop j = [] := List.drop_eq_nil_of_le (by simp at hj; omega)
    simp [Op.eqFields, h1, h2]
  | f :: fs, j, hj, hf => by
    simp only [List.zipIdx_cons, List.all_cons, Bool.and_eq_true, bne_iff_ne, ne_eq, beq_iff_eq, decide_eq_true_eq] at hf
    obtain ⟨⟨⟨⟨h1, h2⟩, h3'⟩, h4⟩, h5⟩ := hf
    have h3 := isI64_of h3'
    have hja : j < as.length := by simp at hj; omega
    have hjb : j < bs.length := by omega
    have ag : (isAgg f.type).run P w = .ok false w := by simp [isAgg, run_underlying h3]
    have pt : ∀ cs : List Int, (h : j < cs.length) → (part f.type (cs.map (Value.int .i64)).toArray f.offset).run P w = .ok (.int .i64 cs[j]) w := fun cs h => by
      simp [part, ag, h2, h]
    have eq : ∀ a b : Int, (Op.equalIn (d + 1) f.type (.int .i64 a) (.int .i64 b)).run P w = .ok (a == b) w := fun a b => run_equalIn_int w d f.type .i64 .i64 a b h3
    have ih := run_eqFields (w := w) d as bs hl fs (j + 1) (by simp at hj ⊢; omega) (by simpa using h5)
    simp only [Op.eqFields, ne_eq, h1, not_false_eq_true, if_true, Sem.run_bind, pt as hja, pt bs hjb, Result.andThen_ok, eq]
    rw [List.drop_eq_getElem_cons hja, List.drop_eq_getElem_cons hjb]
    by_cases he : as[j] = bs[j]
    · simp only [he, beq_self_eq_true, Bool.not_true, Bool.false_eq_true, if_false, ih, List.cons.injEq, true_and]
    · have : (as[j] == bs[j]) = false := by simpa using he
      simp only [this, Bool.not_false, if_true, Sem.run_pure, List.cons.injEq, he, false_and, decide_false]
theorem run_equal_st {w : World} {t : TypeId} {k : Nat} {us ws : List Int} (ht : IntSt P t k) (ha : us.length = k) (hb : ws.length = k) :
    (Op.equalIn 10000 t (.agg (us.map (Value.int .i64)).toArray) (.agg (ws.map (Value.int .i64)).toArray)).run P w = .ok (decide (us = ws)) w := by
  rw [show (10000 : Nat) = 9999 + 1 from rfl, run_equalIn_struct w 9999 t _ _ ht.und ht.held, run_eqFields 9998 us ws (by omega) _ 0 (by have := ht.size; simp [this, ha]) ht.fld]
  simp
theorem x_stEq {t t' : TypeId} {k : Nat} {x y : Operand} {us ws : List Int} (ht : IntSt P t k) (ha : us.length = k) (hb : ws.length = k) (hx : ev F x = some (.agg (us.map (Value.int .i64)).toArray)) (hy : ev F y = some (.agg (ws.map (Value.int .i64)).toArray)) :
    Ex P n F ro K ⟨dst, .binOp .eql t x y t', ty, pos, aft, g⟩ (.bool (decide (us = ws))) :=
  fun a w hf _ => by
    simp only [execOp, hf.ev hx, hf.ev hy, Sem.run_bind, run_eqGuard_agg w _ t x y _ _ ht.guard, Result.andThen_ok, run_eql_struct, run_equal_st ht ha hb, Sem.run_pure]
theorem x_stNe {t t' : TypeId} {k : Nat} {x y : Operand} {us ws : List Int} (ht : IntSt P t k) (ha : us.length = k) (hb : ws.length = k) (hx : ev F x = some (.agg (us.map (Value.int .i64)).toArray)) (hy : ev F y = some (.agg (ws.map (Value.int .i64)).toArray)) :
    Ex P n F ro K ⟨dst, .binOp .neq t x y t', ty, pos, aft, g⟩ (.bool (!decide (us = ws))) :=
  fun a w hf _ => by
    simp only [execOp, hf.ev hx, hf.ev hy, Sem.run_bind, run_eqGuard_agg w _ t x y _ _ ht.guard, Result.andThen_ok, run_neq_struct, run_equal_st ht ha hb, Sem.run_pure]

/-- what is in memory that stays, or owned -/
def HasMap (ro : Ro) (K : List Blk) (r : Nat) (es : Array MapEntry) (clk : Nat) : Prop := ∀ w, J ro K w → w.heap[r]? = some (.map es clk)
theorem HasMap.ofRo {r : Nat} {es : Array MapEntry} {clk : Nat} (h : ro.cells r = some (.map es clk)) : HasMap ro K r es clk := fun w hj => hj.old r _ h
theorem HasMap.own {r : Nat} {es : Array MapEntry} {clk : Nat} (h : (r, Obj.map es clk) ∈ K) : HasMap ro K r es clk := fun w hj => hj.own _ h
theorem x_lookupH {κ : Type} [DecidableEq κ] {enc : κ → Value} {m : List (κ × Value)} {es : Array MapEntry} {clk : Nat} {t kt et : TypeId} {x ix : Operand} {r : Nat} {k : κ} {z v : Value} (ht : P.underlying t = some (.map kt et)) (hk : KEnc P kt enc) (hz : zeroOf P et = some z) (hx : ev F x = some (.map (some r))) (hi : ev F ix = some (enc k))
    (hK : HasMap ro K r es clk) (hE : MapE enc m es clk) (hv : (mget m k).getD z = v) : Ex P n F ro K ⟨dst, .lookup t x ix false, ty, pos, aft, g⟩ v := by
  subst hv
  intro a w hf hj
  have hr := hK w hj
  obtain ⟨i, hi', hz'⟩ := zeroOf_spec hz
  have hgo : (getObj r).run P w = .ok (.map es clk) w := by simp [getObj, Sem.run, hr]
  have hc := hk.check es.isEmpty 9999 k w
  rcases run_findKey hk hE k w with ⟨h1, h2⟩ | ⟨j, v, h1, h2, h3⟩
  · rw [mget_none h2]
    simp [execOp, hf.ev hx, hf.ev hi, Instr.lookup, run_underlying ht, hgo, hc, h1, zeroValue, typeInfo, hi', hz']
  · rw [mget_some h2 h3]
    simp [execOp, hf.ev hx, hf.ev hi, Instr.lookup, run_underlying ht, hgo, hc, h1]
theorem x_lookupH2 {κ : Type} [DecidableEq κ] {enc : κ → Value} {m : List (κ × Value)} {es : Array MapEntry} {clk : Nat} {t kt et : TypeId} {x ix : Operand} {r : Nat} {k : κ} {z v : Value} {b : Bool} (ht : P.underlying t = some (.map kt et)) (hk : KEnc P kt enc) (hz : zeroOf P et = some z) (hx : ev F x = some (.map (some r))) (hi : ev F ix = some (enc k))
    (hK : HasMap ro K r es clk) (hE : MapE enc m es clk) (hv : (mget m k).getD z = v) (hb : (mget m k).isSome = b) : Ex P n F ro K ⟨dst, .lookup t x ix true, ty, pos, aft, g⟩ (.tuple #[v, .bool b]) := by
  subst hv
  subst hb
  intro a w hf hj
  have hr := hK w hj
  obtain ⟨i, hi', hz'⟩ := zeroOf_spec hz
  have hgo : (getObj r).run P w = .ok (.map es clk) w := by simp [getObj, Sem.run, hr]
  have hc := hk.check es.isEmpty 9999 k w
  rcases run_findKey hk hE k w with ⟨h1, h2⟩ | ⟨j, v, h1, h2, h3⟩
  · rw [mget_none h2]
    simp [execOp, hf.ev hx, hf.ev hi, Instr.lookup, run_underlying ht, hgo, hc, h1, zeroValue, typeInfo, hi', hz']
  · rw [mget_some h2 h3]
    simp [execOp, hf.ev hx, hf.ev hi, Instr.lookup, run_underlying ht, hgo, hc, h1]
end

section
variable {κ : Type} [DecidableEq κ] {enc : κ → Value} {m : List (κ × Value)} {es : Array MapEntry} {clk : Nat}
variable {P : Program} {n : Sz} {Q : Exit → Act → World → Prop} {K : Act → World → Prop} {F : Frm} {ro : Ro} {L : List (List Blk)} {ty : TypeId} {pos : String} {aft : Array Edge} {g : Option (Nat × Bool)} {d : Tmp}

theorem e_insert {t kt et : TypeId} {x ix y : Operand} {r : Nat} {k : κ} {v : Value} {L' : Array MapEntry → Nat → List (List Blk)} (i : Nat) (ht : P.underlying t = some (.map kt et)) (hk : KEnc P kt enc) (hx : ev F x = some (.map (some r))) (hi : ev F ix = some (enc k)) (hy : ev F y = some v)
    (hL : L[i]? = some [(r, .map es clk)]) (hE : MapE enc m es clk) (hs : ∀ es' clk', setAt L i [(r, .map es' clk')] = some (L' es' clk'))
    (h : ∀ es' clk', MapE enc (mset m k v) es' clk' → WQ n K F ro (L' es' clk')) : WO P n ⟨none, .insert t x ix y, ty, pos, aft, g⟩ K Q F ro L :=
  fun a w hf hi' => e_mapSet (ty := ty) (pos := pos) (aft := aft) (g := g) (Q := Q) i ht hk hx hi hy hL hE hs h a w hf hi'

def mdel (m : List (κ × Value)) (k : κ) : List (κ × Value) := m.filter fun p => p.1 ≠ k
theorem mget_mdel (k k' : κ) : ∀ m : List (κ × Value), mget (mdel m k) k' = if k = k' then none else mget m k' := by
  intro m
  unfold mdel
  induction m with
  | nil => simp [mget]
  | cons p m ih =>
    rw [List.filter_cons]
    by_cases h1 : p.1 = k
    · simp only [h1, ne_eq, not_true_eq_false, decide_false, Bool.false_eq_true, if_false]
      rw [ih, mget_cons]
      by_cases h2 : k = k'
      · simp [h2]
      · simp [h1, h2]
    · simp only [h1, ne_eq, not_false_eq_true, decide_true, if_true]
      rw [mget_cons, mget_cons, ih]
      by_cases h2 : p.1 = k'
      · have : ¬ k = k' := fun e => h1 (h2.trans e.symm)
        simp [h2, this]
      · simp [h2]
theorem mdel_eraseIdx {j : Nat} {k : κ} {u : Value} (hn : (m.map (·.1)).Nodup) (hj : m[j]? = some (k, u)) : m.eraseIdx j = mdel m k := by
  obtain ⟨hlt, he⟩ := List.getElem?_eq_some_iff.1 hj
  have hsplit : m = m.take j ++ (k, u) :: m.drop (j + 1) := by
    rw [← he, List.getElem_cons_drop, List.take_append_drop]
  rw [List.eraseIdx_eq_take_drop_succ]
  have hn2 := hn
  rw [hsplit, List.map_append, List.map_cons, List.nodup_append] at hn2
  obtain ⟨_, h2, h3⟩ := hn2
  have a1 : ∀ p ∈ m.take j, decide (p.1 ≠ k) = true := fun p hp => by
    have := h3 p.1 (List.mem_map_of_mem hp) k (by simp)
    simpa using this
  have a2 : ∀ p ∈ m.drop (j + 1), decide (p.1 ≠ k) = true := fun p hp => by
    rw [List.nodup_cons] at h2
    simp only [ne_eq, decide_eq_true_eq]
    exact fun e => h2.1 (List.mem_map.2 ⟨p, hp, e⟩)
  unfold mdel
  conv => rhs; rw [hsplit]
  rw [List.filter_append, List.filter_cons, List.filter_eq_self.2 a1, List.filter_eq_self.2 a2]
  simp
theorem mdel_none {k : κ} (h : k ∉ m.map (·.1)) : mdel m k = m := by
  unfold mdel
  rw [List.filter_eq_self]
  intro p hp
  simp only [ne_eq, decide_eq_true_eq]
  exact fun e => h (List.mem_map.2 ⟨p, hp, e⟩)
theorem e_delete {t kt et : TypeId} {x ix : Operand} {tk t3 : TypeId} {r : Nat} {k : κ} {L' : Array MapEntry → List (List Blk)} (i : Nat) (ht : P.underlying t = some (.map kt et)) (hk : KEnc P kt enc) (hx : ev F x = some (.map (some r))) (hi : ev F ix = some (enc k))
    (hL : L[i]? = some [(r, .map es clk)]) (hE : MapE enc m es clk) (hs : ∀ es', setAt L i [(r, .map es' clk)] = some (L' es'))
    (h : ∀ es', MapE enc (mdel m k) es' clk → WQ n K F ro (L' es')) : WO P n ⟨none, .call { callee := .builtin .delete, args := #[x, ix], argTypes := #[t, tk] }, t3, pos, aft, g⟩ K Q F ro L := fun a w hf hii => by
  have hr : w.heap[r]? = some (.map es clk) := hii.own _ (mem_item hL (List.mem_singleton.2 rfl))
  have hgo : (getObj r).run P w = .ok (.map es clk) w := by simp [getObj, Sem.run, hr]
  have hset : ∀ o, (setObj r o).run P w = .ok () { w with heap := w.heap.setIfInBounds r o } := fun o => by simp [setObj, Sem.run, hr]
  have hc := hk.check es.isEmpty 9999 k w
  have key : ∃ es', MapE enc (mdel m k) es' clk ∧ (execOp a.eval ⟨none, .call { callee := .builtin .delete, args := #[x, ix], argTypes := #[t, tk] }, t3, pos, aft, g⟩).run P w = .ok (.value (.tuple #[])) { w with heap := w.heap.setIfInBounds r (.map es' clk) } := by
    rcases run_findKey hk hE k w with ⟨h1, h2⟩ | ⟨j, u, h1, h2, h3⟩
    · refine ⟨es, by rw [mdel_none h2]; exact hE, ?_⟩
      simp [execOp, resolve, invoke, builtin, hf.ev hx, hf.ev hi, Builtin.delete_, run_underlying ht, hgo, hc, h1, hset]
    · refine ⟨es.eraseIdxIfInBounds j, ⟨?_, ?_, ?_, ?_⟩, ?_⟩
      · rw [← mdel_eraseIdx hE.nodup h2]
        have hkv := hE.kv
        have hlt : j < es.size := by have := (List.getElem?_eq_some_iff.1 h2).1; rw [hE.size]; exact this
        have e1 : (es.eraseIdxIfInBounds j).toList = es.toList.eraseIdx j := by simp [Array.eraseIdxIfInBounds, hlt]
        rw [e1]
        have e5 : ∀ (l : List MapEntry) (p : List (κ × Value)) (q : Nat), l.map (fun e => (e.key, e.val)) = p.map (fun p => (enc p.1, p.2)) → (l.eraseIdx q).map (fun e => (e.key, e.val)) = (p.eraseIdx q).map (fun p => (enc p.1, p.2)) := by
          intro l p q hh
          rw [List.eraseIdx_eq_take_drop_succ, List.eraseIdx_eq_take_drop_succ, List.map_append, List.map_append, List.map_take, List.map_take, List.map_drop, List.map_drop, hh]
        exact e5 _ _ j hkv
      · have hlt : j < es.size := by have := (List.getElem?_eq_some_iff.1 h2).1; rw [hE.size]; exact this
        have e1 : (es.eraseIdxIfInBounds j).toList = es.toList.eraseIdx j := by simp [Array.eraseIdxIfInBounds, hlt]
        rw [e1]
        exact List.Pairwise.sublist (List.eraseIdx_sublist _ _) hE.born
      · intro e he
        have hlt : j < es.size := by have := (List.getElem?_eq_some_iff.1 h2).1; rw [hE.size]; exact this
        have e1 : (es.eraseIdxIfInBounds j).toList = es.toList.eraseIdx j := by simp [Array.eraseIdxIfInBounds, hlt]
        rw [e1] at he
        exact hE.lt e ((List.eraseIdx_sublist _ _).subset he)
      · exact List.Nodup.sublist (List.Sublist.map _ List.filter_sublist) hE.nodup
      · simp [execOp, resolve, invoke, builtin, hf.ev hx, hf.ev hi, Builtin.delete_, run_underlying ht, hgo, hc, h1, hset]
  obtain ⟨es', hE', hrun⟩ := key
  simp only [Oper.wp, hrun, Oper.upon, Act.put]
  have hlt : r < w.heap.size := (Array.getElem?_eq_some_iff.1 hr).1
  refine h es' hE' _ _ hf (hii.swap hL (hs es') ⟨rfl, rfl, rfl, by simp⟩ (fun b hne _ => ?_) (fun z hz => ?_) (fun z hz => .inl ⟨_, List.mem_singleton.2 rfl, by rw [List.mem_singleton.1 hz]⟩) (by simp))
  · have : r ≠ b := hne _ (List.mem_singleton.2 rfl)
    simp [this]
  · rw [List.mem_singleton.1 hz]
    simp [hlt]
end
section
variable {P : Program} {n : Sz} {Q : Exit → Act → World → Prop} {F : Frm} {ro : Ro} {L : List (List Blk)}
/-- two operations may come up -/
theorem d_two {ops : Array Oper} {fuel : Nat} {listed : Array Bool} {Kb : List Blk} {ro1 : Ro} (i j : Nat) (hr : Region.ready .any ops listed = [i, j])
    (h1 : ∀ a w, FA n F a → I ro L w → wpOp P ops Q i (fun a' w' => J ro1 Kb w' ∧ wpAnyH P .any ops Q (J ro1 Kb) fuel (listed.setIfInBounds i true) a' w') a w)
    (h2 : ∀ a w, FA n F a → I ro L w → wpOp P ops Q j (fun a' w' => J ro1 Kb w' ∧ wpAnyH P .any ops Q (J ro1 Kb) fuel (listed.setIfInBounds j true) a' w') a w) :
    WQ n (wpAnyH P .any ops Q (J ro1 Kb) (fuel + 1) listed) F ro L := fun a w hfa hii => by
  refine wpAnyH_all hr (by simp) fun k hk => ?_
  rcases List.mem_cons.1 hk with rfl | hk
  · exact h1 a w hfa hii
  · obtain rfl := List.mem_singleton.1 hk
    exact h2 a w hfa hii
theorem d_the {ops : Array Oper} {fuel : Nat} {listed : Array Bool} {Kb : List Blk} {ro1 : Ro} {i : Nat} {o : Oper} (hi : ops[i]? = some o)
    (hw : o.guard = none ∨ ∃ j t b, o.guard = some (j, b) ∧ (ops[j]?).bind (·.dst) = some t ∧ look t F = some (.bool b))
    (h : WO P n o (fun a w => J ro1 Kb w ∧ wpAnyH P .any ops Q (J ro1 Kb) fuel (listed.setIfInBounds i true) a w) Q F ro L) :
    ∀ a w, FA n F a → I ro L w → wpOp P ops Q i (fun a' w' => J ro1 Kb w' ∧ wpAnyH P .any ops Q (J ro1 Kb) fuel (listed.setIfInBounds i true) a' w') a w := fun a w hfa hii => by
  unfold wpOp
  simp only [hi]
  have hwant : Region.wanted o (yielded ops a.tmps) = true := by
    rcases hw with hg | ⟨j, t, b, hg, h1, h2⟩
    · simp [Region.wanted, hg]
    · rw [wanted_of hg h1 hfa h2]; simp
  rw [if_pos hwant]
  exact .inl (h a w hfa hii)
/-- what is owned at the head becomes memory that stays, behind a call -/
theorem CT.freeze {P : Program} {f : FuncId} {args : Array Value} {ro : Ro} {L : List (List Blk)} {Post : Value → Ro → List (List Blk) → Prop} {Post' : Value → Ro → List (List Blk) → Prop} (h : CT P f args ro L Post)
    (hp : ∀ v ro1 L1, ro.le ro1 → Post v ro1 L1 → ∃ R L2, L1 = R :: L2 ∧ ∀ ro2, ro1.le ro2 → (∀ x ∈ R, ro2.cells x.1 = some x.2) → Post' v ro2 L2) : CT P f args ro L Post' := fun w hi => by
  refine (h w hi).mono fun e w' ⟨v, ro1, L1, he, hle, hi1, hpost⟩ => ?_
  obtain ⟨R, L2, rfl, hq⟩ := hp v ro1 L1 hle hpost
  have h2 := ufreeze (n := ⟨0, []⟩) (F := []) (ro := ro1) (L := L2) (R := R) (K := fun _ w => ∃ ro2, ro1.le ro2 ∧ I ro2 L2 w ∧ Post' v ro2 L2) (fun ro2 hle2 hR => fun a w _ hi2 => ⟨ro2, hle2, hi2, hq ro2 hle2 hR⟩)
  obtain ⟨ro2, hle2, hi2, hq2⟩ := h2 ⟨#[], []⟩ w' ⟨rfl, rfl, fun i v h => by simp [look] at h⟩ hi1
  exact ⟨v, ro2, L2, he, hle.trans hle2, hi2, hq2⟩
end
end Go.U
