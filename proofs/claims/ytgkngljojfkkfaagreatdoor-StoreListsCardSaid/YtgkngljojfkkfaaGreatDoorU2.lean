/- Operations that read memory. -/
import Derived.Test.YtgkngljojfkkfaaGreatDoorU1
import Derived.Laws.Cells
import Derived.Laws.Rows
namespace Go.U
open Go

/-- what a type's variables are: of one cell, or of so many -/
def tyAgg (P : Program) (t : TypeId) : Option (Option Nat) :=
  match P.underlying t, P.info? t with
  | some (.struct _), some i => some (some i.size)
  | some (.array _ _), some i => some (some i.size)
  | some (.struct _), none => none
  | some (.array _ _), none => none
  | some _, _ => some none
  | none, _ => none

/-- the place of a field -/
def fldOff (P : Program) (s : TypeId) (i : Nat) : Option Nat :=
  match P.underlying s with
  | some (.struct fs) => match fs[i]? with
    | some f => match P.info? f.type with
      | some j => if j.size = 0 then none else some f.offset
      | none => none
    | none => none
  | _ => none

/-- a slice type's element's cells -/
def slSize (P : Program) (t : TypeId) : Option Nat :=
  match P.underlying t with
  | some (.slice e) => (P.info? e).map (·.size)
  | _ => none

/-- an array type's length, its element's cells -/
def arSize (P : Program) (t : TypeId) : Option (Nat × Nat) :=
  match P.underlying t with
  | some (.array n e) => (P.info? e).map fun i => (n, i.size)
  | _ => none

theorem add_lit (b off n : Nat) : (⟨b, off, none⟩ : Addr).add n = ⟨b, off + n, none⟩ := by
  unfold Addr.add
  split
  · rename_i h
    subst h
    rfl
  · rfl

def Cell (ro : Ro) (K : List Blk) (b off : Nat) (v : Value) : Prop := ∀ w, J ro K w → w.cell? ⟨b, off, none⟩ = some v
def CellsAt (ro : Ro) (K : List Blk) (b off : Nat) (vs : List Value) : Prop := ∀ j v, vs[j]? = some v → Cell ro K b (off + j) v

section
variable {P : Program} {n : Sz} {F : Frm} {ro : Ro} {K : List Blk} {L : List (List Blk)} {dst : Option Tmp} {ty : TypeId} {pos : String} {aft : Array Edge} {g : Option (Nat × Bool)}

theorem mem_item {i : Nat} {R : List Blk} {x : Blk} (hL : L[i]? = some R) (hx : x ∈ R) : x ∈ L.flatten :=
  List.mem_flatten.2 ⟨R, List.mem_of_getElem? hL, hx⟩

theorem Cell.ofRo {b off : Nat} {v : Value} (h : ro.cell b off = some v) : Cell ro K b off v := fun w hj => by
  unfold Ro.cell at h
  split at h
  · rename_i c t f he
    have := hj.old b _ he
    simp [World.cell?, this, h]
  · cases h
theorem Cell.blk {b off : Nat} {cs : Array Value} {t : TypeId} {fz : Nat × Nat} {v : Value} (hm : (b, Obj.cells cs t fz) ∈ K) (hv : cs[off]? = some v) : Cell ro K b off v := fun w hj => by
  have := hj.own _ hm
  simp only at this
  simp [World.cell?, this, hv]
theorem Cell.own (i : Nat) {b off : Nat} {cs : Array Value} {t : TypeId} {fz : Nat × Nat} {v : Value} (hL : L[i]? = some [(b, Obj.cells cs t fz)]) (hv : cs[off]? = some v) : Cell ro L.flatten b off v :=
  Cell.blk (mem_item hL (List.mem_singleton.2 rfl)) hv
theorem CellsAt.own (i : Nat) {b : Nat} {cs : Array Value} {t : TypeId} {fz : Nat × Nat} (off k : Nat) (vs : List Value) (hL : L[i]? = some [(b, Obj.cells cs t fz)]) (hv : (cs.toList.drop off).take k = vs) : CellsAt ro L.flatten b off vs := by
  intro j v hj
  refine Cell.own i hL ?_
  rw [← hv, List.getElem?_take] at hj
  split at hj
  · rw [List.getElem?_drop] at hj
    simpa using hj
  · cases hj

theorem run_isAgg (w : World) {t : TypeId} {o : Option Nat} (h : tyAgg P t = some o) : (isAgg t).run P w = .ok o.isSome w := by
  unfold tyAgg at h
  unfold isAgg
  cases hu : P.underlying t with
  | none => simp [hu] at h
  | some d =>
    rw [Sem.run_bind, run_underlying hu w]
    cases hi : P.info? t <;> cases d <;> simp [hu, hi] at h <;> subst h <;> simp

theorem run_loadVar1 {w : World} {t : TypeId} (ht : tyAgg P t = some none) {a : Addr} {v : Value} (hc : w.cell? a = some v) : (loadVar t a).run P w = .ok v w := by
  simp [loadVar, run_isAgg w ht, load, Sem.run, hc]
theorem run_loadVarN {w : World} {t : TypeId} {k : Nat} (ht : tyAgg P t = some (some k)) {b off : Nat} {vs : List Value} (hk : vs.length = k) (hc : ∀ j v, vs[j]? = some v → w.cell? ⟨b, off + j, none⟩ = some v) :
    (loadVar t ⟨b, off, none⟩).run P w = .ok (.agg vs.toArray) w := by
  have hs : (sizeOf t).run P w = .ok k w := by
    unfold tyAgg at ht
    cases hi : P.info? t with
    | none => cases hu : P.underlying t with
      | none => simp [hu] at ht
      | some d => cases d <;> simp [hu, hi] at ht
    | some i => cases hu : P.underlying t with
      | none => simp [hu] at ht
      | some d => cases d <;> simp [hu, hi] at ht <;> simp [sizeOf, typeInfo, hi, ht]
  have hl := run_loadCells_list (P := P) w ⟨b, off, none⟩ vs (fun j v hv => by rw [add_lit]; exact hc j v hv)
  rw [hk] at hl
  simp [loadVar, run_isAgg w ht, hs, hl]

theorem x_load1 {t : TypeId} {x : Operand} {b off : Nat} {v : Value} (ht : tyAgg P t = some none) (hx : ev F x = some (.pointer (some ⟨b, off, none⟩))) (hc : Cell ro K b off v) :
    Ex P n F ro K ⟨dst, .load t x, ty, pos, aft, g⟩ v :=
  fun a w hf hj => by simp [execOp, hf.ev hx, Instr.loadAt, Instr.sureAddr, run_loadVar1 ht (hc w hj)]
theorem x_loadN {t : TypeId} {x : Operand} {b off k : Nat} {vs : List Value} (ht : tyAgg P t = some (some k)) (hx : ev F x = some (.pointer (some ⟨b, off, none⟩))) (hk : vs.length = k) (hc : CellsAt ro K b off vs) :
    Ex P n F ro K ⟨dst, .load t x, ty, pos, aft, g⟩ (.agg vs.toArray) :=
  fun a w hf hj => by simp [execOp, hf.ev hx, Instr.loadAt, Instr.sureAddr, run_loadVarN ht hk (fun j v hv => hc j v hv w hj)]

theorem x_fieldAddr {s : TypeId} {x : Operand} {i o b off : Nat} (ht : fldOff P s i = some o) (hx : ev F x = some (.pointer (some ⟨b, off, none⟩))) :
    Ex P n F ro K ⟨dst, .fieldAddr s x i, ty, pos, aft, g⟩ (.pointer (some ⟨b, off + o, none⟩)) := by
  intro a w hf _
  unfold fldOff at ht
  split at ht
  · rename_i fs hu
    split at ht
    · rename_i f hfi
      split at ht
      · rename_i j hj
        split at ht
        · cases ht
        · rename_i hz
          simp only [Option.some.injEq] at ht
          subst ht
          have hso : (sizeOf f.type).run P w = .ok j.size w := by simp [sizeOf, typeInfo, hj]
          have hrun : (fieldPlace ⟨b, off, none⟩ f).run P w = .ok ⟨b, off + f.offset, none⟩ w := by
            unfold fieldPlace
            rw [Sem.run_bind, hso, Result.andThen_ok, if_neg hz, add_lit]
            rfl
          simp [execOp, hf.ev hx, Instr.fieldAt, run_underlying hu, hfi, Instr.sureAddr, hrun]
      · cases ht
    · cases ht
  · cases ht

theorem slSize_spec {t : TypeId} {k : Nat} (h : slSize P t = some k) : ∃ e i, P.underlying t = some (.slice e) ∧ P.info? e = some i ∧ i.size = k := by
  unfold slSize at h
  split at h
  · rename_i e hu
    cases hi : P.info? e with
    | none => simp [hi] at h
    | some i => exact ⟨e, i, hu, hi, by simpa [hi] using h⟩
  · cases h

theorem x_indexAddr {t : TypeId} {x ix : Operand} {k b off len cap : Nat} {kk : IntKind} {i : Int} (ht : slSize P t = some k) (hx : ev F x = some (.slice (some ⟨b, off, none⟩) len cap)) (hi : ev F ix = some (.int kk i))
    (h0 : 0 ≤ i) (h1 : i < len) (off' : Nat) (ho : off + i.toNat * k = off') : Ex P n F ro K ⟨dst, .indexAddr t x ix, ty, pos, aft, g⟩ (.pointer (some ⟨b, off', none⟩)) := by
  subst ho
  obtain ⟨e, i', hu, hi', rfl⟩ := slSize_spec ht
  intro a w hf _
  simp [execOp, hf.ev hx, hf.ev hi, Instr.indexAt, asIntOf, run_underlying hu, h0, h1, sizeOf, typeInfo, hi', add_lit]

theorem arSize_spec {t : TypeId} {m k : Nat} (h : arSize P t = some (m, k)) : ∃ e i, P.underlying t = some (.array m e) ∧ P.info? e = some i ∧ i.size = k := by
  unfold arSize at h
  split at h
  · rename_i m' e hu
    cases hi : P.info? e with
    | none => simp [hi] at h
    | some i =>
      simp [hi] at h
      exact ⟨e, i, by rw [hu, h.1], hi, h.2⟩
  · cases h

theorem x_indexArr {t : TypeId} {x ix : Operand} {m k b off : Nat} {kk : IntKind} {i : Int} (ht : arSize P t = some (m, k)) (hx : ev F x = some (.pointer (some ⟨b, off, none⟩))) (hi : ev F ix = some (.int kk i))
    (h0 : 0 ≤ i) (h1 : i < m) (off' : Nat) (ho : off + i.toNat * k = off') : Ex P n F ro K ⟨dst, .indexAddr t x ix, ty, pos, aft, g⟩ (.pointer (some ⟨b, off', none⟩)) := by
  subst ho
  obtain ⟨e, i', hu, hi', rfl⟩ := arSize_spec ht
  intro a w hf _
  simp [execOp, hf.ev hx, hf.ev hi, Instr.indexAt, Instr.sureAddr, asIntOf, run_underlying hu, h0, h1, sizeOf, typeInfo, hi', add_lit]

/-- a field of a struct's value -/
theorem x_field1 {t : TypeId} {x : Operand} {fs : Array Field} {f : Field} {cs : Array Value} {i : Nat} {v : Value} (ht : P.underlying t = some (.struct fs)) (hfi : fs[i]? = some f) (ha : tyAgg P f.type = some none) (hx : ev F x = some (.agg cs)) (hv : cs[f.offset]? = some v) :
    Ex P n F ro K ⟨dst, .field t x i, ty, pos, aft, g⟩ v :=
  fun a w hf _ => by simp [execOp, hf.ev hx, Instr.field, run_underlying ht, hfi, asAgg, part, run_isAgg w ha, hv]

/-- len -/
theorem x_lenSl {t t2 : TypeId} {x : Operand} {A : Option Addr} {len cap k : Nat} (ht : slSize P t = some k) (hx : ev F x = some (.slice A len cap)) :
    Ex P n F ro K ⟨dst, .call { callee := .builtin .len, args := #[x], argTypes := #[t] }, t2, pos, aft, g⟩ (.int .i64 len) := by
  obtain ⟨e, i', hu, hi', rfl⟩ := slSize_spec ht
  intro a w hf _
  simp [execOp, resolve, invoke, builtin, hf.ev hx, Builtin.len_, run_underlying hu, goInt]
theorem x_lenStr {t t2 : TypeId} {x : Operand} {s : ByteArray} (ht : P.underlying t = some .string) (hx : ev F x = some (.string s)) :
    Ex P n F ro K ⟨dst, .call { callee := .builtin .len, args := #[x], argTypes := #[t] }, t2, pos, aft, g⟩ (.int .i64 s.size) := by
  intro a w hf _
  simp [execOp, resolve, invoke, builtin, hf.ev hx, Builtin.len_, run_underlying ht, goInt]
theorem x_lenMap {t t2 kt et : TypeId} {x : Operand} {r : Nat} {es : Array MapEntry} {clk : Nat} (ht : P.underlying t = some (.map kt et)) (hx : ev F x = some (.map (some r))) (hK : (r, Obj.map es clk) ∈ K) :
    Ex P n F ro K ⟨dst, .call { callee := .builtin .len, args := #[x], argTypes := #[t] }, t2, pos, aft, g⟩ (.int .i64 es.size) := by
  intro a w hf hj
  have := hj.own _ hK
  simp only at this
  simp [execOp, resolve, invoke, builtin, hf.ev hx, Builtin.len_, run_underlying ht, goInt, getObj, Sem.run, this]
theorem x_lenNil {t t2 kt et : TypeId} {x : Operand} (ht : P.underlying t = some (.map kt et)) (hx : ev F x = some (.map none)) :
    Ex P n F ro K ⟨dst, .call { callee := .builtin .len, args := #[x], argTypes := #[t] }, t2, pos, aft, g⟩ (.int .i64 0) := by
  intro a w hf hj
  simp [execOp, resolve, invoke, builtin, hf.ev hx, Builtin.len_, run_underlying ht, goInt]

theorem x_min {t1 t2 t3 : TypeId} {x y : Operand} {k : IntKind} {i j : Int} (hx : ev F x = some (.int k i)) (hy : ev F y = some (.int k j)) (m : Int) (hm : (if j < i then j else i) = m) :
    Ex P n F ro K ⟨dst, .call { callee := .builtin .min, args := #[x, y], argTypes := #[t1, t2] }, t3, pos, aft, g⟩ (.int k m) := by
  subst hm
  intro a w hf hj
  simp [execOp, resolve, invoke, builtin, hf.ev hx, hf.ev hy, Builtin.min_, Builtin.min2]
theorem x_max {t1 t2 t3 : TypeId} {x y : Operand} {k : IntKind} {i j : Int} (hx : ev F x = some (.int k i)) (hy : ev F y = some (.int k j)) (m : Int) (hm : (if i < j then j else i) = m) :
    Ex P n F ro K ⟨dst, .call { callee := .builtin .max, args := #[x, y], argTypes := #[t1, t2] }, t3, pos, aft, g⟩ (.int k m) := by
  subst hm
  intro a w hf hj
  simp [execOp, resolve, invoke, builtin, hf.ev hx, hf.ev hy, Builtin.max_, Builtin.max2]

/-- a slice's part -/
def cutA (A : Option Addr) (cap l k : Nat) : Option Addr := if cap = l then A else A.map (·.add (l * k))

theorem x_slice {t : TypeId} {x lo hi : Operand} {A : Option Addr} {len cap k : Nat} {k1 k2 : IntKind} {i j : Int} (ht : slSize P t = some k) (hx : ev F x = some (.slice A len cap)) (hl : ev F lo = some (.int k1 i)) (hh : ev F hi = some (.int k2 j))
    (h0 : 0 ≤ i) (h1 : i ≤ j) (h2 : j ≤ cap) : Ex P n F ro K ⟨dst, .slice t x (some lo) (some hi) none, ty, pos, aft, g⟩ (.slice (cutA A cap i.toNat k) (j.toNat - i.toNat) (cap - i.toNat)) := by
  obtain ⟨e, i', hu, hi', rfl⟩ := slSize_spec ht
  intro a w hf _
  obtain ⟨p, rfl⟩ := Int.eq_ofNat_of_zero_le h0
  obtain ⟨q, rfl⟩ := Int.eq_ofNat_of_zero_le (show 0 ≤ j by omega)
  have h5 : p ≤ q := by omega
  have h6 : q ≤ cap := by omega
  simp [execOp, hf.ev hx, hf.ev hl, hf.ev hh, Instr.sliceAt, Instr.slice, run_underlying hu, Instr.sliceBounds, Instr.sliceBound, asIntOf, h5, h6, sizeOf, typeInfo, hi', cutA]
theorem x_sliceHi {t : TypeId} {x hi : Operand} {A : Option Addr} {len cap k : Nat} {k2 : IntKind} {j : Int} (ht : slSize P t = some k) (hx : ev F x = some (.slice A len cap)) (hh : ev F hi = some (.int k2 j))
    (h1 : 0 ≤ j) (h2 : j ≤ cap) : Ex P n F ro K ⟨dst, .slice t x none (some hi) none, ty, pos, aft, g⟩ (.slice A j.toNat cap) := by
  obtain ⟨e, i', hu, hi', rfl⟩ := slSize_spec ht
  intro a w hf _
  have : (if cap = 0 then A else A.map (·.add (0 * i'.size))) = A := by
    split
    · rfl
    · cases A <;> simp [Addr.add]
  simp [execOp, hf.ev hx, hf.ev hh, Instr.sliceAt, Instr.slice, run_underlying hu, Instr.sliceBounds, Instr.sliceBound, asIntOf, h1, h2, sizeOf, typeInfo, hi']
  simpa using this
theorem x_sliceLo {t : TypeId} {x lo : Operand} {A : Option Addr} {len cap k : Nat} {k1 : IntKind} {i : Int} (ht : slSize P t = some k) (hx : ev F x = some (.slice A len cap)) (hl : ev F lo = some (.int k1 i))
    (h0 : 0 ≤ i) (h1 : i ≤ len) : Ex P n F ro K ⟨dst, .slice t x (some lo) none none, ty, pos, aft, g⟩ (.slice (cutA A cap i.toNat k) (len - i.toNat) (cap - i.toNat)) := by
  obtain ⟨e, i', hu, hi', rfl⟩ := slSize_spec ht
  intro a w hf _
  simp [execOp, hf.ev hx, hf.ev hl, Instr.sliceAt, Instr.slice, run_underlying hu, Instr.sliceBounds, Instr.sliceBound, asIntOf, h0, h1, sizeOf, typeInfo, hi', cutA]
theorem x_sliceStr {t : TypeId} {x lo hi : Operand} {s : ByteArray} {k1 k2 : IntKind} {i j : Int} (ht : P.underlying t = some .string) (hx : ev F x = some (.string s)) (hl : ev F lo = some (.int k1 i)) (hh : ev F hi = some (.int k2 j))
    (h0 : 0 ≤ i) (h1 : i ≤ j) (h2 : j ≤ s.size) : Ex P n F ro K ⟨dst, .slice t x (some lo) (some hi) none, ty, pos, aft, g⟩ (.string (s.extract i.toNat j.toNat)) := by
  intro a w hf _
  obtain ⟨p, rfl⟩ := Int.eq_ofNat_of_zero_le h0
  obtain ⟨q, rfl⟩ := Int.eq_ofNat_of_zero_le (show 0 ≤ j by omega)
  have h5 : p ≤ q := by omega
  have h6 : q ≤ s.size := by omega
  simp [execOp, hf.ev hx, hf.ev hl, hf.ev hh, Instr.sliceAt, Instr.slice, run_underlying ht, Instr.sliceBounds, Instr.sliceBound, asIntOf, h5, h6]
theorem x_strcat {t t' : TypeId} {x y : Operand} {s u : ByteArray} (hx : ev F x = some (.string s)) (hy : ev F y = some (.string u)) (hlen : s.size + u.size ≤ 9223372036854775807) :
    Ex P n F ro K ⟨dst, .binOp .add t x y t', ty, pos, aft, g⟩ (.string (s ++ u)) := by
  intro a w hf _
  have : ¬ (((s.size + u.size : Nat) : Int) > IntKind.i64.max) := by
    have : IntKind.i64.max = 9223372036854775807 := by decide
    omega
  simp only [execOp, hf.ev hx, hf.ev hy, eqGuard, binOp, Op.stringOp, if_neg this]
  simp

end
end Go.U
