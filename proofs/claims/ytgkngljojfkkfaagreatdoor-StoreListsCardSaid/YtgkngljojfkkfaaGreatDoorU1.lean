/- Operations that only compute or read. -/
import Derived.Test.YtgkngljojfkkfaaGreatDoorU0
import Derived.Laws.Bits
import Derived.WalkKit
namespace Go.U
open Go

section
variable {P : Program} {n : Sz} {F : Frm} {ro : Ro} {K : List Blk} {dst : Option Tmp} {ty : TypeId} {pos : String} {aft : Array Edge} {g : Option (Nat × Bool)}

theorem x_move {x : Operand} {v : Value} (hx : ev F x = some v) : Ex P n F ro K ⟨dst, .move x, ty, pos, aft, g⟩ v :=
  fun a w hf _ => by simp [execOp, hf.ev hx]
theorem x_assign {x : Operand} {v : Value} (hx : ev F x = some v) : Ex P n F ro K ⟨dst, .assign x, ty, pos, aft, g⟩ v :=
  fun a w hf _ => by simp [execOp, hf.ev hx]
theorem x_pick {c x y : Operand} {b : Bool} {v u : Value} (hc : ev F c = some (.bool b)) (hx : ev F x = some v) (hy : ev F y = some u) :
    Ex P n F ro K ⟨dst, .pick c x y, ty, pos, aft, g⟩ (if b then v else u) :=
  fun a w hf _ => by cases b <;> simp [execOp, hf.ev hc, hf.ev hx, hf.ev hy, asBool]
theorem x_pickT {c x y : Operand} {v : Value} (hc : ev F c = some (.bool true)) (hx : ev F x = some v) : Ex P n F ro K ⟨dst, .pick c x y, ty, pos, aft, g⟩ v :=
  fun a w hf _ => by simp [execOp, hf.ev hc, hf.ev hx, asBool]
theorem x_pickF {c x y : Operand} {v : Value} (hc : ev F c = some (.bool false)) (hx : ev F y = some v) : Ex P n F ro K ⟨dst, .pick c x y, ty, pos, aft, g⟩ v :=
  fun a w hf _ => by simp [execOp, hf.ev hc, hf.ev hx, asBool]

/-- integers -/
theorem x_add {t t' : TypeId} {x y : Operand} {k : IntKind} {i j : Int} (hx : ev F x = some (.int k i)) (hy : ev F y = some (.int k j)) (m : Int) (hm : k.wrap (i + j) = m) :
    Ex P n F ro K ⟨dst, .binOp .add t x y t', ty, pos, aft, g⟩ (.int k m) :=
  fun a w hf _ => by simp [execOp, hf.ev hx, hf.ev hy, eqGuard, binOp, Op.intArith, hm]
theorem x_sub {t t' : TypeId} {x y : Operand} {k : IntKind} {i j : Int} (hx : ev F x = some (.int k i)) (hy : ev F y = some (.int k j)) (m : Int) (hm : k.wrap (i - j) = m) :
    Ex P n F ro K ⟨dst, .binOp .sub t x y t', ty, pos, aft, g⟩ (.int k m) :=
  fun a w hf _ => by simp [execOp, hf.ev hx, hf.ev hy, eqGuard, binOp, Op.intArith, hm]
theorem x_mul {t t' : TypeId} {x y : Operand} {k : IntKind} {i j : Int} (hx : ev F x = some (.int k i)) (hy : ev F y = some (.int k j)) (m : Int) (hm : k.wrap (i * j) = m) :
    Ex P n F ro K ⟨dst, .binOp .mul t x y t', ty, pos, aft, g⟩ (.int k m) :=
  fun a w hf _ => by simp [execOp, hf.ev hx, hf.ev hy, eqGuard, binOp, Op.intArith, hm]
theorem x_quo {t t' : TypeId} {x y : Operand} {k : IntKind} {i j : Int} (hx : ev F x = some (.int k i)) (hy : ev F y = some (.int k j)) (h0 : j ≠ 0) (m : Int) (hm : k.wrap (i.tdiv j) = m) :
    Ex P n F ro K ⟨dst, .binOp .quo t x y t', ty, pos, aft, g⟩ (.int k m) :=
  fun a w hf _ => by simp [execOp, hf.ev hx, hf.ev hy, eqGuard, binOp, Op.intDiv, hm, h0]
theorem x_rem {t t' : TypeId} {x y : Operand} {k : IntKind} {i j : Int} (hx : ev F x = some (.int k i)) (hy : ev F y = some (.int k j)) (h0 : j ≠ 0) (m : Int) (hm : i.tmod j = m) :
    Ex P n F ro K ⟨dst, .binOp .rem t x y t', ty, pos, aft, g⟩ (.int k m) :=
  fun a w hf _ => by simp [execOp, hf.ev hx, hf.ev hy, eqGuard, binOp, Op.intDiv, hm, h0]
theorem x_and {t t' : TypeId} {x y : Operand} {k : IntKind} {i j : Int} (hx : ev F x = some (.int k i)) (hy : ev F y = some (.int k j)) (m : Int) (hm : k.wrap ((BitVec.ofInt k.bits i &&& BitVec.ofInt k.bits j).toNat) = m) :
    Ex P n F ro K ⟨dst, .binOp .and t x y t', ty, pos, aft, g⟩ (.int k m) :=
  fun a w hf _ => by subst hm; simp [execOp, hf.ev hx, hf.ev hy, eqGuard, binOp, Op.intBits]
theorem x_eql {t t' : TypeId} {x y : Operand} {k : IntKind} {i j : Int} (hx : ev F x = some (.int k i)) (hy : ev F y = some (.int k j)) :
    Ex P n F ro K ⟨dst, .binOp .eql t x y t', ty, pos, aft, g⟩ (.bool (i == j)) :=
  fun a w hf _ => by simp [execOp, hf.ev hx, hf.ev hy, eqGuard, binOp, Op.intCmp]
theorem x_neq {t t' : TypeId} {x y : Operand} {k : IntKind} {i j : Int} (hx : ev F x = some (.int k i)) (hy : ev F y = some (.int k j)) :
    Ex P n F ro K ⟨dst, .binOp .neq t x y t', ty, pos, aft, g⟩ (.bool (i != j)) :=
  fun a w hf _ => by simp [execOp, hf.ev hx, hf.ev hy, eqGuard, binOp, Op.intCmp]
theorem x_lss {t t' : TypeId} {x y : Operand} {k : IntKind} {i j : Int} (hx : ev F x = some (.int k i)) (hy : ev F y = some (.int k j)) :
    Ex P n F ro K ⟨dst, .binOp .lss t x y t', ty, pos, aft, g⟩ (.bool (decide (i < j))) :=
  fun a w hf _ => by simp [execOp, hf.ev hx, hf.ev hy, eqGuard, binOp, Op.intCmp]
theorem x_leq {t t' : TypeId} {x y : Operand} {k : IntKind} {i j : Int} (hx : ev F x = some (.int k i)) (hy : ev F y = some (.int k j)) :
    Ex P n F ro K ⟨dst, .binOp .leq t x y t', ty, pos, aft, g⟩ (.bool (decide (i ≤ j))) :=
  fun a w hf _ => by simp [execOp, hf.ev hx, hf.ev hy, eqGuard, binOp, Op.intCmp]
theorem x_gtr {t t' : TypeId} {x y : Operand} {k : IntKind} {i j : Int} (hx : ev F x = some (.int k i)) (hy : ev F y = some (.int k j)) :
    Ex P n F ro K ⟨dst, .binOp .gtr t x y t', ty, pos, aft, g⟩ (.bool (decide (j < i))) :=
  fun a w hf _ => by simp [execOp, hf.ev hx, hf.ev hy, eqGuard, binOp, Op.intCmp]
theorem x_geq {t t' : TypeId} {x y : Operand} {k : IntKind} {i j : Int} (hx : ev F x = some (.int k i)) (hy : ev F y = some (.int k j)) :
    Ex P n F ro K ⟨dst, .binOp .geq t x y t', ty, pos, aft, g⟩ (.bool (decide (j ≤ i))) :=
  fun a w hf _ => by simp [execOp, hf.ev hx, hf.ev hy, eqGuard, binOp, Op.intCmp]
theorem x_not {t : TypeId} {x : Operand} {b : Bool} (hx : ev F x = some (.bool b)) : Ex P n F ro K ⟨dst, .unOp .not t x, ty, pos, aft, g⟩ (.bool (!b)) :=
  fun a w hf _ => by simp [execOp, hf.ev hx, Op.unary]
theorem x_neg {t : TypeId} {x : Operand} {k : IntKind} {i : Int} (hx : ev F x = some (.int k i)) (m : Int) (hm : k.wrap (0 - i) = m) : Ex P n F ro K ⟨dst, .unOp .neg t x, ty, pos, aft, g⟩ (.int k m) :=
  fun a w hf _ => by simp [execOp, hf.ev hx, Op.unary, Op.intArith, ← hm]
theorem run_equal_bool (w : World) {t : TypeId} (ht : P.underlying t = some .bool) (b c : Bool) : (Op.equal t (.bool b) (.bool c)).run P w = .ok (b == c) w := by
  have h : ∀ d, (Op.equalIn (d + 1) t (.bool b) (.bool c)).run P w = .ok (b == c) w := fun d => by simp [Op.equalIn, run_underlying ht]
  exact h 9999
theorem x_beql {t t' : TypeId} {x y : Operand} {b c : Bool} (ht : P.underlying t = some .bool) (hx : ev F x = some (.bool b)) (hy : ev F y = some (.bool c)) :
    Ex P n F ro K ⟨dst, .binOp .eql t x y t', ty, pos, aft, g⟩ (.bool (b == c)) :=
  fun a w hf _ => by
    have h := run_equal_bool w ht b c
    simp only [execOp, hf.ev hx, hf.ev hy, eqGuard, binOp]
    simp [h]
theorem x_bneq {t t' : TypeId} {x y : Operand} {b c : Bool} (ht : P.underlying t = some .bool) (hx : ev F x = some (.bool b)) (hy : ev F y = some (.bool c)) :
    Ex P n F ro K ⟨dst, .binOp .neq t x y t', ty, pos, aft, g⟩ (.bool (!(b == c))) :=
  fun a w hf _ => by
    have h := run_equal_bool w ht b c
    simp only [execOp, hf.ev hx, hf.ev hy, eqGuard, binOp]
    simp [h]
theorem x_seql {t t' : TypeId} {x y : Operand} {b c : ByteArray} (hx : ev F x = some (.string b)) (hy : ev F y = some (.string c)) :
    Ex P n F ro K ⟨dst, .binOp .eql t x y t', ty, pos, aft, g⟩ (.bool (b.toList == c.toList)) :=
  fun a w hf _ => by simp [execOp, hf.ev hx, hf.ev hy, eqGuard, binOp, Op.stringOp]
theorem x_sneq {t t' : TypeId} {x y : Operand} {b c : ByteArray} (hx : ev F x = some (.string b)) (hy : ev F y = some (.string c)) :
    Ex P n F ro K ⟨dst, .binOp .neq t x y t', ty, pos, aft, g⟩ (.bool (!(b.toList == c.toList))) :=
  fun a w hf _ => by simp [execOp, hf.ev hx, hf.ev hy, eqGuard, binOp, Op.stringOp]

/-- tuples -/
theorem x_extract {x : Operand} {vs : Array Value} {i : Nat} {v : Value} (hx : ev F x = some (.tuple vs)) (hv : vs[i]? = some v) : Ex P n F ro K ⟨dst, .extract x i, ty, pos, aft, g⟩ v :=
  fun a w hf _ => by simp [execOp, hf.ev hx, Instr.extract, hv]

theorem x_nilPtr {x : Operand} {ad : Addr} (hx : ev F x = some (.pointer (some ad))) : Ex P n F ro K ⟨dst, .nilCheck x, ty, pos, aft, g⟩ (.pointer (some ad)) :=
  fun a w hf _ => by simp [execOp, hf.ev hx]
theorem x_nilFn {x : Operand} {f : FuncId} {as bs : Array Value} (hx : ev F x = some (.func (.func f) as bs)) : Ex P n F ro K ⟨dst, .nilCheck x, ty, pos, aft, g⟩ (.func (.func f) as bs) :=
  fun a w hf _ => by simp [execOp, hf.ev hx]
theorem x_makeFunc {fn : Fn} {first cap : List Operand} {vs us : List Value} (h1 : evs F first = some vs) (h2 : evs F cap = some us) :
    Ex P n F ro K ⟨dst, .makeFunc fn first.toArray cap.toArray, ty, pos, aft, g⟩ (.func fn vs.toArray us.toArray) :=
  fun a w hf _ => by
    have e1 := hf.evs h1
    have e2 := hf.evs h2
    simp [execOp, Instr.makeFunc, e1, e2]

end
end Go.U
