/- Texts that are compared; numbers of which the last three bits are kept. -/
import Derived.Test.YtlmeblhcipkgmaaU25
set_option linter.unusedVariables false
set_option linter.unusedSectionVars false
namespace Go.U
open Go
theorem x_sgeq {P : Program} {n : Nat} {F : Frm} {ro : Ro} {K : List Blk} {dst : Option Tmp} {ty : TypeId} {pos : String} {aft : Array Edge} {g : Option (Nat × Bool)} {t t' : TypeId} {x y : Operand} {s u : ByteArray} (hx : ev F x = some (.string s)) (hy : ev F y = some (.string u)) :
    Ex P n F ro K ⟨dst, .binOp .geq t x y t', ty, pos, aft, g⟩ (.bool (!Op.bytesLess s.toList u.toList)) := fun a w hf _ => by
  simp only [execOp, hf.ev hx, hf.ev hy, eqGuard, binOp, Op.stringOp]
  simp
/-- the last three bits -/
def kb (k : Int) : Nat := (BitVec.ofInt 64 k &&& BitVec.ofInt 64 7).toNat
theorem kb_lt (k : Int) : kb k < 8 := by
  unfold kb
  rw [BitVec.toNat_and]
  have h : (BitVec.ofInt 64 7).toNat = 7 := by decide
  rw [h]
  have := Nat.and_le_right (n := (BitVec.ofInt 64 k).toNat) (m := 7)
  omega
theorem kb_wrap (k : Int) : IntKind.i64.wrap ((BitVec.ofInt IntKind.i64.bits k &&& BitVec.ofInt IntKind.i64.bits 7).toNat) = ((kb k : Nat) : Int) := by
  have h : IntKind.i64.bits = 64 := by decide
  rw [h]
  have := kb_lt k
  exact wr (by unfold kb at *; omega) (by unfold kb at *; omega)
/-- the letters -/
def fA : Fin 8 → List UInt8 := fun i => [UInt8.ofNat (97 + i.val)]
theorem txtA : Txt 8 fA := ⟨by decide +kernel, by decide +kernel⟩
def abc : ByteArray := ⟨#[97, 98, 99, 100, 101, 102, 103, 104]⟩
theorem abc_at : ∀ i : Fin 8, abc.extract i.val (i.val + 1) = ⟨(fA i).toArray⟩ := by decide +kernel
theorem less_A : ∀ a b : Fin 8, a < b → Op.bytesLess (⟨(fA a).toArray⟩ : ByteArray).toList (⟨(fA b).toArray⟩ : ByteArray).toList = true := by decide +kernel
end Go.U
