/- What the package variables that read as listed give the walks; histories that come in. -/
import Derived.Test.YtgkngljojfkkfaaGreatDoorW9
import Derived.Test.YtgkngljojfkkfaaGreatDoorRows
import Derived.Test.YtgkngljojfkkfaaGreatDoorU29
import Derived.Lib.LaidTab
import Derived.WalkKit
import Derived.ProofKit
import Derived.OpenShut
import Derived.ShutString
import Derived.ChangeOld
import Derived.Below
namespace Go.Proofs.YtgkngljojfkkfaaGreatDoor
open Go Go.ChangeShapes Go.WideShapes Go.ChangeAt Go.RowKit Go.U
set_option linter.unusedVariables false
set_option linter.unusedSimpArgs false
set_option maxRecDepth 20000

theorem own : ownKnob Tryz.prog.godebug = none := by kernel_rfl
theorem laidOut : laidOutB Tryz.prog = true := by kernel_rfl
theorem star : "*" ++ "errors.errorString" = "*errors.errorString" := by decide
theorem rowErr (u : TypeId) (h : Tryz.prog.typeName? 3 u = some "*errors.errorString") : u = 242 :=
  typeName_ptr_named (nm := "errors.errorString") (by rw [star]; kernel_rfl) (by kernel_rfl) (by decide) u (by rw [star]; exact h)
theorem cells244 : Tryz.prog.cellsOf 244 = 1 := by kernel_rfl
theorem cells9 : Tryz.prog.cellsOf 9 = 1 := by kernel_rfl
def erOf (W : World) (g : Nat) : Addr := match W.cell? ⟨g, 0, none⟩ with
  | some (.iface _ (.pointer (some a))) => a
  | _ => ⟨0, 0, none⟩
theorem er_of {W : World} {g : Nat} {t : TypeId} (h : ∃ a, W.cell? ⟨g, 0, none⟩ = some (.iface t (.pointer (some a)))) : (snap W).cell g 0 = some (.iface t (.pointer (some (erOf W g)))) := by
  obtain ⟨a, ha⟩ := h
  have : erOf W g = a := by unfold erOf; rw [ha]
  rw [this]; exact snap_cell ha
theorem laid_tab {P : Program} {W : World} {l : List (String × DataW Unit)} {n : String} {g : Nat} {t e : TypeId} {m : Nat} {k : IntKind} {zs : List Int} (h : laidMet P l W) (hm : (n, Lib.tabData k zs) ∈ l) (hg : P.globalNamed n = some g) (hty : (P.globals[g]?).map (·.type) = some t)
    (ht : P.underlying t = some (.array m e)) (he : P.underlying e = some (.int k)) (hce : P.cellsOf e = 1) (hct : P.cellsOf t = m) : ∃ T s, W.heap[g]? = some (.cells (zs.map fun z => Value.int k z).toArray T s) := by
  obtain ⟨ps, hv, _, hrows⟩ := h
  obtain ⟨g', t', cs, fuel, p, k1, k2, k3, k4, k5⟩ := laid_at hv hm
  obtain rfl := Option.some.inj (hg.symm.trans k1)
  obtain rfl := Option.some.inj (hty.symm.trans k2)
  have e1 := Lib.cells_of_tab ht he hce hct k4
  unfold World.var? at k3
  rw [hg, Option.bind_some] at k3
  split at k3
  · rename_i c T s hc
    obtain rfl := Option.some.inj k3
    exact ⟨T, s, by rw [hc, ← e1]⟩
  · cases k3

theorem glob_of {W : World} (h0 : laidMetH Tryz.prog Rows.storeListsRow.laid W) : Glob (erOf W) (snap W) := by
  have h := laidMet_of h0 (by kernel_rfl)
  refine ⟨fun g hg h1 h3 => er_of ?_, fun i hi s hs => ?_, ?_⟩
  · match g, hg, h1, h3 with
    | 0, _, _, _ => exact laid_err h (n := "umpire/api.ErrOp") (List.mem_of_getElem? (i := 7) rfl) (by kernel_rfl) (by kernel_rfl) Tryz.underlying31 rowErr Tryz.underlying242 Tryz.underlying244 rfl rfl Tryz.underlying9 cells244 cells9
    | 1, _, h1, h3 => omega
    | 2, _, _, _ => exact laid_err h (n := "umpire/api.ErrEvent") (List.mem_of_getElem? (i := 6) rfl) (by kernel_rfl) (by kernel_rfl) Tryz.underlying31 rowErr Tryz.underlying242 Tryz.underlying244 rfl rfl Tryz.underlying9 cells244 cells9
    | 3, _, h1, h3 => omega
    | 4, _, _, _ => exact laid_err h (n := "umpire/api.ErrObject") (List.mem_of_getElem? (i := 5) rfl) (by kernel_rfl) (by kernel_rfl) Tryz.underlying31 rowErr Tryz.underlying242 Tryz.underlying244 rfl rfl Tryz.underlying9 cells244 cells9
    | 5, _, _, _ => exact laid_err h (n := "umpire/api.ErrMany") (List.mem_of_getElem? (i := 3) rfl) (by kernel_rfl) (by kernel_rfl) Tryz.underlying31 rowErr Tryz.underlying242 Tryz.underlying244 rfl rfl Tryz.underlying9 cells244 cells9
  · exact snap_cell (laid_strs h (n := "umpire/event.objects") (g := 6) (ss := [[114, 101, 103, 105, 115, 116, 101, 114], [99, 111, 117, 110, 116, 101, 114], [113, 117, 101, 117, 101], [109, 97, 112]]) (List.mem_of_getElem? (i := 8) rfl) (by kernel_rfl) (by kernel_rfl) Tryz.underlying171 Tryz.underlying9 cells9 i s hs)
  · exact laid_tab h (n := "internal/strconv.uint64pow10") (k := .u64) (zs := Lib.pow10Tab) (List.mem_of_getElem? (i := 2) rfl) (by kernel_rfl) (by kernel_rfl) Tryz.underlying233 Tryz.underlying218 (by kernel_rfl) (by kernel_rfl)
end Go.Proofs.YtgkngljojfkkfaaGreatDoor
