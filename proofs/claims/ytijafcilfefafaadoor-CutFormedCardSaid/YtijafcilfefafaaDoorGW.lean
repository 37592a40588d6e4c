/- What the package variables that read as listed give the walks; histories that come in. -/
import Derived.Test.YtijafcilfefafaaDoorV12
import Derived.Test.YtijafcilfefafaaDoorRows
import Derived.Test.YtijafcilfefafaaDoorU29
import Derived.WalkKit
import Derived.ProofKit
import Derived.OpenShut
import Derived.ShutString
import Derived.ChangeOld
import Derived.Below
namespace Go.Proofs.YtijafcilfefafaaDoor
open Go Go.ChangeShapes Go.WideShapes Go.ChangeAt Go.RowKit Go.U
set_option linter.unusedVariables false
set_option linter.unusedSimpArgs false
set_option maxRecDepth 20000

theorem own : ownKnob Tryd.prog.godebug = none := by kernel_rfl
theorem laidOut : laidOutB Tryd.prog = true := by kernel_rfl
theorem star : "*" ++ "errors.errorString" = "*errors.errorString" := by decide
theorem rowErr (u : TypeId) (h : Tryd.prog.typeName? 3 u = some "*errors.errorString") : u = 125 :=
  typeName_ptr_named (nm := "errors.errorString") (by rw [star]; kernel_rfl) (by kernel_rfl) (by decide) u (by rw [star]; exact h)
theorem cells142 : Tryd.prog.cellsOf 142 = 1 := by kernel_rfl
theorem cells9 : Tryd.prog.cellsOf 9 = 1 := by kernel_rfl
def erOf (W : World) (g : Nat) : Addr := match W.cell? ⟨g, 0, none⟩ with
  | some (.iface _ (.pointer (some a))) => a
  | _ => ⟨0, 0, none⟩
theorem er_of {W : World} {g : Nat} {t : TypeId} (h : ∃ a, W.cell? ⟨g, 0, none⟩ = some (.iface t (.pointer (some a)))) : (snap W).cell g 0 = some (.iface t (.pointer (some (erOf W g)))) := by
  obtain ⟨a, ha⟩ := h
  have : erOf W g = a := by unfold erOf; rw [ha]
  rw [this]; exact snap_cell ha
theorem glob_of {W : World} (h0 : laidMetH Tryd.prog Rows.cutMakesRow.laid W) : Glob (erOf W) (snap W) := by
  have h := laidMet_of h0 (by kernel_rfl)
  refine ⟨fun g hg => er_of ?_, fun i hi => ?_, fun i hi => ?_⟩
  · match g, hg with
    | 0, _ => exact laid_err h (n := "umpire/api.ErrTx") (List.mem_of_getElem? (i := 6) rfl) (by kernel_rfl) (by kernel_rfl) Tryd.underlying43 rowErr Tryd.underlying125 Tryd.underlying142 rfl rfl Tryd.underlying9 cells142 cells9
    | 1, _ => exact laid_err h (n := "umpire/api.ErrIndex") (List.mem_of_getElem? (i := 10) rfl) (by kernel_rfl) (by kernel_rfl) Tryd.underlying43 rowErr Tryd.underlying125 Tryd.underlying142 rfl rfl Tryd.underlying9 cells142 cells9
    | 2, _ => exact laid_err h (n := "umpire/api.ErrMany") (List.mem_of_getElem? (i := 0) rfl) (by kernel_rfl) (by kernel_rfl) Tryd.underlying43 rowErr Tryd.underlying125 Tryd.underlying142 rfl rfl Tryd.underlying9 cells142 cells9
    | 3, _ => exact laid_err h (n := "umpire/api.ErrObject") (List.mem_of_getElem? (i := 2) rfl) (by kernel_rfl) (by kernel_rfl) Tryd.underlying43 rowErr Tryd.underlying125 Tryd.underlying142 rfl rfl Tryd.underlying9 cells142 cells9
    | 4, _ => exact laid_err h (n := "umpire/api.ErrOp") (List.mem_of_getElem? (i := 4) rfl) (by kernel_rfl) (by kernel_rfl) Tryd.underlying43 rowErr Tryd.underlying125 Tryd.underlying142 rfl rfl Tryd.underlying9 cells142 cells9
    | 5, _ => exact laid_err h (n := "umpire/api.ErrTwice") (List.mem_of_getElem? (i := 7) rfl) (by kernel_rfl) (by kernel_rfl) Tryd.underlying43 rowErr Tryd.underlying125 Tryd.underlying142 rfl rfl Tryd.underlying9 cells142 cells9
    | 6, _ => exact laid_err h (n := "umpire/api.ErrThread") (List.mem_of_getElem? (i := 8) rfl) (by kernel_rfl) (by kernel_rfl) Tryd.underlying43 rowErr Tryd.underlying125 Tryd.underlying142 rfl rfl Tryd.underlying9 cells142 cells9
    | 7, _ => exact laid_err h (n := "umpire/api.ErrOrder") (List.mem_of_getElem? (i := 9) rfl) (by kernel_rfl) (by kernel_rfl) Tryd.underlying43 rowErr Tryd.underlying125 Tryd.underlying142 rfl rfl Tryd.underlying9 cells142 cells9
    | 8, _ => exact laid_err h (n := "umpire/api.ErrCode") (List.mem_of_getElem? (i := 1) rfl) (by kernel_rfl) (by kernel_rfl) Tryd.underlying43 rowErr Tryd.underlying125 Tryd.underlying142 rfl rfl Tryd.underlying9 cells142 cells9
    | 9, _ => exact laid_err h (n := "umpire/api.ErrEvent") (List.mem_of_getElem? (i := 3) rfl) (by kernel_rfl) (by kernel_rfl) Tryd.underlying43 rowErr Tryd.underlying125 Tryd.underlying142 rfl rfl Tryd.underlying9 cells142 cells9
    | 10, _ => exact laid_err h (n := "umpire/api.ErrAnswer") (List.mem_of_getElem? (i := 5) rfl) (by kernel_rfl) (by kernel_rfl) Tryd.underlying43 rowErr Tryd.underlying125 Tryd.underlying142 rfl rfl Tryd.underlying9 cells142 cells9
  · have hs := laid_strs h (n := "umpire/event.objects") (g := 11) (ss := [[114, 101, 103, 105, 115, 116, 101, 114], [99, 111, 117, 110, 116, 101, 114], [113, 117, 101, 117, 101], [109, 97, 112]]) (List.mem_of_getElem? (i := 11) rfl) (by kernel_rfl) (by kernel_rfl) Tryd.underlying120 Tryd.underlying9 cells9
    match i, hi with
    | 0, _ => exact ⟨_, snap_cell (hs 0 _ rfl), by decide +kernel⟩
    | 1, _ => exact ⟨_, snap_cell (hs 1 _ rfl), by decide +kernel⟩
    | 2, _ => exact ⟨_, snap_cell (hs 2 _ rfl), by decide +kernel⟩
    | 3, _ => exact ⟨_, snap_cell (hs 3 _ rfl), by decide +kernel⟩
  · have hs := laid_strs h (n := "umpire/event.answers") (g := 14) (ss := [[111, 107], [110, 111, 110, 101], [118, 97, 108]]) (List.mem_of_getElem? (i := 14) rfl) (by kernel_rfl) (by kernel_rfl) Tryd.underlying124 Tryd.underlying9 cells9
    match i, hi with
    | 0, _ => exact ⟨_, snap_cell (hs 0 _ rfl), by decide +kernel⟩
    | 1, _ => exact ⟨_, snap_cell (hs 1 _ rfl), by decide +kernel⟩
    | 2, _ => exact ⟨_, snap_cell (hs 2 _ rfl), by decide +kernel⟩

def mkOb (f : Nat → Int) : Ob := ⟨f 0, f 1⟩
def mkEv (f : Nat → Int) : Ev := ⟨f 0, f 1, f 2, f 3, f 4, f 5, f 6, f 7⟩
section
variable {H : Type} {enc : TypeId × Value → H} {w : World} {base : Nat} {spare : Nat → Bool} {held : Bool}
theorem fields_int {fs : Array Field} {k : Nat} (h : (List.range fs.size).all (fun j => match fs[j]? with | some f => f.type == 3 | none => true) = true) : ∀ (j : Nat) (f : Field), fs[j]? = some f → Tryd.prog.underlying f.type = some (.int .i64) := fun j f hj => by
  have hl := (Array.getElem?_eq_some_iff.1 hj).1
  have := List.all_eq_true.1 h j (List.mem_range.2 hl)
  rw [hj] at this
  have : f.type = 3 := by simpa using this
  rw [this]; exact Tryd.underlying3
theorem open_hi {W : World} {r : Reach} {b0 : Nat} {v : Value} {fuel : Nat} {x : DataW H × List MemPlace} (hv : Value.okWide Tryd.prog W r b0 25 v) (h : DataW.trod enc Tryd.prog w base spare held fuel 25 v.cells.toList = some x) :
    ∃ (h : Hi) (A : Option Addr) (cA : Nat) (B : Option Addr) (cB : Nat), v = .agg [.slice A h.os.length cA, .slice B h.es.length cB].toArray ∧ SH (snap w) A cA B cB h ∧ HI h := by
  obtain ⟨A, la, ca, B, lb, cb, y0, y1, n, rfl, t0, t1⟩ := open_two Tryd.underlying25 Tryd.underlying22 Tryd.underlying23 rfl rfl (by kernel_rfl) (by kernel_rfl) (by kernel_rfl) hv h
  obtain ⟨l, rfl, s0, b0⟩ := open_recs mkOb (en := encOb) (k := 2) (fun f => rfl) (by omega) Tryd.underlying22 Tryd.underlying31 (by kernel_rfl) (by kernel_rfl) rfl (fields_int (k := 2) (by decide)) t0
  obtain ⟨m, rfl, s1, b1⟩ := open_recs mkEv (en := encEv) (k := 8) (fun f => rfl) (by omega) Tryd.underlying23 Tryd.underlying34 (by kernel_rfl) (by kernel_rfl) rfl (fields_int (k := 8) (by decide)) t1
  exact ⟨⟨l.map mkOb, m.map mkEv⟩, A, ca, B, cb, rfl, ⟨s0, s1⟩, ⟨fun o ho => by
    obtain ⟨f, hf, rfl⟩ := List.mem_map.1 ho
    exact ⟨b0 f hf 0 (by omega), b0 f hf 1 (by omega)⟩, fun e he => by
    obtain ⟨f, hf, rfl⟩ := List.mem_map.1 he
    exact ⟨b1 f hf 0 (by omega), b1 f hf 1 (by omega), b1 f hf 2 (by omega), b1 f hf 3 (by omega), b1 f hf 4 (by omega), b1 f hf 5 (by omega), b1 f hf 6 (by omega), b1 f hf 7 (by omega)⟩⟩⟩
end
end Go.Proofs.YtijafcilfefafaaDoor
