/- From what comes into a call to the words of this library: lists of numbers, lists of structs of numbers; what the call leaves. -/
import Derived.Test.YtgkngljojfkkfaaGreatDoorU15
import Derived.Deep.Slices
import Derived.Deep.Fields
import Derived.ChangeSame
import Derived.ProofKit
import Derived.OpenShut
namespace Go.U
open Go Go.ChangeShapes Go.WideShapes Go.Deep Go.RowKit
set_option linter.unusedVariables false
def snap (w : World) : Ro := ⟨w.os, w.tape, w.output, w.heap.size, fun b => w.heap[b]?⟩
theorem snap_I (w : World) : I (snap w) [] w := ⟨rfl, rfl, rfl, Nat.le_refl _, fun _ _ h => h, by simp, by simp, by simp⟩
theorem below_of {w w' : World} {ro' : Ro} {L' : List (List Blk)} (hle : (snap w).le ro') (hi : I ro' L' w') : Below w.heap.size w w' :=
  ⟨hi.os.trans hle.os, hi.tape.trans hle.tape, hi.output.trans hle.output, Nat.le_trans hle.size hi.size, fun k hk => by
    have h1 : w.heap[k]? = some w.heap[k] := Array.getElem?_eq_getElem hk
    rw [h1]
    exact hi.old _ _ (hle.cells k _ h1)⟩
theorem CT.below {P : Program} {f : FuncId} {args : Array Value} {w : World} {v0 : Value} (h : CT P f args (snap w) [] (fun v _ _ => v = v0)) : Calls P f args w fun e w' => e = .returned v0 ∧ Below w.heap.size w w' :=
  (h w (snap_I w)).mono fun e w' ⟨v, ro', L', he, hle, hi, hv⟩ => ⟨by rw [he, hv], below_of hle hi⟩
theorem CT.told {P : Program} {f : FuncId} {args : Array Value} {ro : Ro} {L : List (List Blk)} {v0 : Value} (h : CT P f args ro L (PV v0 L)) : CT P f args ro L (fun v _ _ => v = v0) := h.mono fun v ro' L' _ hp => hp.1
theorem snap_cell {w : World} {b off : Nat} {v : Value} (h : w.cell? ⟨b, off, none⟩ = some v) : (snap w).cell b off = some v := by
  unfold World.cell? at h
  unfold Ro.cell snap
  simp only at h ⊢
  split at h
  · rename_i c _ _ he
    rw [he]
    simpa using h
  · cases h
theorem I64.of {x : Int} (h : (Lit.int .i64 x).wf = true) : I64 x := by
  have e1 : IntKind.min .i64 = -9223372036854775808 := by decide
  have e2 : IntKind.max .i64 = 9223372036854775807 := by decide
  simp [Lit.wf, e1, e2] at h
  exact h
/-- cells that are read in a row of k-cell elements -/
theorem Sl_of {α : Type} {w : World} {k : Nat} {enc : α → List Value} {a : Addr} {cap : Nat} {l : List α} (hk : 0 < k) (hl : l.length ≤ cap) (hm : cap ≤ maxLen) (henc : ∀ x ∈ l, (enc x).length = k)
    (hc : ∀ (i : Nat) (x : α), l[i]? = some x → ∀ (j : Nat) (v : Value), (enc x)[j]? = some v → w.cell? (a.add (i * k + j)) = some v) : Sl (snap w) k enc (some a) cap l := by
  refine ⟨hl, hm, henc, fun hn => ?_⟩
  obtain ⟨x, hx⟩ : ∃ x, l[0]? = some x := by
    cases l with
    | nil => exact absurd rfl hn
    | cons x l => exact ⟨x, rfl⟩
  have hex := henc x (List.mem_of_getElem? hx)
  have h0 := hc 0 x hx 0 (enc x)[0] (List.getElem?_eq_getElem (by omega))
  have hs := World.cell?_spot h0
  have hspot : a.spot = none := by simpa [Addr.add] using hs
  obtain ⟨b, off, spot⟩ := a
  simp only at hspot
  subst hspot
  exact ⟨b, off, rfl, fun i x hx j v hv => by
    have := hc i x hx j v hv
    rw [add_lit] at this
    rw [Nat.add_assoc]
    exact snap_cell this⟩

section
variable {H : Type} {enc : TypeId × Value → H} {P : Program} {w : World} {base : Nat} {spare : Nat → Bool} {held : Bool}
theorem open_fields {t e : TypeId} {fs : Array Field} {fuel : Nat} {cs : List Value} {x : DataW H × List MemPlace} (ht : P.underlying t = some (.slice e)) (he : P.underlying e = some (.struct fs))
    (hone : oneCellFields P fs = true) (hC : P.cellsOf e = fs.size) (hint : ∀ (j : Nat) (f : Field), fs[j]? = some f → P.underlying f.type = some (.int .i64)) (h : DataW.trod enc P w base spare held fuel t cs = some x) :
    cs = [.slice none 0 0] ∨
    ∃ (a : Addr) (len cap : Nat), cs = [.slice (some a) len cap] ∧ len ≤ cap ∧ cap ≤ maxLen ∧ ∀ i, i < len → ∀ j, j < fs.size → ∃ n, w.cell? (a.add (i * fs.size + j)) = some (.int .i64 n) ∧ I64 n := by
  rcases open_slice ht h with h0 | ⟨a, len, cap, m, n, D, Pl, hcs, hb, hl, hm, hmm, hx, hi⟩
  · exact .inl h0.1
  · refine .inr ⟨a, len, cap, hcs, hl, hm, fun i hil j hj => ?_⟩
    have him : i < m := by rw [hmm]; split <;> omega
    obtain ⟨cs', hc, ht'⟩ := hi i him
    rw [hC] at hc
    obtain ⟨ys, n', hn', hy, hlen, hyl, hf⟩ := DataW.trod_struct he ht'
    obtain ⟨_, hcl, hat⟩ := World.cells?_some hc
    have hfj : fs[j]? = some fs[j] := Array.getElem?_eq_getElem hj
    obtain ⟨ho, hk⟩ := hone_of hone j _ hfj
    have hcell := hat j hj
    have hv : cs'[j]? = some (cs'[j]'(by omega)) := List.getElem?_eq_getElem (by omega)
    have h1 := hf j _ hfj
    rw [ho, hk] at h1
    have hone' : (cs'.drop j).take 1 = [cs'[j]'(by omega)] := by
      rw [List.drop_eq_getElem_cons (by omega)]
      rfl
    rw [hone'] at h1
    have hys : ys[j]? = some (ys[j]'(by omega)) := List.getElem?_eq_getElem (by omega)
    obtain ⟨z, hz, _, hw⟩ := DataW.trod_int (hint j _ hfj) (h1.trans hys)
    refine ⟨z, ?_, I64.of hw⟩
    rw [← Go.Deep.add_add, hcell, hv]
    simpa using hz
def cellInt (w : World) (a : Addr) : Int := match w.cell? a with | some (.int _ n) => n | _ => 0
theorem cellInt_of {a : Addr} {n : Int} (h : w.cell? a = some (.int .i64 n)) : cellInt w a = n := by simp [cellInt, h]
theorem open_ints' {t e : TypeId} {fuel : Nat} {A : Option Addr} {len cap : Nat} {x : DataW H × List MemPlace} (ht : P.underlying t = some (.slice e)) (he : P.underlying e = some (.int .i64)) (hc : P.cellsOf e = 1)
    (h : DataW.trod enc P w base spare held fuel t [.slice A len cap] = some x) : ∃ l : List Int, len = l.length ∧ Sl (snap w) 1 encInt A cap l ∧ ∀ x ∈ l, I64 x := by
  rcases open_ints ht he hc h with ⟨hcs, _⟩ | ⟨a, l, c, zs, hcs, _, hl, hm, hz, _, hcell, hwz⟩
  · simp at hcs
    obtain ⟨rfl, rfl, rfl⟩ := hcs
    exact ⟨[], rfl, ⟨by simp, by simp [maxLen], by simp, fun h => absurd rfl h⟩, by simp⟩
  · simp at hcs
    obtain ⟨rfl, rfl, rfl⟩ := hcs
    have hzl : len ≤ zs.length := by rw [hz]; split <;> omega
    refine ⟨zs.take len, by simp; omega, Sl_of (by omega) (by simp; omega) hm (fun _ _ => rfl) (fun i y hy j v hv => ?_), fun y hy => I64.of (hwz y (List.mem_of_mem_take hy))⟩
    have hil : i < len := by
      have := (List.getElem?_eq_some_iff.1 hy).1
      simp at this; omega
    obtain ⟨rfl, rfl⟩ : j = 0 ∧ v = .int .i64 y := by
      cases j with
      | zero => simp [encInt] at hv; exact ⟨rfl, hv.symm⟩
      | succ j => simp [encInt] at hv
    have := hcell i (by omega)
    rw [Nat.mul_one, Nat.add_zero, this]
    rw [List.getElem?_take, if_pos hil] at hy
    simp [List.getD, hy]
end
end Go.U
