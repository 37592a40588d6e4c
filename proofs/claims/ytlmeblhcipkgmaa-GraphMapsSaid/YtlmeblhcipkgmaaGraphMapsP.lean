/- Proved here: the statement GraphMaps holds for every input; there is no condition. -/
import Derived.Test.YtlmeblhcipkgmaaRows
import Derived.Test.YtlmeblhcipkgmaaG30
import Derived.Test.YtlmeblhcipkgmaaU16
import Derived.WalkKit
import Derived.ProofKit
import Derived.OpenShut
import Derived.ShutString
import Derived.ChangeOld
import Derived.Below
namespace Go.Proofs.Ytlmeblhcipkgmaa.graphMapsDone
open Go Go.ChangeShapes Go.WideShapes Go.ChangeAt Go.RowKit Go.U Go.Proofs.Ytlmeblhcipkgmaa
set_option linter.unusedVariables false
set_option maxRecDepth 20000

theorem own : ownKnob Try.prog.godebug = none := by kernel_rfl
theorem laidOut : laidOutB Try.prog = true := by kernel_rfl
theorem open_edges {H : Type} {enc : TypeId × Value → H} {w : World} {base : Nat} {spare : Nat → Bool} {held : Bool} {fuel : Nat} {A : Option Addr} {len cap : Nat} {x : DataW H × List MemPlace} (h : DataW.trod enc Try.prog w base spare held fuel 59 [.slice A len cap] = some x) :
    ∃ l : List Ed, len = l.length ∧ Sl (snap w) 3 encEdge A cap l ∧ ∀ p ∈ l, I64 p.1 ∧ I64 p.2.1 ∧ I64 p.2.2 := by
  rcases open_fields Try.underlying59 Try.underlying75 (by kernel_rfl) (by kernel_rfl) (fun j f hj => by
    have h2 := (Array.getElem?_eq_some_iff.1 hj).1
    have h3 : j = 0 ∨ j = 1 ∨ j = 2 := by simp at h2; omega
    rcases h3 with rfl | rfl | rfl <;> simp at hj <;> subst hj <;> exact Try.underlying3) h with hcs | ⟨a, n, c, hcs, hl, hm, hc⟩
  · simp at hcs
    obtain ⟨rfl, rfl, rfl⟩ := hcs
    exact ⟨[], rfl, ⟨by simp, by simp [maxLen], by simp, fun h => absurd rfl h⟩, by simp⟩
  · simp at hcs
    obtain ⟨rfl, rfl, rfl⟩ := hcs
    have hc0 : ∀ i, i < len → ∀ j, j < 3 → w.cell? (a.add (i * 3 + j)) = some (.int .i64 (cellInt w (a.add (i * 3 + j)))) ∧ I64 (cellInt w (a.add (i * 3 + j))) := fun i hi j hj => by
      obtain ⟨n, h1, h2⟩ := hc i hi j hj
      have e : cellInt w (a.add (i * 3 + j)) = n := cellInt_of h1
      exact ⟨by rw [e]; exact h1, by rw [e]; exact h2⟩
    refine ⟨(List.range len).map (fun i => (cellInt w (a.add (i * 3 + 0)), cellInt w (a.add (i * 3 + 1)), cellInt w (a.add (i * 3 + 2)))), by simp, Sl_of (by omega) (by simpa using hl) hm (fun _ _ => rfl) (fun i y hy j v hv => ?_), fun p hp => ?_⟩
    · rw [List.getElem?_map, Option.map_eq_some_iff] at hy
      obtain ⟨q, hq, rfl⟩ := hy
      have hil : i < len := by have := (List.getElem?_eq_some_iff.1 hq).1; simpa using this
      have hqi : q = i := by
        have := (List.getElem?_eq_some_iff.1 hq).2
        simpa using this.symm
      subst hqi
      match j with
      | 0 => simp [encEdge] at hv; rw [← hv]; exact (hc0 q hil 0 (by omega)).1
      | 1 => simp [encEdge] at hv; rw [← hv]; exact (hc0 q hil 1 (by omega)).1
      | 2 => simp [encEdge] at hv; rw [← hv]; exact (hc0 q hil 2 (by omega)).1
      | j + 3 => simp [encEdge] at hv
    · obtain ⟨i, hi, rfl⟩ := List.mem_map.1 hp
      have hil : i < len := by simpa using hi
      exact ⟨(hc0 i hil 0 (by omega)).2, (hc0 i hil 1 (by omega)).2, (hc0 i hil 2 (by omega)).2⟩

set_option maxRecDepth 100000 in
theorem lifted (os : Os) (started : os.Started) (H : Type) (enc : TypeId × Value → H) :
    ReturnsInHanded {} Try.checked os 13 .any (Rows.graphMapsSpec.pre6 enc Try.prog Try.f13 Rows.graphMapsRow.domain false) (Rows.graphMapsSpec.post enc Try.prog Try.f13 false true false false) := by
  refine returnsInHanded_of_change (C := Try.checked) own started (by kernel_rfl) Try.func13
    (ChangeSpec.witness6 (enc := enc) (C := Try.checked) false ⟨#[], #[.slice none 0 0, .slice none 0 0, .int .i64 0], []⟩ 8 (by kernel_rfl) (by kernel_rfl) (by kernel_rfl) (by kernel_rfl)) ?_
  intro W base args ds gs before hval0 hW hcnd _
  have hval : ∀ (j : Nat) t v, Try.f13.params[j]? = some t → args[j]? = some v → Value.okWide Try.prog W .any base t v := hval0
  have hW' := hW
  obtain ⟨p, q, hA0, hV, rfl, hfz, hnd⟩ := hW
  have hA : DataW.TrodAll enc Try.prog W 0 (fun _ => true) true Try.f13.params.toList args.toList ds p := hA0
  rw [Try.params13] at hA hval
  obtain ⟨v0, vs0, d0, ds0, p0, q0, hargs, rfl, rfl, h0, r0⟩ := trodAll_cons hA
  obtain ⟨v1, vs1, d1, ds1, p1, q1, rfl, rfl, rfl, h1, r1⟩ := trodAll_cons r0
  obtain ⟨v2, vs2, d2, ds2, p2, q2, rfl, rfl, rfl, h2, r2⟩ := trodAll_cons r1
  obtain ⟨rfl, rfl, rfl⟩ := trodAll_nil r2
  obtain rfl : args = #[v0, v1, v2] := by cases args; simp_all
  obtain ⟨rfl, rfl⟩ := trodVars_none hV
  obtain ⟨a0, len0, cap0, rfl⟩ := okWide_slice Try.underlying59 (hval 0 59 v0 rfl rfl)
  have k0 := h0
  have lt0 : ∀ x ∈ p0, x.block < W.heap.size := by obtain ⟨m, hm⟩ := k0; exact DataW.trod_lt m _ _ _ hm
  obtain ⟨fuel0, hf0⟩ := h0
  obtain ⟨l0, rfl, s0, b0⟩ := open_edges hf0
  obtain ⟨a1, len1, cap1, rfl⟩ := okWide_slice Try.underlying23 (hval 1 23 v1 rfl rfl)
  have k1 := h1
  have lt1 : ∀ x ∈ p1, x.block < W.heap.size := by obtain ⟨m, hm⟩ := k1; exact DataW.trod_lt m _ _ _ hm
  obtain ⟨fuel1, hf1⟩ := h1
  obtain ⟨l1, rfl, s1, b1⟩ := open_ints' Try.underlying23 Try.underlying3 (by kernel_rfl) hf1
  obtain ⟨a2, rfl, rfl, rfl, w2⟩ := open_int Try.underlying3 (hval 2 3 v2 rfl rfl) h2
  clear hA0 hval0
  refine (CT.below (CT.told (GraphMaps_c l0 a0 cap0 l1 a1 cap1 a2 _ _ s0 s1 b0 b1))).mono fun e W' ⟨he, bel⟩ => ?_
  subst he
  exact ⟨_, rfl, _, _, _, [], _, [], hW', trodAll_mk1 (shut_bool Try.underlying4 _), (trodAll_cons_mk (Below.trod laidOut (by kernel_rfl) (of_decide_eq_true (by kernel_rfl)) k0 bel lt0) (trodAll_cons_mk (Below.trod laidOut (by kernel_rfl) (of_decide_eq_true (by kernel_rfl)) k1 bel lt1) (trodAll_cons_mk (shut_int Try.underlying3 w2) trodAll_mk0))), rfl, bel.frame _, fun h => by cases h⟩

theorem over : Rows.graphMapsRow.holds Try.pinned (OpenSpec.ofChange Rows.graphMapsSpec) :=
  OpenClaim.holds_of_wide 13 Try.f13 rfl rfl rfl rfl rfl rfl rfl ⟨rfl, rfl, rfl, rfl, rfl⟩ rfl rfl rfl rfl rfl (by kernel_rfl) Try.func13 (by kernel_rfl)
    (of_decide_eq_true (by kernel_rfl)) (by unfold Func.isWrapper; first | (rw [if_pos (by decide +kernel)]; kernel_rfl) | (rw [if_neg (by decide +kernel)]; exact ⟨rfl, rfl⟩))
    (fun os started H enc _ => lifted os started H enc)

theorem proved : Rows.GraphMapsSaid := over
#print axioms proved
end Go.Proofs.Ytlmeblhcipkgmaa.graphMapsDone
