/- Sorting a slice of one's own. -/
import Derived.Test.YtgkngljojfkkfaaGreatDoorU11
import Derived.Sort.OwnSorted
namespace Go.U
open Go Go.Sort Go.Proofs
set_option linter.unusedVariables false

theorem flatMap_one {α : Type} (f : α → Value) (l : List α) : l.flatMap (fun x => [f x]) = l.map f := by
  induction l with
  | nil => rfl
  | cons a l ih => rw [List.flatMap_cons, ih]; rfl

theorem sort_CT {α : Type} [Inhabited α] {P : Program} {f : FuncId} {e : TypeId} (encV : α → Value) (s : List α → List α) (hs : ∀ l, (s l).length = l.length)
    (hc : ∀ (blk off cap : Nat) (ss : List α) (W : World), Holds encV W blk off ss.toArray → blk < W.heap.size → ss.length < 4611686018427387904 → Calls P f #[.slice (some ⟨blk, off, none⟩) ss.length cap] W fun e w' => e = .returned (.tuple #[]) ∧ ∃ k os, w' = grow (putRow encV (Sort.ahead W k) blk off (s ss).toArray) os)
    (h0 : ∀ (p : Option Addr) (cap : Nat) (W : World), Calls P f #[.slice p 0 cap] W fun e w' => e = .returned (.tuple #[]) ∧ w' = W)
    {A : Option Addr} {cap : Nat} {l : List α} {R : List Blk} {L : List (List Blk)} {ro : Ro} (hO : OwnS e 1 A l.length cap (l.flatMap (fun x => [encV x])) R) (hn : l.length ≤ 1000000) :
    CT P f [.slice A l.length cap].toArray ro (R :: L) (fun v ro' L' => v = .tuple #[] ∧ ro = ro' ∧ ∃ R', OwnS e 1 A l.length cap ((s l).flatMap (fun x => [encV x])) R' ∧ L' = R' :: L) := fun w hi => by
  obtain ⟨h1, ⟨rfl, h2, rfl, rfl⟩ | ⟨g, off, cur, rfl, rfl, h2, h3, h4, h5⟩⟩ := hO
  · have hl : l = [] := List.eq_nil_of_length_eq_zero h2
    subst hl
    have hsn : s [] = [] := List.eq_nil_of_length_eq_zero (hs [])
    exact (h0 none 0 w).mono fun e' w' ⟨he, hw⟩ => ⟨_, ro, [] :: L, he, Ro.le.refl _, by rw [hw]; exact hi, rfl, rfl, [], by rw [hsn]; exact OwnS.none_ e 1, rfl⟩
  · have hg : w.heap[g]? = some (.cells cur e (0, 0)) := hi.own (g, .cells cur e (0, 0)) (by simp)
    have hlt : g < w.heap.size := (Array.getElem?_eq_some_iff.1 hg).1
    have hgs : w.heap[g] = .cells cur e (0, 0) := (Array.getElem?_eq_some_iff.1 hg).2
    rw [flatMap_one] at h1 h5
    have hH : Holds encV w g off l.toArray := fun j hj => by
      have hj' : j < l.length := by simpa using hj
      refine ⟨?_, by simp [World.frozen?, hg]⟩
      have h6 : (l.map encV)[j]? = some (encV l[j]) := by simp [hj']
      rw [← h5, List.getElem?_take, if_pos (by omega), List.getElem?_drop] at h6
      rw [cell_of_row w g (off + j) cur e (0, 0) hg]
      simpa [hj'] using h6
    refine (hc g off cap l w hH hlt (by omega)).mono fun e' w' ⟨he, k, os, hw⟩ => ?_
    have hheap : ∀ b, b < w.heap.size → w'.heap[b]? = if b = g then some (.cells (putCells encV off (s l).toArray cur) e (0, 0)) else w.heap[b]? := fun b hb => by
      rw [hw, heap_grow_old _ _ (by simpa using hb)]
      simp only [putRow, mapBlock, Sort.ahead, Array.getElem?_modify]
      by_cases hbg : g = b
      · subst hbg; simp [hg, onCells]
      · have : ¬ b = g := fun e => hbg e.symm
        simp [hbg, this]
    have hsz : w.heap.size ≤ w'.heap.size := by rw [hw]; simp
    refine ⟨_, ro, [(g, .cells (putCells encV off (s l).toArray cur) e (0, 0))] :: L, he, Ro.le.refl _, ?_, rfl, rfl, _, ⟨?_, .inr ⟨g, off, _, rfl, rfl, h2, h3, by simp only [putCells, Array.size_mapIdx]; exact h4, ?_⟩⟩, rfl⟩
    · refine hi.swap (i := 0) (R := [(g, .cells cur e (0, 0))]) rfl rfl ⟨by rw [hw]; rfl, by rw [hw]; rfl, by rw [hw]; rfl, hsz⟩ (fun b hne hb => ?_) (fun q hq => ?_) (fun q hq => .inl ⟨_, List.mem_singleton.2 rfl, by rw [List.mem_singleton.1 hq]⟩) (by simp)
      · rw [hheap b hb, if_neg (fun e => hne _ (List.mem_singleton.2 rfl) e.symm)]
      · rw [List.mem_singleton.1 hq, hheap g hlt, if_pos rfl]
    · rw [flatMap_one]; simp [hs]
    · rw [flatMap_one, Nat.mul_one]
      apply List.ext_getElem?
      intro j
      rw [List.getElem?_take]
      have hcs : off + l.length ≤ cur.size := by omega
      split
      · rename_i hj
        rw [List.getElem?_drop, Array.getElem?_toList]
        have h7 : off + j < cur.size := by omega
        have h8 : j < (s l).length := by rw [hs]; exact hj
        simp [putCells, h7, h8]
      · rename_i hj
        rw [List.getElem?_eq_none (by simp [hs]; omega)]

end Go.U
