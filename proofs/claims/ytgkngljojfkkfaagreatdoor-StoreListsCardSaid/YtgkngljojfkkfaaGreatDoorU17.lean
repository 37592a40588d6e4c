/- Stores into slices of one's own. -/
import Derived.Test.YtgkngljojfkkfaaGreatDoorU16
set_option linter.unusedVariables false
namespace Go.U
open Go
theorem put1_some : ∀ (cs : List Value) (m : Nat) (v : Value), m < cs.length → ∃ cs', put1 cs m v = some cs' ∧ cs'.length = cs.length
  | [], m, v, h => by simp at h
  | c :: cs, 0, v, _ => ⟨_, rfl, rfl⟩
  | c :: cs, m + 1, v, h => by
    obtain ⟨cs', h1, h2⟩ := put1_some cs m v (by simpa using h)
    exact ⟨c :: cs', by simp [put1, h1], by simp [h2]⟩
theorem putN_some : ∀ (vs cs : List Value) (m : Nat), m + vs.length ≤ cs.length → ∃ cs', putN cs m vs = some cs'
  | [], cs, m, _ => ⟨cs, rfl⟩
  | v :: vs, cs, m, h => by
    simp at h
    obtain ⟨c1, h1, h2⟩ := put1_some cs m v (by omega)
    obtain ⟨c2, h3⟩ := putN_some vs c1 (m + 1) (by omega)
    exact ⟨c2, by simp [putN, h1, h3]⟩
section
variable {P : Program} {n : Sz} {Q : Exit → Act → World → Prop} {K : Act → World → Prop} {F : Frm} {ro : Ro} {L : List (List Blk)} {ty : TypeId} {pos : String} {aft : Array Edge} {g : Option (Nat × Bool)}
theorem e_storeS {t e : TypeId} {k k' m cap b off q : Nat} {x y : Operand} {v : Value} {xs vs : List Value} {R : List Blk} {L' : List Blk → List (List Blk)} (i : Nat) (hx : ev F x = some (.pointer (some ⟨b, off + q, none⟩))) (hv : ev F y = some v) (ht : tySize P t = some k')
    (hc : vcs v = some vs) (hk : vs.length = k') (ho : okAll vs = true) (hL : L[i]? = some R) (hO : OwnS e k (some ⟨b, off, none⟩) m cap xs R) (hq : q + vs.length ≤ m * k) (hs : ∀ R', setAt L i R' = some (L' R'))
    (h : ∀ R', OwnS e k (some ⟨b, off, none⟩) m cap (xs.take q ++ vs ++ xs.drop (q + vs.length)) R' → WQ n K F ro (L' R')) : WO P n ⟨none, .store t x y, ty, pos, aft, g⟩ K Q F ro L := by
  obtain ⟨h1, ⟨hn, _⟩ | ⟨gb, off', cur, hA, rfl, h2, h3, h4, h5⟩⟩ := hO
  · cases hn
  · simp only [Option.some.injEq, Addr.mk.injEq, and_true] at hA
    obtain ⟨rfl, rfl⟩ := hA
    have hmk : m * k ≤ cap * k := Nat.mul_le_mul_right _ h2
    obtain ⟨cs', hp⟩ := putN_some vs cur.toList (off + q) (by simp; omega)
    refine e_store i hx hv ht hc hk ho hL hp (hs _) (h _ ⟨?_, .inr ⟨b, off, cs'.toArray, rfl, rfl, h2, h3, ?_, ?_⟩⟩)
    · simp; omega
    · have := (putN_spec hp).2.1
      simp at this ⊢; omega
    · obtain ⟨_, _, p3⟩ := putN_spec hp
      by_cases hvn : vs = []
      · subst hvn
        rw [if_pos rfl] at p3
        subst p3
        simp [h5]
      · rw [if_neg hvn] at p3
        subst p3
        rw [← h5]
        have hlen : cur.toList.length = cur.size := by simp
        apply List.ext_getElem?
        intro j
        simp only [List.getElem?_take, List.getElem?_drop, List.getElem?_append, List.length_append, List.length_take, List.length_drop, hlen]
        grind
end
end Go.U
namespace Go.U
open Go
theorem x_loadOwn {P : Program} {n : Sz} {F : Frm} {ro : Ro} {L : List (List Blk)} {dst : Option Tmp} {ty : TypeId} {pos : String} {aft : Array Edge} {g : Option (Nat × Bool)} {t T : TypeId} {x : Operand} {b off k : Nat} {cs : Array Value} {fz : Nat × Nat} (i : Nat) (vs : List Value) (ht : tyAgg P t = some (some k)) (hx : ev F x = some (.pointer (some ⟨b, off, none⟩)))
    (hL : L[i]? = some [(b, .cells cs T fz)]) (hv : (cs.toList.drop off).take k = vs) (hk : vs.length = k) : Ex P n F ro L.flatten ⟨dst, .load t x, ty, pos, aft, g⟩ (.agg vs.toArray) :=
  x_loadN ht hx hk (CellsAt.own i off k vs hL hv)
end Go.U
