/- More on slices of one's own. -/
import Derived.Test.YtgkngljojfkkfaaGreatDoorU9
namespace Go.U
open Go
theorem OwnS.one {e : TypeId} {b : Nat} {v : Value} : OwnS e 1 (some ⟨b, 0, none⟩) 1 1 [v] [(b, .cells [v].toArray e (0, 0))] :=
  ⟨rfl, .inr ⟨b, 0, _, rfl, rfl, Nat.le_refl _, by simp [maxLen], by simp, by simp⟩⟩
theorem OwnS.at_ {e k : Nat} {A : Option Addr} {m cap : Nat} {xs : List Value} {R : List Blk} (h : OwnS e k A m cap xs R) (hm : 0 < m) :
    ∃ b off cur, A = some ⟨b, off, none⟩ ∧ R = [(b, .cells cur e (0, 0))] ∧ m ≤ cap ∧ ∀ (q : Nat) (v : Value), xs[q]? = some v → cur[off + q]? = some v := by
  obtain ⟨_, ⟨_, rfl, _, _⟩ | ⟨g, off, cur, rfl, rfl, h2, _, _, h5⟩⟩ := h
  · omega
  · refine ⟨g, off, cur, rfl, rfl, h2, fun q v hq => ?_⟩
    rw [← h5, List.getElem?_take] at hq
    split at hq
    · rw [List.getElem?_drop] at hq; simpa using hq
    · cases hq
theorem fm_int (l : List Int) : l.flatMap encInt = l.map (Value.int .i64) := by
  induction l with
  | nil => rfl
  | cons a l ih => rw [List.flatMap_cons, ih]; rfl
theorem OwnS.intAt {e : TypeId} {A : Option Addr} {m cap : Nat} {l : List Int} {R : List Blk} (h : OwnS e 1 A m cap (l.flatMap encInt) R) {k : Nat} (hk : k < m) (hm : m = l.length) :
    ∃ b off cur, A = some ⟨b, off, none⟩ ∧ R = [(b, .cells cur e (0, 0))] ∧ ∃ y, l[k]? = some y ∧ cur[off + k * 1]? = some (.int .i64 y) := by
  obtain ⟨b, off, cur, h1, h2, _, h3⟩ := h.at_ (by omega)
  refine ⟨b, off, cur, h1, h2, l[k]'(by omega), List.getElem?_eq_getElem _, ?_⟩
  rw [Nat.mul_one]
  refine h3 k _ ?_
  rw [fm_int, List.getElem?_map, List.getElem?_eq_getElem (by omega)]
  rfl

theorem drawL {P : Program} {n : Sz} {Q : Exit → Act → World → Prop} {F : Frm} {ro : Ro} {L : List (List Blk)} {id : Nat} {ops : Array Oper} (hm : P.follows .mixedOrders = true) (h : WQ n (wpAnyH P .any ops Q (J ro L.flatten) ops.size (Array.replicate ops.size false)) F ro L) : WQ n ((Code.region id ops true).wp P Q) F ro L := draw L.flatten hm h

end Go.U
namespace Go.U
open Go
theorem x_sliceLoN {P : Program} {n : Sz} {F : Frm} {ro : Ro} {K : List Blk} {dst : Option Tmp} {ty : TypeId} {pos : String} {aft : Array Edge} {g : Option (Nat × Bool)} {t : TypeId} {x lo : Operand} {k b off len cap : Nat} {k1 : IntKind} {i : Nat} (ht : slSize P t = some k) (hx : ev F x = some (.slice (some ⟨b, off, none⟩) len cap)) (hl : ev F lo = some (.int k1 (i : Int)))
    (h1 : i < len) (h2 : len ≤ cap) : Ex P n F ro K ⟨dst, .slice t x (some lo) none none, ty, pos, aft, g⟩ (.slice (some ⟨b, off + i * k, none⟩) (len - i) (cap - i)) := by
  have h := x_sliceLo (P := P) (n := n) (ro := ro) (K := K) (dst := dst) (ty := ty) (pos := pos) (aft := aft) (g := g) ht hx hl (by omega) (by omega)
  have hne : ¬ cap = (i : Int).toNat := by simp; omega
  rw [cutA, if_neg hne] at h
  simpa [add_lit] using h
end Go.U
