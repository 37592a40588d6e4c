/- Appending one element; the ends of functions that hand back a value or a list. -/
import Derived.Test.YtgkngljojfkkfaaGreatDoorU6
namespace Go.U
open Go
set_option linter.unusedVariables false

theorem CellsAt.ofRo {ro : Ro} {K : List Blk} {b off : Nat} {vs : List Value} (h : ∀ (j : Nat) (v : Value), vs[j]? = some v → ro.cell b (off + j) = some v) : CellsAt ro K b off vs := fun j v hv => Cell.ofRo (h j v hv)

section
variable {P : Program} {n : Sz} {Q : Exit → Act → World → Prop} {K : Act → World → Prop} {F : Frm} {ro : Ro} {L : List (List Blk)} {ty : TypeId} {pos : String} {aft : Array Edge} {g : Option (Nat × Bool)} {d : Tmp}

/-- nothing is owned by the way -/
theorem emp (h : WQ n K F ro ([] :: L)) : WQ n K F ro L := fun a w hf hi => h a w hf (hi.sub ⟨_, .refl _, .refl _⟩)
/-- what is owned at the head is let go -/
theorem drop0 {R : List Blk} (h : WQ n K F ro L) : WQ n K F ro (R :: L) := fun a w hf hi => h a w hf (hi.sub ⟨_, .refl _, List.sublist_append_right _ _⟩)
theorem drop1 {R S : List Blk} (h : WQ n K F ro (S :: L)) : WQ n K F ro (S :: R :: L) := fun a w hf hi => h a w hf (hi.sub ⟨_, .refl _, List.Sublist.append (.refl _) (List.sublist_append_right _ _)⟩)
theorem swap0 {R S : List Blk} (h : WQ n K F ro (S :: R :: L)) : WQ n K F ro (R :: S :: L) := permL _ (.swap _ _ _) h
/-- the i-th comes to the head -/
theorem pull (i : Nat) {R : List Blk} {L' : List (List Blk)} (hL : L[i]? = some R) (hs : L.eraseIdx i = L') (h : WQ n K F ro (R :: L')) : WQ n K F ro L := by
  subst hs
  refine permL _ ?_ h
  have hlt : i < L.length := (List.getElem?_eq_some_iff.1 hL).1
  have hget : L[i] = R := (List.getElem?_eq_some_iff.1 hL).2
  rw [← hget]
  have : L = L.take i ++ L[i] :: L.drop (i + 1) := by simp
  conv => rhs; rw [this]
  rw [List.eraseIdx_eq_take_drop_succ]
  exact List.perm_middle.symm

theorem e_append1 {t t3 e : TypeId} {k bytes : Nat} {x y : Operand} {A : Option Addr} {m cap b : Nat} {xs cs : List Value} {R : List Blk} {L0 : List (List Blk)} {L' : List Blk → List (List Blk)} (i : Nat) (hd : Nat.blt d n.sz = true) (ht : SlTy P t e k bytes)
    (hx : ev F x = some (.slice A m cap)) (hy : ev F y = some (.slice (some ⟨b, 0, none⟩) 1 1)) (hL : L0[i]? = some R) (hO : OwnS e k A m cap xs R) (hk : cs.length = k) (hok : okAll cs = true)
    (hb : (m + 1) * bytes ≤ 140737488355328) (h63 : m + 1 ≤ 9223372036854775807) (hs : ∀ R', setAt L0 i R' = some (L' R'))
    (h : ∀ A' cap' R', OwnS e k A' (m + 1) cap' (xs ++ cs) R' → WQ n K ((d, .slice A' (m + 1) cap') :: F) ro (L' R')) :
    WO P n ⟨some d, .call { callee := .builtin .append, args := #[x, y], argTypes := #[t, t] }, t3, pos, aft, g⟩ K Q F ro ([(b, .cells cs.toArray e (0, 0))] :: L0) := by
  refine e_append (L' := fun R' => [(b, .cells cs.toArray e (0, 0))] :: L' R') (i + 1) hd ht hx hy (by simpa using hL) hO ⟨by simpa using hk, fun _ => ⟨b, 0, rfl, ?_⟩⟩ (okAll_spec hok) hb h63 (fun R' => by simp [setAt, hs R']) (fun A' cap' R' hO' => drop0 (h A' cap' R' hO'))
  intro j v hv
  refine Cell.own 0 rfl ?_
  simpa using hv

end

/-- a value comes back; nothing else has turned but that memory may have been made -/
def PV (v0 : Value) (L : List (List Blk)) : Value → Ro → List (List Blk) → Prop := fun v _ L' => v = v0 ∧ L = L'
/-- a list comes back -/
def PS {α : Type} (k : Nat) (enc : α → List Value) (l : List α) (L : List (List Blk)) : Value → Ro → List (List Blk) → Prop := fun v ro' L' => ∃ A cap, v = .slice A l.length cap ∧ Sl ro' k enc A cap l ∧ L = L'
/-- a value comes back, and the very memory -/
def PQ (v0 : Value) (ro : Ro) (L : List (List Blk)) : Value → Ro → List (List Blk) → Prop := fun v ro' L' => v = v0 ∧ ro = ro' ∧ L = L'

theorem flatMap_snoc {α β : Type} (f : α → List β) (l : List α) (x : α) : (l ++ [x]).flatMap f = l.flatMap f ++ f x := by simp
theorem OwnS.snoc {α : Type} {e k : Nat} {A : Option Addr} {m cap : Nat} {l : List α} {x : α} {enc : α → List Value} {R : List Blk} (h : OwnS e k A m cap (l.flatMap enc ++ enc x) R) : OwnS e k A m cap ((l ++ [x]).flatMap enc) R := by
  rw [flatMap_snoc]; exact h
theorem OwnS.cast {e k : Nat} {A : Option Addr} {m m' cap : Nat} {xs ys : List Value} {R : List Blk} (h : OwnS e k A m cap xs R) (hm : m = m') (hx : xs = ys) : OwnS e k A m' cap ys R := by subst hm; subst hx; exact h

end Go.U
