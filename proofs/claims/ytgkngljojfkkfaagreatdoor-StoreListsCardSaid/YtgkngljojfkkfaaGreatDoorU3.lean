/- Operations that make memory or write it. -/
import Derived.Test.YtgkngljojfkkfaaGreatDoorU2
import Derived.Laws.MakeOwn
import Derived.Laws.OwnMore
import Derived.Laws.CopyRow
import Derived.Maps.AppendAt
namespace Go.U
open Go

def zeroOf (P : Program) (t : TypeId) : Option Value := (P.info? t).bind (·.zero)

/-- lists written in place: the result is written out as it is reckoned -/
def put1 : List Value → Nat → Value → Option (List Value)
  | [], _, _ => none
  | _ :: cs, 0, v => some (v :: cs)
  | c :: cs, m + 1, v => match put1 cs m v with
    | some cs' => some (c :: cs')
    | none => none
def putN : List Value → Nat → List Value → Option (List Value)
  | cs, _, [] => some cs
  | cs, m, v :: vs => match put1 cs m v with
    | some cs' => putN cs' (m + 1) vs
    | none => none
def setAt {α : Type} : List α → Nat → α → Option (List α)
  | [], _, _ => none
  | _ :: l, 0, x => some (x :: l)
  | y :: l, m + 1, x => match setAt l m x with
    | some l' => some (y :: l')
    | none => none
def vcs : Value → Option (List Value)
  | .agg cs => some cs.toList
  | .tuple _ => none
  | v => some [v]
def ok1 : Value → Bool
  | .agg _ | .tuple _ => false
  | _ => true
def okAll : List Value → Bool
  | [] => true
  | v :: vs => match ok1 v with
    | true => okAll vs
    | false => false

theorem put1_spec : ∀ {cs : List Value} {m : Nat} {v : Value} {cs' : List Value}, put1 cs m v = some cs' → m < cs.length ∧ cs' = cs.set m v
  | [], _, _, _, h => by simp [put1] at h
  | c :: cs, 0, v, cs', h => by simp [put1] at h; subst h; simp
  | c :: cs, m + 1, v, cs', h => by
    simp only [put1] at h
    split at h
    · rename_i x hx
      simp only [Option.some.injEq] at h
      subst h
      obtain ⟨h1, rfl⟩ := put1_spec hx
      exact ⟨by simp; omega, rfl⟩
    · cases h
theorem putN_spec : ∀ {vs cs : List Value} {m : Nat} {cs' : List Value}, putN cs m vs = some cs' → (vs = [] ∨ m + vs.length ≤ cs.length) ∧ cs'.length = cs.length ∧ cs' = if vs = [] then cs else cs.take m ++ vs ++ cs.drop (m + vs.length)
  | [], cs, m, cs', h => by simp [putN] at h; subst h; simp
  | v :: vs, cs, m, cs', h => by
    simp only [putN] at h
    split at h
    · rename_i x hx
      obtain ⟨h1, rfl⟩ := put1_spec hx
      obtain ⟨h2, h3, h4⟩ := putN_spec h
      refine ⟨.inr ?_, by simpa using h3, ?_⟩
      · rcases h2 with rfl | h2
        · simp; omega
        · simp at h2 ⊢; omega
      · rw [if_neg (by simp)]
        by_cases hv : vs = []
        · subst hv
          simp at h4
          subst h4
          simp [List.set_eq_take_append_cons_drop, h1]
        · rw [if_neg hv] at h4
          rw [h4]
          have hA : (cs.take m).length = m := by simp; omega
          have e1 : (cs.set m v).take (m + 1) = cs.take m ++ [v] := by
            rw [List.set_eq_take_append_cons_drop, if_pos h1, List.take_append, hA]
            simp [List.take_take]
          have e2 : (cs.set m v).drop (m + 1 + vs.length) = cs.drop (m + (v :: vs).length) := by
            rw [List.set_eq_take_append_cons_drop, if_pos h1, List.drop_append, hA]
            have e3 : m + 1 + vs.length - m = vs.length + 1 := by omega
            rw [e3, List.drop_eq_nil_of_le (by rw [hA]; omega)]
            simp [List.drop_drop, Nat.add_comm, Nat.add_left_comm]
          rw [e1, e2]
          simp
    · cases h
theorem setAt_spec {α : Type} : ∀ {l : List α} {m : Nat} {x : α} {l' : List α}, setAt l m x = some l' → m < l.length ∧ l' = l.set m x
  | [], _, _, _, h => by simp [setAt] at h
  | c :: cs, 0, v, cs', h => by simp [setAt] at h; subst h; simp
  | c :: cs, m + 1, v, cs', h => by
    simp only [setAt] at h
    split at h
    · rename_i x hx
      simp only [Option.some.injEq] at h
      subst h
      obtain ⟨h1, rfl⟩ := setAt_spec hx
      exact ⟨by simp; omega, rfl⟩
    · cases h
theorem vcs_spec {v : Value} {vs : List Value} (h : vcs v = some vs) : v.cells.toList = vs := by
  cases v <;> simp [vcs] at h <;> simp [Value.cells, h]
theorem okAll_spec : ∀ {vs : List Value}, okAll vs = true → ∀ u ∈ vs, u.oneCell' = true
  | [], _, u, hu => by cases hu
  | v :: vs, h, u, hu => by
    simp only [okAll] at h
    split at h
    · rename_i h1
      rcases List.mem_cons.1 hu with rfl | hu
      · cases u <;> simp [ok1] at h1 <;> rfl
      · exact okAll_spec h u hu
    · cases h

section
variable {P : Program} {n : Sz} {Q : Exit → Act → World → Prop} {K : Act → World → Prop} {F : Frm} {ro : Ro} {L : List (List Blk)} {ty : TypeId} {pos : String} {aft : Array Edge} {g : Option (Nat × Bool)} {d : Tmp}

theorem I.lt {w : World} (h : I ro L w) {x : Blk} (hx : x ∈ L.flatten) : x.1 < w.heap.size := (Array.getElem?_eq_some_iff.1 (h.own x hx)).1
theorem ha_old (w : World) (o : Obj) (i : Nat) (h : i < w.heap.size) : (w.alloc o).heap[i]? = w.heap[i]? := by
  show (w.heap.push o)[i]? = w.heap[i]?
  rw [Array.getElem?_push, if_neg (Nat.ne_of_lt h)]
theorem ha_new (w : World) (o : Obj) : (w.alloc o).heap[w.heap.size]? = some o := by
  show (w.heap.push o)[w.heap.size]? = some o
  simp
theorem I.alloc {w : World} (h : I ro L w) (o : Obj) : I ro ([(w.heap.size, o)] :: L) (w.alloc o) := by
  have hnr : ro.cells w.heap.size = none := by
    cases hc : ro.cells w.heap.size with
    | none => rfl
    | some o' =>
      have := (Array.getElem?_eq_some_iff.1 (h.old _ _ hc)).1
      omega
  refine ⟨h.os, h.tape, h.output, by have := h.size; simp; omega, fun b o' hb => ?_, fun x hx => ?_, fun x hx => ?_, ?_⟩
  · have hb' := h.old b o' hb
    rw [ha_old w o _ (Array.getElem?_eq_some_iff.1 hb').1]
    exact hb'
  · rcases List.mem_cons.1 (show x ∈ (w.heap.size, o) :: L.flatten from hx) with rfl | hx'
    · exact ha_new w o
    · rw [ha_old w o _ (h.lt hx')]
      exact h.own x hx'
  · rcases List.mem_cons.1 (show x ∈ (w.heap.size, o) :: L.flatten from hx) with rfl | hx'
    · exact hnr
    · exact h.apart x hx'
  · have hn := h.nodup
    simp only [List.flatten_cons, List.singleton_append, List.map_cons, List.nodup_cons]
    refine ⟨fun hm => ?_, hn⟩
    obtain ⟨x, hx, he⟩ := List.mem_map.1 hm
    have := h.lt hx
    omega

/-- a new block -/
theorem e_new {o : Op} {mk : Nat → Value} {obj : Obj} (hd : Nat.blt d n.sz = true)
    (hrun : ∀ a w, FA n F a → J ro L.flatten w → (execOp a.eval ⟨some d, o, ty, pos, aft, g⟩).run P w = .ok (.value (mk w.heap.size)) (w.alloc obj))
    (hk : ∀ b, WQ n K ((d, mk b) :: F) ro ([(b, obj)] :: L)) : WO P n ⟨some d, o, ty, pos, aft, g⟩ K Q F ro L := fun a w hf hi => by
  simp only [Oper.wp, hrun a w hf hi.j, Oper.upon]
  exact hk _ _ _ (hf.put hd _) (hi.alloc obj)

theorem zeroOf_spec {t : TypeId} {z : Value} (h : zeroOf P t = some z) : ∃ i, P.info? t = some i ∧ i.zero = some z := by
  unfold zeroOf at h
  cases hi : P.info? t with
  | none => simp [hi] at h
  | some i => exact ⟨i, rfl, by simpa [hi] using h⟩

theorem e_alloc {t : TypeId} {z : Value} {cs : List Value} (hd : Nat.blt d n.sz = true) (hz : zeroOf P t = some z) (hc : vcs z = some cs)
    (hk : ∀ b, WQ n K ((d, .pointer (some ⟨b, 0, none⟩)) :: F) ro ([(b, .cells cs.toArray t (0, 0))] :: L)) : WO P n ⟨some d, .alloc t, ty, pos, aft, g⟩ K Q F ro L := by
  obtain ⟨i, hi, hz'⟩ := zeroOf_spec hz
  have e : z.cells = cs.toArray := by rw [← vcs_spec hc]
  exact e_new hd (fun a w _ _ => by simp [execOp, Instr.alloc, zeroValue, typeInfo, hi, hz', newVar, newRow, newObj, Sem.run, e]) hk
theorem e_box {t : TypeId} {x : Operand} {v : Value} {cs : List Value} (hd : Nat.blt d n.sz = true) (hx : ev F x = some v) (hc : vcs v = some cs)
    (hk : ∀ b, WQ n K ((d, .pointer (some ⟨b, 0, none⟩)) :: F) ro ([(b, .cells cs.toArray t (0, 0))] :: L)) : WO P n ⟨some d, .box t x, ty, pos, aft, g⟩ K Q F ro L := by
  have e : v.cells = cs.toArray := by rw [← vcs_spec hc]
  exact e_new hd (fun a w hf _ => by simp [execOp, hf.ev hx, Instr.box, newVar, newRow, newObj, Sem.run, e]) hk
theorem e_makeMap {t : TypeId} (hd : Nat.blt d n.sz = true)
    (hk : ∀ b, WQ n K ((d, .map (some b)) :: F) ro ([(b, .map #[] 0)] :: L)) : WO P n ⟨some d, .makeMap t none, ty, pos, aft, g⟩ K Q F ro L :=
  e_new (mk := fun b => .map (some b)) hd (fun a w _ _ => by simp [execOp, Instr.makeMap, newObj, Sem.run]) hk

/-- a slice's literal of one element -/
theorem e_slice1 {t e : TypeId} {x : Operand} {v z : Value} {cs : List Value} {i : TypeInfo} (hd : Nat.blt d n.sz = true) (ht : P.underlying t = some (.slice e)) (hi : P.info? e = some i) (hz : i.zero = some z) (hs : i.size = z.cells.size) (h0 : 0 < i.size) (h24 : i.size ≤ 16777216)
    (hx : ev F x = some v) (hc : vcs v = some cs) (hl : cs.length = i.size)
    (hk : ∀ b, WQ n K ((d, .slice (some ⟨b, 0, none⟩) 1 1) :: F) ro ([(b, .cells cs.toArray e (0, 0))] :: L)) : WO P n ⟨some d, .buildSlice t 1 #[(0, x)], ty, pos, aft, g⟩ K Q F ro L := by
  have ec : v.cells = cs.toArray := by rw [← vcs_spec hc]
  have hne : ¬ (16777216 < i.size) := by omega
  have hfill : Instr.fill (fun j => some (j * i.size, i.size)) ((Array.range i.size).map (z.cells[· % z.cells.size]!)) [(0, v)] = some cs.toArray := by
    have hsz : cs.toArray.size = i.size := by simpa using hl
    simp only [Instr.fill, ec, hsz]
    simp only [Bool.false_or, Nat.zero_mul, Nat.zero_add, Array.size_map, Array.size_range, gt_iff_lt, Nat.lt_irrefl, decide_false, Bool.false_eq_true, if_false, Option.some.injEq, ne_eq, not_true_eq_false]
    have key : ∀ (l : List Value) (k : Nat) (base : Array Value), base.size = k + l.length → (l.zipIdx k).foldl (fun cs (c, j) => cs.setIfInBounds j c) base = base.take k ++ l.toArray := by
      intro l
      induction l with
      | nil => intro k base hb; simp at hb; simp [← hb]
      | cons c l ih =>
        intro k base hb
        simp only [List.zipIdx_cons, List.foldl_cons]
        rw [ih (k + 1) _ (by simp at hb ⊢; omega)]
        apply Array.ext'
        have hk : k < base.size := by simp at hb; omega
        have hkl : k < base.toList.length := by simpa using hk
        simp [List.take_set, List.take_add_one, hk]
        exact List.set_eq_of_length_le (by simp; omega)
    have := key cs 0 ((Array.range i.size).map (z.cells[· % z.cells.size]!)) (by simp [hl])
    rw [← Array.foldl_toList]
    simpa using this
  have hne0 : ¬ i.size = 0 := by omega
  refine e_new (mk := fun b => .slice (some ⟨b, 0, none⟩) 1 1) hd (fun a w hf _ => ?_) hk
  simp [execOp, hf.ev hx, Instr.buildSlice, run_underlying ht, sizeOf, typeInfo, hi, zeroValue, hz, hne, hne0, hfill, newRow, newObj, Sem.run]

end
end Go.U
