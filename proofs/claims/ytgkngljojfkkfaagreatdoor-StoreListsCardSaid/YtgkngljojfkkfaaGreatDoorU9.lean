/- Ranging over a map. -/
import Derived.Test.YtgkngljojfkkfaaGreatDoorU8
namespace Go.U
open Go
set_option linter.unusedVariables false
set_option linter.unusedSectionVars false

/-- an iterator over a map that is not written meanwhile: what is still to come -/
structure IterM {κ : Type} [DecidableEq κ] (enc : κ → Value) (es : Array MapEntry) (clk : Nat) (seen : Array Nat) (rem : List (κ × Value)) : Prop where
  out : (es.toList.filter fun e => !seen.contains e.born).map (fun e => (e.key, e.val)) = rem.map (fun p => (enc p.1, p.2))

/-- the entry that came last -/
structure LastE {κ : Type} [DecidableEq κ] (enc : κ → Value) (es : Array MapEntry) (seen : Array Nat) (k : κ) (v : Value) : Prop where
  out : ∃ e, seen.back? = some e.born ∧ es.find? (·.born == e.born) = some e ∧ e.key = enc k ∧ e.val = v

section
variable {κ : Type} [DecidableEq κ] {enc : κ → Value} {m : List (κ × Value)} {es : Array MapEntry} {clk : Nat}
variable {P : Program} {n : Sz} {Q : Exit → Act → World → Prop} {K : Act → World → Prop} {F : Frm} {ro : Ro} {Kb : List Blk} {L : List (List Blk)} {d : Tmp} {dst : Option Tmp} {ty : TypeId} {pos : String} {aft : Array Edge} {g : Option (Nat × Bool)}

theorem MapE.iter (h : MapE enc m es clk) : IterM enc es clk #[] m := ⟨by rw [List.filter_eq_self.2 (fun e _ => by simp)]; exact h.kv⟩

theorem e_range {t kt et : TypeId} {x : Operand} {r : Nat} (hd : Nat.blt d n.sz = true) (ht : P.underlying t = some (.map kt et)) (hx : ev F x = some (.map (some r))) (hK : (r, Obj.map es clk) ∈ L.flatten)
    (h : ∀ it, WQ n K ((d, .pointer (some ⟨it, 0, none⟩)) :: F) ro ([(it, .mapIter (some r) clk #[] clk)] :: L)) : WO P n ⟨some d, .range t x, ty, pos, aft, g⟩ K Q F ro L := by
  refine e_new (mk := fun it => .pointer (some ⟨it, 0, none⟩)) hd (fun a w hf hj => ?_) h
  have hr := hj.own _ hK
  simp only at hr
  have hgo : (getObj r).run P w = .ok (.map es clk) w := by simp [getObj, Sem.run, hr]
  simp [execOp, hf.ev hx, Instr.range, run_underlying ht, hgo, newObj, Sem.run]
theorem e_rangeNil {t kt et : TypeId} {x : Operand} (hd : Nat.blt d n.sz = true) (ht : P.underlying t = some (.map kt et)) (hx : ev F x = some (.map none))
    (h : ∀ it, WQ n K ((d, .pointer (some ⟨it, 0, none⟩)) :: F) ro ([(it, .mapIter none 0 #[] 0)] :: L)) : WO P n ⟨some d, .range t x, ty, pos, aft, g⟩ K Q F ro L := by
  refine e_new (mk := fun it => .pointer (some ⟨it, 0, none⟩)) hd (fun a w hf hj => ?_) h
  simp [execOp, hf.ev hx, Instr.range, run_underlying ht, newObj, Sem.run]

theorem born_inj (h : MapE enc m es clk) {a b : MapEntry} (ha : a ∈ es.toList) (hb : b ∈ es.toList) (e : a.born = b.born) : a = b := by
  obtain ⟨i, hi, rfl⟩ := List.getElem_of_mem ha
  obtain ⟨j, hj, rfl⟩ := List.getElem_of_mem hb
  have hp := List.pairwise_iff_getElem.1 h.born
  rcases Nat.lt_trichotomy i j with hlt | heq | hgt
  · have := hp i j hi hj hlt; omega
  · subst heq; rfl
  · have := hp j i hj hi hgt; omega

theorem e_next {it r : Nat} {x : Operand} {seen : Array Nat} {rem : List (κ × Value)} {L' : Array Nat → List (List Blk)} (i : Nat) (hd : Nat.blt d n.sz = true) (hx : ev F x = some (.pointer (some ⟨it, 0, none⟩)))
    (hL : L[i]? = some [(it, .mapIter (some r) clk seen clk)]) (hK : (r, Obj.map es clk) ∈ L.flatten) (hE : MapE enc m es clk) (hI : IterM enc es clk seen rem)
    (hs : ∀ seen', setAt L i [(it, .mapIter (some r) clk seen' clk)] = some (L' seen'))
    (h0 : rem = [] → WQ n K ((d, .tuple #[.bool false]) :: F) ro L)
    (h1 : ∀ k v rem' seen', rem.Perm ((k, v) :: rem') → IterM enc es clk seen' rem' → LastE enc es seen' k v → WQ n K ((d, .tuple #[.bool true, enc k, v]) :: F) ro (L' seen')) :
    WO P n ⟨some d, .next x false, ty, pos, aft, g⟩ K Q F ro L := fun a w hf hii => by
  have hit : w.heap[it]? = some (.mapIter (some r) clk seen clk) := hii.own _ (mem_item hL (List.mem_singleton.2 rfl))
  have hr : w.heap[r]? = some (.map es clk) := hii.own _ hK
  have hgoI : (getObj it).run P w = .ok (.mapIter (some r) clk seen clk) w := by simp [getObj, Sem.run, hit]
  have hgo : (getObj r).run P w = .ok (.map es clk) w := by simp [getObj, Sem.run, hr]
  have hstale : (!seen.isEmpty && !es.isEmpty && es.all fun x => decide (x.born ≥ clk)) = false := by
    by_cases hes : es.isEmpty = true
    · simp [hes]
    · have : es.toList ≠ [] := by simpa using hes
      obtain ⟨e, he⟩ := List.exists_mem_of_ne_nil _ this
      have hlt := hE.lt e he
      have : (es.all fun x => decide (x.born ≥ clk)) = false := by
        rw [Bool.eq_false_iff]
        intro hall
        have := Array.all_eq_true'.1 hall e (by simpa using he)
        simp at this
        omega
      simp [this]
  generalize hleft : es.filter (fun e => !seen.contains e.born) = left
  have hleftL : left.toList = es.toList.filter fun e => !seen.contains e.born := by rw [← hleft]; simp
  have hold : left.filter (fun e => decide (e.born < clk)) = left := by
    apply Array.filter_eq_self.2
    intro e he
    have : e ∈ es.toList := by have h2 : e ∈ left.toList := by simpa using he
                               rw [hleftL] at h2; exact (List.mem_filter.1 h2).1
    have := hE.lt e this
    simpa using this
  have hnew : left.filter (fun e => decide (e.born ≥ clk)) = #[] := by
    apply Array.filter_eq_empty_iff.2
    intro e he
    have : e ∈ es.toList := by have h2 : e ∈ left.toList := by simpa using he
                               rw [hleftL] at h2; exact (List.mem_filter.1 h2).1
    have := hE.lt e this
    simp
    omega
  have hkv := hI.out
  rw [← hleftL] at hkv
  by_cases hempty : left.isEmpty = true
  · -- nothing is left
    have hrem : rem = [] := by
      have : left.toList = [] := by simpa using hempty
      rw [this] at hkv
      cases rem with
      | nil => rfl
      | cons p ps => simp at hkv
    have hcand : (if left.isEmpty = true then #[none] else #[]) ++ (left ++ #[]).map some = #[(none : Option MapEntry)] := by
      have : left = #[] := by simpa using hempty
      subst this
      simp
    have hrun : (execOp a.eval ⟨some d, .next x false, ty, pos, aft, g⟩).run P w = .ok (.value (.tuple #[.bool false])) w := by
      simp only [execOp, hf.ev hx, Instr.next, Sem.run_bind, hgoI, Result.andThen_ok, hgo, hstale, Bool.false_eq_true, if_false, hleft, hold, hnew, hcand]
      simp [choose, Sem.run, Question.forced]
    simp only [Oper.wp, hrun, Oper.upon]
    exact h0 hrem _ _ (hf.put hd _) hii
  · have hcand : (if left.isEmpty = true then #[none] else #[]) ++ (left ++ #[]).map some = left.map some := by
      rw [if_neg hempty]; simp
    have hsz : 0 < left.size := by
      rcases Nat.eq_zero_or_pos left.size with h | h
      · exact absurd (by simpa using h) hempty
      · exact h
    have hch : ∃ q w1, (choose (.mapNext (left.map some).size)).run P w = .ok q w1 ∧ q < left.size ∧ (w1 = w ∨ w1 = { w with drawn := w.drawn + 1 }) := by
      simp only [choose, Sem.run, Question.forced, Array.size_map]
      by_cases h1 : left.size ≤ 1
      · simp only [h1, decide_true, if_true]
        exact ⟨0, w, rfl, hsz, .inl rfl⟩
      · simp only [h1, decide_false, Bool.false_eq_true, if_false]
        exact ⟨_, _, rfl, Nat.mod_lt _ hsz, .inr rfl⟩
    obtain ⟨q, w1, hch1, hq, hw1⟩ := hch
    have hgetq : (left.map some)[q]? = some (some left[q]) := by simp [hq]
    have hii1 : I ro L w1 := by rcases hw1 with rfl | rfl; exact hii; exact hii.drew
    have hit1 : w1.heap[it]? = some (.mapIter (some r) clk seen clk) := hii1.own _ (mem_item hL (List.mem_singleton.2 rfl))
    have hset : (setObj it (.mapIter (some r) clk (seen.push left[q].born) clk)).run P w1 = .ok () { w1 with heap := w1.heap.setIfInBounds it (.mapIter (some r) clk (seen.push left[q].born) clk) } := by simp [setObj, Sem.run, hit1]
    have hrun : (execOp a.eval ⟨some d, .next x false, ty, pos, aft, g⟩).run P w = .ok (.value (.tuple #[.bool true, left[q].key, left[q].val])) { w1 with heap := w1.heap.setIfInBounds it (.mapIter (some r) clk (seen.push left[q].born) clk) } := by
      simp only [execOp, hf.ev hx, Instr.next, Sem.run_bind, hgoI, Result.andThen_ok, hgo, hstale, Bool.false_eq_true, if_false, hleft, hold, hnew, hcand, hch1, hgetq, hset, Sem.run_pure]
    simp only [Oper.wp, hrun, Oper.upon]
    -- which one it is
    have hqr : q < rem.length := by have := congrArg List.length hkv; simp at this; omega
    have hke : left[q].key = enc rem[q].1 ∧ left[q].val = rem[q].2 := by
      have := congrArg (fun l => l[q]?) hkv
      simp [hq, hqr] at this
      exact this
    have hmemL : left[q] ∈ left.toList := by simp
    have hmem : left[q] ∈ es.toList := by rw [hleftL] at hmemL; exact (List.mem_filter.1 hmemL).1
    rw [hke.1, hke.2]
    have hlt : it < w1.heap.size := (Array.getElem?_eq_some_iff.1 hit1).1
    refine h1 rem[q].1 rem[q].2 (rem.eraseIdx q) (seen.push left[q].born) ?_ ⟨?_⟩ ⟨left[q], by simp, ?_, hke.1, hke.2⟩ _ _ (hf.put hd _) (hii1.swap hL (hs _) ⟨rfl, rfl, rfl, by simp⟩ (fun b hne _ => ?_) (fun z hz => ?_) (fun z hz => .inl ⟨_, List.mem_singleton.2 rfl, by rw [List.mem_singleton.1 hz]⟩) (by simp))
    · have e : rem = rem.take q ++ rem[q] :: rem.drop (q + 1) := by simp
      have e2 : (rem[q].1, rem[q].2) = rem[q] := rfl
      rw [e2, List.eraseIdx_eq_take_drop_succ]
      conv => lhs; rw [e]
      exact List.perm_middle
    · have hfil : (es.toList.filter fun e => !(seen.push left[q].born).contains e.born) = left.toList.eraseIdx q := by
        have h3 : (es.toList.filter fun e => !(seen.push left[q].born).contains e.born) = left.toList.filter fun e => e.born != left[q].born := by
          rw [hleftL, List.filter_filter]
          apply List.filter_congr
          intro e _
          by_cases h6 : e.born = left[q].born
          · simp [h6]
          · have h7 : ¬ left[q].born = e.born := fun h => h6 h.symm
            simp [h6]
        rw [h3]
        have hbi : ∀ j (hj : j < left.size), left[j].born = left[q].born → j = q := fun j hj e => by
          have hpw : left.toList.Pairwise (fun a b => a.born < b.born) := by rw [hleftL]; exact List.Pairwise.filter _ hE.born
          have hp := List.pairwise_iff_getElem.1 hpw
          rcases Nat.lt_trichotomy j q with h | h | h
          · have := hp j q (by simpa using hj) (by simpa using hq) h; simp at this; omega
          · exact h
          · have := hp q j (by simpa using hq) (by simpa using hj) h; simp at this; omega
        have hq' : q < left.toList.length := by simpa using hq
        have hsplit : left.toList = left.toList.take q ++ left.toList[q] :: left.toList.drop (q + 1) := by
          rw [List.getElem_cons_drop, List.take_append_drop]
        have hall1 : ∀ e ∈ left.toList.take q, (e.born != left[q].born) = true := fun e he => by
          obtain ⟨j, hj, rfl⟩ := List.getElem_of_mem he
          simp at hj
          simp only [bne_iff_ne, ne_eq]
          intro e2
          have := hbi j (by omega) (by simpa using e2)
          omega
        have hall2 : ∀ e ∈ left.toList.drop (q + 1), (e.born != left[q].born) = true := fun e he => by
          obtain ⟨j, hj, rfl⟩ := List.getElem_of_mem he
          simp at hj
          simp only [bne_iff_ne, ne_eq]
          intro e2
          have := hbi (q + 1 + j) (by omega) (by simpa using e2)
          omega
        conv => lhs; rw [hsplit]
        rw [List.filter_append, List.filter_cons, List.filter_eq_self.2 hall1, List.filter_eq_self.2 hall2, List.eraseIdx_eq_take_drop_succ]
        simp
      rw [hfil]
      have e5 : ∀ (l : List MapEntry) (p : List (κ × Value)) (q : Nat), l.map (fun e => (e.key, e.val)) = p.map (fun p => (enc p.1, p.2)) → (l.eraseIdx q).map (fun e => (e.key, e.val)) = (p.eraseIdx q).map (fun p => (enc p.1, p.2)) := by
        intro l p q hh
        rw [List.eraseIdx_eq_take_drop_succ, List.eraseIdx_eq_take_drop_succ, List.map_append, List.map_append, List.map_take, List.map_take, List.map_drop, List.map_drop, hh]
      exact e5 _ _ q hkv
    · have hfind : ∃ e, es.find? (·.born == left[q].born) = some e := by
        cases hc : es.find? (·.born == left[q].born) with
        | some e => exact ⟨e, rfl⟩
        | none =>
          have := Array.find?_eq_none.1 hc left[q] (by simpa using hmem)
          simp at this
      obtain ⟨e, he⟩ := hfind
      have hb : e.born = left[q].born := by simpa using Array.find?_some he
      have hm2 : e ∈ es.toList := by simpa using Array.mem_of_find?_eq_some he
      rw [he, born_inj hE hm2 hmem hb]
    · have : it ≠ b := hne _ (List.mem_singleton.2 rfl)
      simp [this]
    · rw [List.mem_singleton.1 hz]
      simp [hlt]

theorem e_nextNil {it : Nat} {x : Operand} (hd : Nat.blt d n.sz = true) (hx : ev F x = some (.pointer (some ⟨it, 0, none⟩))) (hK : (it, Obj.mapIter none 0 #[] 0) ∈ L.flatten)
    (h0 : WQ n K ((d, .tuple #[.bool false]) :: F) ro L) : WO P n ⟨some d, .next x false, ty, pos, aft, g⟩ K Q F ro L := fun a w hf hii => by
  have hit : w.heap[it]? = some (.mapIter none 0 #[] 0) := hii.own _ hK
  have hgoI : (getObj it).run P w = .ok (.mapIter none 0 #[] 0) w := by simp [getObj, Sem.run, hit]
  have hrun : (execOp a.eval ⟨some d, .next x false, ty, pos, aft, g⟩).run P w = .ok (.value (.tuple #[.bool false])) w := by
    simp [execOp, hf.ev hx, Instr.next, hgoI]
  simp only [Oper.wp, hrun, Oper.upon]
  exact h0 _ _ (hf.put hd _) hii

theorem x_entry {it r : Nat} {x : Operand} {seen : Array Nat} {k : κ} {v : Value} (hx : ev F x = some (.pointer (some ⟨it, 0, none⟩))) (hi : (it, Obj.mapIter (some r) clk seen clk) ∈ Kb) (hK : (r, Obj.map es clk) ∈ Kb) (hl : LastE enc es seen k v) :
    Ex P n F ro Kb ⟨dst, .entry x, ty, pos, aft, g⟩ (.tuple #[enc k, v]) := fun a w hf hj => by
  have hit := hj.own _ hi
  have hr := hj.own _ hK
  simp only at hit hr
  have hgoI : (getObj it).run P w = .ok (.mapIter (some r) clk seen clk) w := by simp [getObj, Sem.run, hit]
  have hgo : (getObj r).run P w = .ok (.map es clk) w := by simp [getObj, Sem.run, hr]
  obtain ⟨e, h1, h2, h3, h4⟩ := hl.out
  simp only [execOp, hf.ev hx, Instr.entry, Sem.run_bind, hgoI, Result.andThen_ok, h1, hgo, bne_self_eq_false, Bool.false_eq_true, if_false, h2, Sem.run_pure]
  rw [h3, h4]

end
end Go.U
