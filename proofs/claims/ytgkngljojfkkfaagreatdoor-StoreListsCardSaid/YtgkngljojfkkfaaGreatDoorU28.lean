/- An empty slice's literal; a map's entry that is made first and written later. -/
import Derived.Test.YtgkngljojfkkfaaGreatDoorU27
set_option linter.unusedVariables false
set_option linter.unusedSectionVars false
namespace Go.U
open Go
section
variable {κ : Type} [DecidableEq κ] {enc : κ → Value} {m : List (κ × Value)} {es : Array MapEntry} {clk : Nat}
variable {P : Program} {n : Sz} {Q : Exit → Act → World → Prop} {K : Act → World → Prop} {F : Frm} {ro : Ro} {L : List (List Blk)} {ty : TypeId} {pos : String} {aft : Array Edge} {g : Option (Nat × Bool)} {d : Tmp}
theorem e_slice0 {t e : TypeId} {i : TypeInfo} (hd : Nat.blt d n.sz = true) (ht : P.underlying t = some (.slice e)) (hi : P.info? e = some i)
    (hk : ∀ b, WQ n K ((d, .slice (some ⟨b, 0, none⟩) 0 0) :: F) ro ([(b, .cells #[] e (0, 0))] :: L)) : WO P n ⟨some d, .buildSlice t 0 #[], ty, pos, aft, g⟩ K Q F ro L := by
  refine e_new (mk := fun b => .slice (some ⟨b, 0, none⟩) 0 0) hd (fun a w hf _ => ?_) hk
  have e0 : Array.range 0 = #[] := by simp
  simp [execOp, Instr.buildSlice, run_underlying ht, sizeOf, typeInfo, hi, Instr.fill, newRow, newObj, Sem.run, e0]
theorem OwnS.zero {e k b : Nat} : OwnS e k (some ⟨b, 0, none⟩) 0 0 [] [(b, .cells #[] e (0, 0))] := ⟨by simp, .inr ⟨b, 0, _, rfl, rfl, Nat.le_refl _, by simp [maxLen], by simp, by simp⟩⟩

/-- the stamp of a key's entry -/
def Stm (es : Array MapEntry) (m : List (κ × Value)) (k : κ) (s : Int) : Prop := ∃ (j : Nat) (u : Value) (e : MapEntry), m[j]? = some (k, u) ∧ es[j]? = some e ∧ (e.born : Int) = s

theorem e_mapEntry {t kt et : TypeId} {x ix : Operand} {r : Nat} {k : κ} {z : Value} {L' : Array MapEntry → Nat → List (List Blk)} (i : Nat) (hd : Nat.blt d n.sz = true) (ht : P.underlying t = some (.map kt et)) (hk : KEnc P kt enc) (hz : zeroOf P et = some z) (hx : ev F x = some (.map (some r))) (hi : ev F ix = some (enc k))
    (hL : L[i]? = some [(r, .map es clk)]) (hE : MapE enc m es clk) (hs : ∀ es' clk', setAt L i [(r, .map es' clk')] = some (L' es' clk'))
    (h : ∀ es' clk' v s, MapE enc (mset m k ((mget m k).getD z)) es' clk' → Stm es' (mset m k ((mget m k).getD z)) k s → WQ n K ((d, .tuple #[v, .int .i64 s]) :: F) ro (L' es' clk')) : WO P n ⟨some d, .mapEntry t x ix, ty, pos, aft, g⟩ K Q F ro L := fun a w hf hii => by
  have hr : w.heap[r]? = some (.map es clk) := hii.own _ (mem_item hL (List.mem_singleton.2 rfl))
  have hgo : (getObj r).run P w = .ok (.map es clk) w := by simp [getObj, Sem.run, hr]
  have hset : ∀ o, (setObj r o).run P w = .ok () { w with heap := w.heap.setIfInBounds r o } := fun o => by simp [setObj, Sem.run, hr]
  have hc := hk.check false 9999 k w
  obtain ⟨iz, hi', hz'⟩ := zeroOf_spec hz
  obtain ⟨es1, clk1, hE1, hcase⟩ := mset_mapE hE k ((mget m k).getD z)
  have key : ∃ es' clk' v s, MapE enc (mset m k ((mget m k).getD z)) es' clk' ∧ Stm es' (mset m k ((mget m k).getD z)) k s ∧ (execOp a.eval ⟨some d, .mapEntry t x ix, ty, pos, aft, g⟩).run P w = .ok (.value (.tuple #[v, .int .i64 s])) { w with heap := w.heap.setIfInBounds r (.map es' clk') } := by
    rcases run_findKey hk hE k w with ⟨h1, h2⟩ | ⟨j, u, h1, h2, h3⟩
    · rcases hcase with ⟨hn, rfl, rfl⟩ | ⟨j, u, hj, _⟩
      · refine ⟨_, _, z, (clk : Nat), hE1, ⟨m.length, z, ⟨enc k, (mget m k).getD z, clk⟩, ?_, ?_, rfl⟩, ?_⟩
        · rw [mget_none h2]
          unfold mset
          rw [if_neg h2]
          simp
        · rw [← hE.size]; simp
        · rw [mget_none h2]
          simp [execOp, hf.ev hx, hf.ev hi, Instr.mapEntry, run_underlying ht, hgo, hc, h1, hset, zeroValue, typeInfo, hi', hz', goInt]
      · exact absurd (mem_of_get hj) h2
    · rcases hcase with ⟨hn, _, _⟩ | ⟨j', u', hj, rfl, rfl⟩
      · exact absurd (mem_of_get h2) hn
      · have hjj : j' = j := nodup_inj hE.nodup (x := k) (by rw [List.getElem?_map, hj]; rfl) (by rw [List.getElem?_map, h2]; rfl)
        subst hjj
        have hmg : mget m k = some u := mget_some h2 h3
        have hlt : j' < es.size := by rw [hE.size]; exact (List.getElem?_eq_some_iff.1 h2).1
        have hkv : es[j'].key = enc k ∧ es[j'].val = u := by
          have := congrArg (fun l => l[j']?) hE.kv
          simp [h2, hlt] at this
          exact this
        have hkey : ((es[j']?).map (·.key)).getD (enc k) = enc k := by simp [hlt, hkv.1]
        have hks : (Instr.keyThatStays (((es[j']?).map (·.key)).getD (enc k)) (enc k)).run P w = .ok (enc k) w := by
          rw [hkey]
          simp [Instr.keyThatStays, hk.bits 9999 k]
        refine ⟨_, _, u, (es[j'].born : Nat), hE1, ⟨j', u, (es.modify j' (fun e => { e with key := enc k, val := (mget m k).getD z }))[j']'(by simpa using hlt), ?_, ?_, ?_⟩, ?_⟩
        · rw [hmg]
          unfold mset
          rw [if_pos (mem_of_get h2), List.getElem?_map, h2]
          simp
        · exact Array.getElem?_eq_getElem _
        · simp [Array.getElem_modify]
        · have hmod : es.modify j' (fun e => { e with key := enc k, val := (mget m k).getD z }) = es.modify j' (fun e => { e with key := enc k }) := by
            apply Array.ext'
            rw [Array.toList_modify, Array.toList_modify]
            apply List.ext_getElem?
            intro q
            rw [List.getElem?_modify, List.getElem?_modify]
            by_cases hq : j' = q
            · subst hq
              have h5 : es.toList[j']? = some es[j'] := by simp [hlt]
              rw [h5, hmg]
              simp [hkv.2]
            · simp [hq]
          rw [hmod]
          simp only [execOp, hf.ev hx, hf.ev hi, Instr.mapEntry, Sem.run_bind, run_underlying ht, Result.andThen_ok, hgo, hc, h1, hks, hset]
          simp [hlt, goInt]
  obtain ⟨es', clk', v, s, hE', hst, hrun⟩ := key
  simp only [Oper.wp, hrun, Oper.upon]
  have hlt : r < w.heap.size := (Array.getElem?_eq_some_iff.1 hr).1
  refine h es' clk' v s hE' hst _ _ (hf.put hd _) (hii.swap hL (hs es' clk') ⟨rfl, rfl, rfl, by simp⟩ (fun b hne _ => ?_) (fun z hz => ?_) (fun z hz => .inl ⟨_, List.mem_singleton.2 rfl, by rw [List.mem_singleton.1 hz]⟩) (by simp))
  · have : r ≠ b := hne _ (List.mem_singleton.2 rfl)
    simp [this]
  · rw [List.mem_singleton.1 hz]
    simp [hlt]

theorem e_entryStore {t : TypeId} {x st y : Operand} {r : Nat} {k : κ} {s : Int} {v : Value} {L' : Array MapEntry → Nat → List (List Blk)} (i : Nat) (hx : ev F x = some (.map (some r))) (hst : ev F st = some (.int .i64 s)) (hy : ev F y = some v)
    (hL : L[i]? = some [(r, .map es clk)]) (hE : MapE enc m es clk) (hS : Stm es m k s) (hs : ∀ es' clk', setAt L i [(r, .map es' clk')] = some (L' es' clk'))
    (h : ∀ es' clk', MapE enc (mset m k v) es' clk' → WQ n K F ro (L' es' clk')) : WO P n ⟨none, .entryStore t x st y, ty, pos, aft, g⟩ K Q F ro L := fun a w hf hii => by
  have hr : w.heap[r]? = some (.map es clk) := hii.own _ (mem_item hL (List.mem_singleton.2 rfl))
  have hgo : (getObj r).run P w = .ok (.map es clk) w := by simp [getObj, Sem.run, hr]
  have hset : ∀ o, (setObj r o).run P w = .ok () { w with heap := w.heap.setIfInBounds r o } := fun o => by simp [setObj, Sem.run, hr]
  obtain ⟨j, u, e, hj, he, hb⟩ := hS
  have hlt : j < es.size := (Array.getElem?_eq_some_iff.1 he).1
  have hej : es[j] = e := (Array.getElem?_eq_some_iff.1 he).2
  obtain ⟨es1, clk1, hE1, hcase⟩ := mset_mapE hE k v
  have hkv : es[j].key = enc k ∧ es[j].val = u := by
    have := congrArg (fun l => l[j]?) hE.kv
    simp [hj, hlt] at this
    exact this
  rcases hcase with ⟨hn, _, _⟩ | ⟨j', u', hj', rfl, rfl⟩
  · exact absurd (mem_of_get hj) hn
  · have hjj : j' = j := nodup_inj hE.nodup (x := k) (by rw [List.getElem?_map, hj']; rfl) (by rw [List.getElem?_map, hj]; rfl)
    subst hjj
    have hmod : es.modify j' (fun e => { e with key := enc k, val := v }) = es.modify j' (fun e => { e with val := v }) := by
      apply Array.ext'
      rw [Array.toList_modify, Array.toList_modify]
      apply List.ext_getElem?
      intro q
      rw [List.getElem?_modify, List.getElem?_modify]
      by_cases hq : j' = q
      · subst hq
        have h5 : es.toList[j']? = some es[j'] := by simp [hlt]
        rw [h5]
        have h6 : es[j'] = ⟨enc k, es[j'].val, es[j'].born⟩ := by
          have := hkv.1
          cases hx : es[j']
          rw [hx] at this
          simp at this
          simp [this]
        simp only [if_true, Option.map_eq_map, Option.map_some]
        rw [h6]
      · simp [hq]
    have hfind : es.findIdx? (fun e => (e.born : Int) == s) = some j' := by
      rw [Array.findIdx?_eq_some_iff_getElem]
      refine ⟨hlt, by simp [hej, hb], fun q hq => ?_⟩
      have hp := List.pairwise_iff_getElem.1 hE.born q j' (by simp; omega) (by simpa using hlt) hq
      simp only [Array.getElem_toList] at hp
      have : (es[q].born : Int) ≠ s := by rw [← hb, ← hej]; omega
      simpa using this
    have hrun : (execOp a.eval ⟨none, .entryStore t x st y, ty, pos, aft, g⟩).run P w = .ok .skip { w with heap := w.heap.setIfInBounds r (.map (es.modify j' (fun e => { e with key := enc k, val := v })) clk1) } := by
      rw [hmod]
      subst hb
      simp only [execOp, hf.ev hx, hf.ev hst, hf.ev hy, Instr.entryStore, Sem.run_bind, hgo, Result.andThen_ok, asInt, asIntOf, Sem.run_map, Sem.run_pure, hfind, hset]
    simp only [Oper.wp, hrun, Oper.upon, Act.put]
    have hltr : r < w.heap.size := (Array.getElem?_eq_some_iff.1 hr).1
    refine h _ _ hE1 _ _ hf (hii.swap hL (hs _ _) ⟨rfl, rfl, rfl, by simp⟩ (fun b hne _ => ?_) (fun z hz => ?_) (fun z hz => .inl ⟨_, List.mem_singleton.2 rfl, by rw [List.mem_singleton.1 hz]⟩) (by simp))
    · have : r ≠ b := hne _ (List.mem_singleton.2 rfl)
      simp [this]
    · rw [List.mem_singleton.1 hz]
      simp [hltr]
end
end Go.U
