/- Maps: what they hold, as a list of keys and values in the order of their coming. -/
import Derived.Test.YtgkngljojfkkfaaGreatDoorU7
namespace Go.U
open Go
set_option linter.unusedVariables false
set_option linter.unusedSectionVars false

theorem nodup_inj {α : Type} {l : List α} (h : l.Nodup) {i j : Nat} {x : α} (hi : l[i]? = some x) (hj : l[j]? = some x) : i = j := by
  have hp := List.pairwise_iff_getElem.1 h
  obtain ⟨h1, e1⟩ := List.getElem?_eq_some_iff.1 hi
  obtain ⟨h2, e2⟩ := List.getElem?_eq_some_iff.1 hj
  rcases Nat.lt_trichotomy i j with hlt | heq | hgt
  · exact absurd (e1.trans e2.symm) (hp i j h1 h2 hlt)
  · exact heq
  · exact absurd (e2.trans e1.symm) (hp j i h2 h1 hgt)
theorem beq_ba (a b : ByteArray) : (a == b) = decide (a = b) := by
  obtain ⟨a⟩ := a
  obtain ⟨b⟩ := b
  show (a == b) = decide (ByteArray.mk a = ByteArray.mk b)
  by_cases e : a = b
  · subst e; simp
  · have : ¬ (ByteArray.mk a = ByteArray.mk b) := fun h => e (by cases h; rfl)
    simp [e]

/-- keys that are told apart by sight -/
structure KEnc {κ : Type} [DecidableEq κ] (P : Program) (kt : TypeId) (enc : κ → Value) : Prop where
  und : ∃ d, P.underlying kt = some d ∧ ∀ a b, Instr.sameNow d (enc a) (enc b) = some (decide (a = b))
  check : ∀ (b : Bool) (m : Nat) (k : κ) (w : World), (Instr.checkKey b (m + 1) kt (enc k)).run P w = .ok () w
  bits : ∀ m k, Instr.sameBits (m + 1) (enc k) (enc k) = true

theorem kenc_int {P : Program} {kt : TypeId} (h : P.underlying kt = some (.int .i64)) : KEnc P kt (fun i : Int => Value.int .i64 i) where
  und := ⟨_, h, fun a b => by
    by_cases e : a = b
    · simp [Instr.sameNow, e]
    · simp [Instr.sameNow, e]⟩
  check := fun b m k w => by simp [Instr.checkKey, run_underlying h]
  bits := fun m k => by simp [Instr.sameBits]
theorem kenc_str {P : Program} {kt : TypeId} (h : P.underlying kt = some .string) : KEnc P kt (fun s : ByteArray => Value.string s) where
  und := ⟨_, h, fun a b => by simp only [Instr.sameNow, beq_ba]⟩
  check := fun b m k w => by simp [Instr.checkKey, run_underlying h]
  bits := fun m k => by simp only [Instr.sameBits, beq_ba]; simp

/-- the entries of a map -/
structure MapE {κ : Type} [DecidableEq κ] (enc : κ → Value) (m : List (κ × Value)) (es : Array MapEntry) (clk : Nat) : Prop where
  kv : es.toList.map (fun e => (e.key, e.val)) = m.map (fun p => (enc p.1, p.2))
  born : es.toList.Pairwise (fun a b => a.born < b.born)
  lt : ∀ e ∈ es.toList, e.born < clk
  nodup : (m.map (·.1)).Nodup

section
variable {κ : Type} [DecidableEq κ] {enc : κ → Value} {m : List (κ × Value)} {es : Array MapEntry} {clk : Nat}

theorem MapE.empty : MapE enc ([] : List (κ × Value)) #[] 0 := ⟨rfl, by simp, by simp, by simp⟩
theorem MapE.size (h : MapE enc m es clk) : es.size = m.length := by
  have := congrArg List.length h.kv
  simpa using this

/-- what a key stands for -/
def mget (m : List (κ × Value)) (k : κ) : Option Value := (m.find? fun p => p.1 = k).map (·.2)
/-- with another value for a key -/
def mset (m : List (κ × Value)) (k : κ) (v : Value) : List (κ × Value) :=
  if k ∈ m.map (·.1) then m.map (fun p => if p.1 = k then (p.1, v) else p) else m ++ [(k, v)]

theorem findNow_spec {d : TypeDesc} (hs : ∀ a b, Instr.sameNow d (enc a) (enc b) = some (decide (a = b))) (k : κ) : ∀ (l : List MapEntry) (m : List (κ × Value)) (i : Nat), l.map (fun e => (e.key, e.val)) = m.map (fun p => (enc p.1, p.2)) →
    (Instr.findNow d (enc k) l i = some none ∧ k ∉ m.map (·.1)) ∨
    ∃ j v, Instr.findNow d (enc k) l i = some (some (i + j, v)) ∧ m[j]? = some (k, v) ∧ (∀ q < j, ∀ p, m[q]? = some p → p.1 ≠ k)
  | [], m, i, h => by
    cases m with
    | nil => exact .inl ⟨rfl, by simp⟩
    | cons p m => simp at h
  | e :: l, m, i, h => by
    cases m with
    | nil => simp at h
    | cons p m =>
      simp only [List.map_cons, List.cons.injEq, Prod.mk.injEq] at h
      obtain ⟨⟨hk, hv⟩, hr⟩ := h
      simp only [Instr.findNow, hk, hs]
      by_cases hkp : k = p.1
      · simp only [hkp, decide_true]
        refine .inr ⟨0, p.2, by rw [hv]; rfl, by simp, by intro q hq; omega⟩
      · simp only [hkp, decide_false]
        rcases findNow_spec hs k l m (i + 1) hr with ⟨h1, h2⟩ | ⟨j, v, h1, h2, h3⟩
        · exact .inl ⟨h1, by simp only [List.map_cons, List.mem_cons, not_or]; exact ⟨hkp, h2⟩⟩
        · refine .inr ⟨j + 1, v, by rw [h1]; congr 3; omega, by simpa using h2, fun q hq p' hp' => ?_⟩
          cases q with
          | zero => simp at hp'; subst hp'; exact fun e => hkp e.symm
          | succ q => exact h3 q (by omega) p' (by simpa using hp')

theorem mget_none {k : κ} (h : k ∉ m.map (·.1)) : mget m k = none := by
  unfold mget
  rw [List.find?_eq_none.2 (fun p hp e => h (by simp at e; exact List.mem_map.2 ⟨p, hp, e⟩))]
  rfl
theorem mget_some : ∀ {m : List (κ × Value)} {k : κ} {j : Nat} {v : Value}, m[j]? = some (k, v) → (∀ q < j, ∀ p, m[q]? = some p → p.1 ≠ k) → mget m k = some v
  | [], _, _, _, h, _ => by simp at h
  | p :: m, k, 0, v, h, _ => by simp at h; subst h; simp [mget]
  | p :: m, k, j + 1, v, h, hq => by
    have h0 := hq 0 (by omega) p (by simp)
    have ih := mget_some (m := m) (k := k) (j := j) (v := v) (by simpa using h) (fun q hj p' hp' => hq (q + 1) (by omega) p' (by simpa using hp'))
    unfold mget at *
    rw [List.find?_cons_of_neg (by simpa using h0)]
    exact ih
theorem mem_of_get {m : List (κ × Value)} {k : κ} {j : Nat} {v : Value} (h : m[j]? = some (k, v)) : k ∈ m.map (·.1) := List.mem_map.2 ⟨(k, v), List.mem_of_getElem? h, rfl⟩

variable {P : Program} {n : Sz} {Q : Exit → Act → World → Prop} {K : Act → World → Prop} {F : Frm} {ro : Ro} {Kb : List Blk} {L : List (List Blk)} {dst : Option Tmp} {ty : TypeId} {pos : String} {aft : Array Edge} {g : Option (Nat × Bool)}

theorem run_findKey {kt : TypeId} (hk : KEnc P kt enc) (h : MapE enc m es clk) (k : κ) (w : World) :
    ((Instr.findKey kt (enc k) es.toList).run P w = .ok none w ∧ k ∉ m.map (·.1)) ∨
    ∃ j v, (Instr.findKey kt (enc k) es.toList).run P w = .ok (some (j, v)) w ∧ m[j]? = some (k, v) ∧ (∀ q < j, ∀ p, m[q]? = some p → p.1 ≠ k) := by
  obtain ⟨d, hu, hs⟩ := hk.und
  rcases findNow_spec hs k es.toList m 0 h.kv with ⟨h1, h2⟩ | ⟨j, v, h1, h2, h3⟩
  · exact .inl ⟨by simp [Instr.findKey, run_underlying hu, h1], h2⟩
  · rw [Nat.zero_add] at h1
    exact .inr ⟨j, v, by simp [Instr.findKey, run_underlying hu, h1], h2, h3⟩

/-- a look-up: the value, or the zero -/
theorem x_lookup {t kt et : TypeId} {x ix : Operand} {r : Nat} {k : κ} {z : Value} (ht : P.underlying t = some (.map kt et)) (hk : KEnc P kt enc) (hz : zeroOf P et = some z) (hx : ev F x = some (.map (some r))) (hi : ev F ix = some (enc k))
    (hK : (r, Obj.map es clk) ∈ Kb) (hE : MapE enc m es clk) : Ex P n F ro Kb ⟨dst, .lookup t x ix false, ty, pos, aft, g⟩ ((mget m k).getD z) := by
  intro a w hf hj
  have hr := hj.own _ hK
  simp only at hr
  obtain ⟨i, hi', hz'⟩ := zeroOf_spec hz
  have hgo : (getObj r).run P w = .ok (.map es clk) w := by simp [getObj, Sem.run, hr]
  have hc := hk.check es.isEmpty 9999 k w
  rcases run_findKey hk hE k w with ⟨h1, h2⟩ | ⟨j, v, h1, h2, h3⟩
  · rw [mget_none h2]
    simp [execOp, hf.ev hx, hf.ev hi, Instr.lookup, run_underlying ht, hgo, hc, h1, zeroValue, typeInfo, hi', hz']
  · rw [mget_some h2 h3]
    simp [execOp, hf.ev hx, hf.ev hi, Instr.lookup, run_underlying ht, hgo, hc, h1]
theorem x_lookup2 {t kt et : TypeId} {x ix : Operand} {r : Nat} {k : κ} {z : Value} (ht : P.underlying t = some (.map kt et)) (hk : KEnc P kt enc) (hz : zeroOf P et = some z) (hx : ev F x = some (.map (some r))) (hi : ev F ix = some (enc k))
    (hK : (r, Obj.map es clk) ∈ Kb) (hE : MapE enc m es clk) : Ex P n F ro Kb ⟨dst, .lookup t x ix true, ty, pos, aft, g⟩ (.tuple #[(mget m k).getD z, .bool (mget m k).isSome]) := by
  intro a w hf hj
  have hr := hj.own _ hK
  simp only at hr
  obtain ⟨i, hi', hz'⟩ := zeroOf_spec hz
  have hgo : (getObj r).run P w = .ok (.map es clk) w := by simp [getObj, Sem.run, hr]
  have hc := hk.check es.isEmpty 9999 k w
  rcases run_findKey hk hE k w with ⟨h1, h2⟩ | ⟨j, v, h1, h2, h3⟩
  · rw [mget_none h2]
    simp [execOp, hf.ev hx, hf.ev hi, Instr.lookup, run_underlying ht, hgo, hc, h1, zeroValue, typeInfo, hi', hz']
  · rw [mget_some h2 h3]
    simp [execOp, hf.ev hx, hf.ev hi, Instr.lookup, run_underlying ht, hgo, hc, h1]
/-- in the nil map -/
theorem x_lookupNil {t kt et : TypeId} {x ix : Operand} {k : κ} {z : Value} (ht : P.underlying t = some (.map kt et)) (hk : KEnc P kt enc) (hz : zeroOf P et = some z) (hx : ev F x = some (.map none)) (hi : ev F ix = some (enc k)) :
    Ex P n F ro Kb ⟨dst, .lookup t x ix false, ty, pos, aft, g⟩ z := by
  intro a w hf hj
  obtain ⟨i, hi', hz'⟩ := zeroOf_spec hz
  have hc := hk.check true 9999 k w
  obtain ⟨d, hu, hs⟩ := hk.und
  have h1 : (Instr.findKey kt (enc k) []).run P w = .ok none w := by simp [Instr.findKey, run_underlying hu, Instr.findNow]
  simp [execOp, hf.ev hx, hf.ev hi, Instr.lookup, run_underlying ht, hc, h1, zeroValue, typeInfo, hi', hz']

theorem mset_mapE (h : MapE enc m es clk) (k : κ) (v : Value) : ∃ es' clk', MapE enc (mset m k v) es' clk' ∧
    ((k ∉ m.map (·.1) ∧ es' = es.push ⟨enc k, v, clk⟩ ∧ clk' = clk + 1) ∨ (∃ j u, m[j]? = some (k, u) ∧ es' = es.modify j (fun e => { e with key := enc k, val := v }) ∧ clk' = clk)) := by
  by_cases hm : k ∈ m.map (·.1)
  · obtain ⟨p, hp, rfl⟩ := List.mem_map.1 hm
    obtain ⟨j, hj, he⟩ := List.getElem_of_mem hp
    have hget : m[j]? = some p := by rw [List.getElem?_eq_getElem hj, he]
    have hidx : ∀ q, q < m.length → ∀ p', m[q]? = some p' → p'.1 = p.1 → q = j := fun q hq p' hp' e =>
      nodup_inj h.nodup (x := p.1) (by rw [List.getElem?_map, hp']; simp [e]) (by rw [List.getElem?_map, hget]; rfl)
    have hlen := h.size
    have hbornEq : (es.modify j (fun e => { e with key := enc p.1, val := v })).toList.map (·.born) = es.toList.map (·.born) := by
      apply List.ext_getElem?
      intro q
      simp only [List.getElem?_map, Array.toList_modify, List.getElem?_modify]
      by_cases hq : j = q
      · subst hq; cases es.toList[j]? <;> simp
      · simp [hq]
    refine ⟨es.modify j (fun e => { e with key := enc p.1, val := v }), clk, ⟨?_, ?_, ?_, ?_⟩, .inr ⟨j, p.2, by simpa using hget, rfl, rfl⟩⟩
    · have hkv := h.kv
      unfold mset
      rw [if_pos hm]
      apply List.ext_getElem?
      intro q
      have hkq := congrArg (fun l => l[q]?) hkv
      simp only [List.getElem?_map] at hkq
      simp only [List.getElem?_map, Array.toList_modify, List.getElem?_modify]
      by_cases hq : j = q
      · subst hq
        rw [hget] at hkq ⊢
        simp only [Option.map_some] at hkq ⊢
        cases hes : es.toList[j]? with
        | none => rw [hes] at hkq; simp at hkq
        | some e => simp
      · simp only [if_neg hq]
        cases hmq : m[q]? with
        | none => rw [hmq] at hkq; simp at hkq; simp [hkq]
        | some p' =>
          have : p'.1 ≠ p.1 := fun e => hq (hidx q (List.getElem?_eq_some_iff.1 hmq).1 p' hmq e).symm
          rw [hmq] at hkq
          simp only [Option.map_some, this, if_false] at hkq ⊢
          rw [← hkq]
          simp
    · have := List.pairwise_map.2 h.born
      rw [← hbornEq] at this
      exact List.pairwise_map.1 this
    · intro e he
      have hb : e.born ∈ es.toList.map (·.born) := by rw [← hbornEq]; exact List.mem_map_of_mem he
      obtain ⟨e', he', heq⟩ := List.mem_map.1 hb
      rw [← heq]
      exact h.lt e' he'
    · unfold mset
      rw [if_pos hm]
      have : (m.map (fun p' => if p'.1 = p.1 then (p'.1, v) else p')).map (·.1) = m.map (·.1) := by
        rw [List.map_map]
        apply List.map_congr_left
        intro p' _
        simp only [Function.comp]
        split <;> rfl
      rw [this]
      exact h.nodup
  · refine ⟨es.push ⟨enc k, v, clk⟩, clk + 1, ⟨?_, ?_, ?_, ?_⟩, .inl ⟨hm, rfl, rfl⟩⟩
    · unfold mset
      rw [if_neg hm]
      simp [h.kv]
    · simp only [Array.toList_push, List.pairwise_append]
      exact ⟨h.born, by simp, fun a ha b hb => by simp at hb; subst hb; exact h.lt a ha⟩
    · intro e he
      simp at he
      rcases he with he | rfl
      · have := h.lt e (by simpa using he); omega
      · simp
    · unfold mset
      rw [if_neg hm]
      simp only [List.map_append, List.map_cons, List.map_nil]
      rw [List.nodup_append]
      exact ⟨h.nodup, by simp, fun a ha b hb => by simp at hb; subst hb; exact fun e => hm (e ▸ ha)⟩

/-- a store into a map of one's own -/
theorem e_mapSet {t kt et : TypeId} {x ix y : Operand} {r : Nat} {k : κ} {v : Value} {L' : Array MapEntry → Nat → List (List Blk)} (i : Nat) (ht : P.underlying t = some (.map kt et)) (hk : KEnc P kt enc) (hx : ev F x = some (.map (some r))) (hi : ev F ix = some (enc k)) (hy : ev F y = some v)
    (hL : L[i]? = some [(r, .map es clk)]) (hE : MapE enc m es clk) (hs : ∀ es' clk', setAt L i [(r, .map es' clk')] = some (L' es' clk'))
    (h : ∀ es' clk', MapE enc (mset m k v) es' clk' → WQ n K F ro (L' es' clk')) : WO P n ⟨none, .mapUpdate t x ix y, ty, pos, aft, g⟩ K Q F ro L := fun a w hf hii => by
  have hr : w.heap[r]? = some (.map es clk) := hii.own _ (mem_item hL (List.mem_singleton.2 rfl))
  obtain ⟨es', clk', hE', hcase⟩ := mset_mapE hE k v
  have hgo : (getObj r).run P w = .ok (.map es clk) w := by simp [getObj, Sem.run, hr]
  have hset : ∀ o, (setObj r o).run P w = .ok () { w with heap := w.heap.setIfInBounds r o } := fun o => by simp [setObj, Sem.run, hr]
  have hc := hk.check false 9999 k w
  have hrun : (execOp a.eval ⟨none, .mapUpdate t x ix y, ty, pos, aft, g⟩).run P w = .ok .skip { w with heap := w.heap.setIfInBounds r (.map es' clk') } := by
    rcases run_findKey hk hE k w with ⟨h1, h2⟩ | ⟨j, u, h1, h2, h3⟩
    · rcases hcase with ⟨_, rfl, rfl⟩ | ⟨j, u, hj, _⟩
      · simp [execOp, hf.ev hx, hf.ev hi, hf.ev hy, Instr.mapUpdate, run_underlying ht, hgo, hc, h1, hset]
      · exact absurd (mem_of_get hj) h2
    · rcases hcase with ⟨hn, _, _⟩ | ⟨j', u', hj, rfl, rfl⟩
      · exact absurd (mem_of_get h2) hn
      · have hjj : j' = j := nodup_inj hE.nodup (x := k) (by rw [List.getElem?_map, hj]; rfl) (by rw [List.getElem?_map, h2]; rfl)
        subst hjj
        have hkey : ((es[j']?).map (·.key)).getD (enc k) = enc k := by
          have := congrArg (fun l => l[j']?) hE.kv
          simp only [List.getElem?_map, h2, Option.map_some] at this
          cases hes : es.toList[j']? with
          | none => rw [hes] at this; simp at this
          | some e =>
            rw [hes] at this
            simp at this
            have h5 : es[j']? = some e := by simpa using hes
            simp [h5, this.1]
        have hks : (Instr.keyThatStays (((es[j']?).map (·.key)).getD (enc k)) (enc k)).run P w = .ok (enc k) w := by
          rw [hkey]
          simp [Instr.keyThatStays, hk.bits 9999 k]
        simp only [execOp, hf.ev hx, hf.ev hi, hf.ev hy, Instr.mapUpdate, Sem.run_bind, run_underlying ht, Result.andThen_ok, hgo, hc, h1, hks, hset]
        simp
  simp only [Oper.wp, hrun, Oper.upon, Act.put]
  have hlt : r < w.heap.size := (Array.getElem?_eq_some_iff.1 hr).1
  refine h es' clk' hE' _ _ hf (hii.swap hL (hs es' clk') ⟨rfl, rfl, rfl, by simp⟩ (fun b hne _ => ?_) (fun z hz => ?_) (fun z hz => .inl ⟨_, List.mem_singleton.2 rfl, by rw [List.mem_singleton.1 hz]⟩) (by simp))
  · have : r ≠ b := hne _ (List.mem_singleton.2 rfl)
    simp [this]
  · rw [List.mem_singleton.1 hz]
    simp [hlt]

end
end Go.U
