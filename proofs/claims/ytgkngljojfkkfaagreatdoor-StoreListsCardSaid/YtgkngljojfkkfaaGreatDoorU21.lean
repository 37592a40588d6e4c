/- More operations: slices with three places, clear; maps of counts. -/
import Derived.Test.YtgkngljojfkkfaaGreatDoorU20
set_option linter.unusedVariables false
set_option linter.unusedSectionVars false
namespace Go.U
open Go
section
variable {P : Program} {n : Sz} {Q : Exit → Act → World → Prop} {K : Act → World → Prop} {F : Frm} {ro : Ro} {Kb : List Blk} {L : List (List Blk)} {d : Tmp} {dst : Option Tmp} {ty : TypeId} {pos : String} {aft : Array Edge} {g : Option (Nat × Bool)}
theorem x_slice3 {t : TypeId} {x lo hi mx : Operand} {A : Option Addr} {len cap k : Nat} {k1 k2 k3 : IntKind} {p q r : Nat} (ht : slSize P t = some k) (hx : ev F x = some (.slice A len cap)) (hl : ev F lo = some (.int k1 (p : Nat))) (hh : ev F hi = some (.int k2 (q : Nat))) (hm : ev F mx = some (.int k3 (r : Nat)))
    (h5 : p ≤ q) (h6 : q ≤ r) (h7 : r ≤ cap) : Ex P n F ro Kb ⟨dst, .slice t x (some lo) (some hi) (some mx), ty, pos, aft, g⟩ (.slice (if r = p then A else A.map (·.add (p * k))) (q - p) (r - p)) := by
  obtain ⟨e, i', hu, hi', rfl⟩ := slSize_spec ht
  intro a w hf _
  simp [execOp, hf.ev hx, hf.ev hl, hf.ev hh, hf.ev hm, Instr.sliceAt, Instr.slice, run_underlying hu, Instr.sliceBounds, Instr.sliceBound, asIntOf, h5, h6, h7, sizeOf, typeInfo, hi']
theorem x_sliceHi3 {t : TypeId} {x hi mx : Operand} {A : Option Addr} {len cap k : Nat} {k2 k3 : IntKind} {q r : Nat} (ht : slSize P t = some k) (hx : ev F x = some (.slice A len cap)) (hh : ev F hi = some (.int k2 (q : Nat))) (hm : ev F mx = some (.int k3 (r : Nat)))
    (h6 : q ≤ r) (h7 : r ≤ cap) : Ex P n F ro Kb ⟨dst, .slice t x none (some hi) (some mx), ty, pos, aft, g⟩ (.slice A q r) := by
  obtain ⟨e, i', hu, hi', rfl⟩ := slSize_spec ht
  intro a w hf _
  simp [execOp, hf.ev hx, hf.ev hh, hf.ev hm, Instr.sliceAt, Instr.slice, run_underlying hu, Instr.sliceBounds, Instr.sliceBound, asIntOf, h6, h7, sizeOf, typeInfo, hi']
  intro _
  cases A <;> simp [Addr.add]
theorem x_sliceN {t : TypeId} {x lo hi : Operand} {k b off len cap : Nat} {k1 k2 : IntKind} {i j : Nat} (ht : slSize P t = some k) (hx : ev F x = some (.slice (some ⟨b, off, none⟩) len cap)) (hl : ev F lo = some (.int k1 (i : Nat))) (hh : ev F hi = some (.int k2 (j : Nat)))
    (h1 : i ≤ j) (h2 : j ≤ cap) (h3 : i < cap) : Ex P n F ro Kb ⟨dst, .slice t x (some lo) (some hi) none, ty, pos, aft, g⟩ (.slice (some ⟨b, off + i * k, none⟩) (j - i) (cap - i)) := by
  have h := x_slice (P := P) (n := n) (ro := ro) (K := Kb) (dst := dst) (ty := ty) (pos := pos) (aft := aft) (g := g) ht hx hl hh (by omega) (by omega) (by omega)
  have hne : ¬ cap = (i : Int).toNat := by simp; omega
  rw [cutA, if_neg hne] at h
  simpa [add_lit] using h

theorem OwnS.takeS {e k : Nat} {A : Option Addr} {m cap j : Nat} {xs : List Value} {R : List Blk} (h : OwnS e k A m cap xs R) (hj : j ≤ m) : OwnS e k A j cap (xs.take (j * k)) R := by
  obtain ⟨h1, ⟨rfl, rfl, rfl, rfl⟩ | ⟨g, off, cur, rfl, rfl, h2, h3, h4, h5⟩⟩ := h
  · obtain rfl : j = 0 := by omega
    exact ⟨by simp, .inl ⟨rfl, rfl, rfl, rfl⟩⟩
  · have hjm : j * k ≤ m * k := Nat.mul_le_mul_right _ hj
    refine ⟨by simp; omega, .inr ⟨g, off, cur, rfl, rfl, by omega, h3, h4, ?_⟩⟩
    rw [← h5, List.take_take, Nat.min_eq_left hjm]
/-- append where there is room: in place -/
theorem e_appendIn {t t3 e : TypeId} {k bytes : Nat} {x y : Operand} {A B : Option Addr} {m cap m2 c2 : Nat} {xs news : List Value} {R : List Blk} {L' : List Blk → List (List Blk)} (i : Nat) (hd : Nat.blt d n.sz = true) (ht : SlTy P t e k bytes)
    (hx : ev F x = some (.slice A m cap)) (hy : ev F y = some (.slice B m2 c2)) (hL : L[i]? = some R) (hO : OwnS e k A m cap xs R) (hS : Src ro L.flatten k B m2 news) (hok : ∀ u ∈ news, u.oneCell' = true)
    (hroom : m + m2 ≤ cap) (h0 : 0 < m2) (hs : ∀ R', setAt L i R' = some (L' R'))
    (h : ∀ R', OwnS e k A (m + m2) cap (xs ++ news) R' → WQ n K ((d, .slice A (m + m2) cap) :: F) ro (L' R')) :
    WO P n ⟨some d, .call { callee := .builtin .append, args := #[x, y], argTypes := #[t, t] }, t3, pos, aft, g⟩ K Q F ro L := fun a w hf hi => by
  obtain ⟨hu, ⟨j, z, hi', hz, hk, hby, hzk⟩, hpos⟩ := ht
  subst hk
  obtain ⟨hnl, hcells⟩ := hS
  obtain ⟨hxl, hO'⟩ := hO
  have hlen : (xs ++ news).length = (m + m2) * j.size := by rw [List.length_append, hxl, hnl, Nat.add_mul]
  obtain ⟨b, off2, rfl, hc⟩ := hcells h0
  have hnews : ∀ q u, news[q]? = some u → w.cell? ((⟨b, off2, none⟩ : Addr).add q) = some u := fun q u hq => by rw [add_lit]; exact hc q u hq w hi.j
  rcases hO' with ⟨rfl, rfl, rfl, rfl⟩ | ⟨gb, off, cur, rfl, rfl, h2, h3, h4, h5⟩
  · omega
  · have hg : w.heap[gb]? = some (.cells cur e (0, 0)) := hi.own _ (mem_item hL (List.mem_singleton.2 rfl))
    have hfit : off + m * j.size + news.length ≤ cur.size := by
      have : m * j.size + m2 * j.size ≤ cap * j.size := by rw [← Nat.add_mul]; exact Nat.mul_le_mul_right _ hroom
      omega
    have hff := run_firstCells_some (P := P) w j.size m2 ⟨b, off2, none⟩ m2 c2 news hnl hnews
    have hst := run_storeCells_at P gb (off + m * j.size) e news 0 cur w hg (by simpa using hfit) hok
    simp only [Nat.add_zero] at hst
    have hr : (Builtin.append_ #[t, t] t3 #[.slice (some ⟨gb, off, none⟩) m cap, .slice (some ⟨b, off2, none⟩) m2 c2]).run P w = .ok (.slice (some ⟨gb, off, none⟩) (m + m2) cap) (w.setRow gb (cur.toList.take (off + m * j.size) ++ news ++ cur.toList.drop (off + m * j.size + news.length)).toArray) := by
      simp [Builtin.append_, run_underlying hu, sizeOf, typeInfo, hi', Builtin.lenOf, hroom, hff, add_lit, hst]
    have hrun : (execOp a.eval ⟨some d, .call { callee := .builtin .append, args := #[x, y], argTypes := #[t, t] }, t3, pos, aft, g⟩).run P w = .ok (.value (.slice (some ⟨gb, off, none⟩) (m + m2) cap)) (w.setRow gb (cur.toList.take (off + m * j.size) ++ news ++ cur.toList.drop (off + m * j.size + news.length)).toArray) := by
      simp only [execOp, resolve, invoke, builtin, Sem.run_bind, Sem.run_pure, Result.andThen_ok, List.map_toArray, List.map_cons, List.map_nil, hf.ev hx, hf.ev hy, hr]
    simp only [Oper.wp, hrun, Oper.upon]
    refine h [(gb, .cells (cur.toList.take (off + m * j.size) ++ news ++ cur.toList.drop (off + m * j.size + news.length)).toArray e (0, 0))] ⟨hlen, .inr ⟨gb, off, _, rfl, rfl, hroom, h3, ?_, ?_⟩⟩ _ _ (hf.put hd _)
      (hi.swap hL (hs _) ⟨rfl, rfl, rfl, by simp⟩ (fun b' hne _ => setRow_other w gb b' _ (fun e' => hne _ (List.mem_singleton.2 rfl) e'.symm)) (fun q hq => ?_) (fun q hq => .inl ⟨_, List.mem_singleton.2 rfl, by rw [List.mem_singleton.1 hq]⟩) (by simp))
    · simp only [List.size_toArray, List.length_append, List.length_take, List.length_drop, Array.length_toList]
      omega
    · have hcl : off + m * j.size ≤ cur.toList.length := by simp; omega
      rw [List.append_assoc, List.drop_append, List.length_take, Nat.min_eq_left hcl]
      have e1 : off - (off + m * j.size) = 0 := by omega
      rw [e1, List.drop_zero, List.drop_take]
      have e2 : off + m * j.size - off = m * j.size := by omega
      rw [e2, h5, ← List.append_assoc, ← hlen]
      exact List.take_left
    · rw [List.mem_singleton.1 hq]; exact setRow_heap w gb cur _ e _ hg
theorem e_append0 {t t3 e : TypeId} {k bytes : Nat} {x y : Operand} {A B : Option Addr} {m cap c2 : Nat} (hd : Nat.blt d n.sz = true) (ht : SlTy P t e k bytes)
    (hx : ev F x = some (.slice A m cap)) (hy : ev F y = some (.slice B 0 c2)) (hcap : m ≤ cap)
    (h : WQ n K ((d, .slice A m cap) :: F) ro L) :
    WO P n ⟨some d, .call { callee := .builtin .append, args := #[x, y], argTypes := #[t, t] }, t3, pos, aft, g⟩ K Q F ro L := fun a w hf hi => by
  obtain ⟨hu, ⟨j, z, hi', hz, hk, hby, hzk⟩, hpos⟩ := ht
  have hr : (Builtin.append_ #[t, t] t3 #[.slice A m cap, .slice B 0 c2]).run P w = .ok (.slice A m cap) w := by
    cases B with
    | none => cases A <;> simp [Builtin.append_, run_underlying hu, sizeOf, typeInfo, hi', Builtin.lenOf, hcap, Builtin.firstCells, storeCells]
    | some ad => cases A <;> simp [Builtin.append_, run_underlying hu, sizeOf, typeInfo, hi', Builtin.lenOf, hcap, Builtin.firstCells, storeCells, loadCells, loadCellsFrom]
  have hrun : (execOp a.eval ⟨some d, .call { callee := .builtin .append, args := #[x, y], argTypes := #[t, t] }, t3, pos, aft, g⟩).run P w = .ok (.value (.slice A m cap)) w := by
    simp only [execOp, resolve, invoke, builtin, Sem.run_bind, Sem.run_pure, Result.andThen_ok, List.map_toArray, List.map_cons, List.map_nil, hf.ev hx, hf.ev hy, hr]
  simp only [Oper.wp, hrun, Oper.upon]
  exact h _ _ (hf.put hd _) hi

theorem setAt_same {i : Nat} {R : List Blk} {L1 : List (List Blk)} (hL : L[i]? = some R) (hs : setAt L i R = some L1) : L1 = L := by
  obtain ⟨hlt, rfl⟩ := setAt_spec hs
  apply List.ext_getElem?
  intro j
  rw [List.getElem?_set]
  split
  · rename_i e; subst e
    rw [hL]
  · rfl
theorem e_appendRoom {t t3 e : TypeId} {k bytes : Nat} {x y : Operand} {A B : Option Addr} {m cap m2 c2 : Nat} {xs news : List Value} {R : List Blk} {L' : List Blk → List (List Blk)} (i : Nat) (hd : Nat.blt d n.sz = true) (ht : SlTy P t e k bytes)
    (hx : ev F x = some (.slice A m cap)) (hy : ev F y = some (.slice B m2 c2)) (hL : L[i]? = some R) (hO : OwnS e k A m cap xs R) (hS : Src ro L.flatten k B m2 news) (hok : ∀ u ∈ news, u.oneCell' = true)
    (hroom : m + m2 ≤ cap) (hs : ∀ R', setAt L i R' = some (L' R'))
    (h : ∀ R', OwnS e k A (m + m2) cap (xs ++ news) R' → WQ n K ((d, .slice A (m + m2) cap) :: F) ro (L' R')) :
    WO P n ⟨some d, .call { callee := .builtin .append, args := #[x, y], argTypes := #[t, t] }, t3, pos, aft, g⟩ K Q F ro L := by
  rcases Nat.eq_zero_or_pos m2 with rfl | h0
  · have hn : news = [] := List.eq_nil_of_length_eq_zero (by simpa using hS.1)
    subst hn
    have h2 := h R (by simpa using hO)
    rw [setAt_same hL (hs R)] at h2
    exact e_append0 hd ht hx hy (by omega) (by simpa using h2)
  · exact e_appendIn i hd ht hx hy hL hO hS hok hroom h0 hs h

/-- cells behind what is there are cleared -/
theorem e_clear {t t3 e : TypeId} {k bytes : Nat} {x : Operand} {b off m cap n2 c2 : Nat} {z : Value} {xs : List Value} {R : List Blk} {L' : List Blk → List (List Blk)} (i : Nat) (ht : SlTy P t e k bytes) (hz : zeroOf P e = some z)
    (hx : ev F x = some (.slice (some ⟨b, off + m * k, none⟩) n2 c2)) (hL : L[i]? = some R) (hO : OwnS e k (some ⟨b, off, none⟩) m cap xs R) (hn : m + n2 ≤ cap) (hn0 : 0 < n2) (hok : ∀ u ∈ z.cells.toList, u.oneCell' = true) (hs : ∀ R', setAt L i R' = some (L' R'))
    (h : ∀ R', OwnS e k (some ⟨b, off, none⟩) m cap xs R' → WQ n K F ro (L' R')) :
    WO P n ⟨none, .call { callee := .builtin .clear, args := #[x], argTypes := #[t] }, t3, pos, aft, g⟩ K Q F ro L := fun a w hf hi => by
  obtain ⟨hu, ⟨j, z', hi', hz', hk, hby, hzk⟩, hpos⟩ := ht
  obtain rfl : z = z' := by
    obtain ⟨j2, h1, h2⟩ := zeroOf_spec hz
    rw [hi'] at h1; cases h1
    rw [hz'] at h2; cases h2; rfl
  obtain ⟨hxl, ⟨hA, _⟩ | ⟨gb, off', cur, hA, rfl, h2, h3, h4, h5⟩⟩ := hO
  · cases hA
  · simp only [Option.some.injEq, Addr.mk.injEq, and_true] at hA
    obtain ⟨rfl, rfl⟩ := hA
    have hg : w.heap[b]? = some (.cells cur e (0, 0)) := hi.own _ (mem_item hL (List.mem_singleton.2 rfl))
    have hzl : (Builtin.zeroCells z.cells n2).toList.length = n2 * k := by simp [size_zeroCells, hzk]
    have hfit : off + m * k + (Builtin.zeroCells z.cells n2).toList.length ≤ cur.size := by
      rw [hzl]
      have : m * k + n2 * k ≤ cap * k := by rw [← Nat.add_mul]; exact Nat.mul_le_mul_right _ hn
      omega
    have hone : ∀ u ∈ (Builtin.zeroCells z.cells n2).toList, u.oneCell' = true := fun u hu' => by
      simp only [Builtin.zeroCells, Array.toList_map, List.mem_map] at hu'
      obtain ⟨q, hq, rfl⟩ := hu'
      have hlt : q % z.cells.size < z.cells.size := Nat.mod_lt _ (by omega)
      rw [getElem!_pos z.cells _ hlt]
      exact hok _ (by simp)
    have hst := run_storeCells_at P b (off + m * k) e (Builtin.zeroCells z.cells n2).toList 0 cur w hg (by simpa using hfit) hone
    simp only [Nat.add_zero] at hst
    have hn2 : ¬ n2 = 0 := by omega
    obtain ⟨n3, rfl⟩ : ∃ n3, n2 = n3 + 1 := ⟨n2 - 1, by omega⟩
    have hr : ∀ ty, (Builtin.clear_ #[t] ty #[.slice (some ⟨b, off + m * k, none⟩) (n3 + 1) c2]).run P w = .ok (.tuple #[]) (w.setRow b (cur.toList.take (off + m * k) ++ (Builtin.zeroCells z.cells (n3 + 1)).toList ++ cur.toList.drop (off + m * k + (Builtin.zeroCells z.cells (n3 + 1)).toList.length)).toArray) := fun ty => by
      simp [Builtin.clear_, run_underlying hu, zeroValue, typeInfo, hi', hz', hst]
    have hrun : (execOp a.eval ⟨none, .call { callee := .builtin .clear, args := #[x], argTypes := #[t] }, t3, pos, aft, g⟩).run P w = .ok (.value (.tuple #[])) (w.setRow b (cur.toList.take (off + m * k) ++ (Builtin.zeroCells z.cells (n3 + 1)).toList ++ cur.toList.drop (off + m * k + (Builtin.zeroCells z.cells (n3 + 1)).toList.length)).toArray) := by
      simp only [execOp, resolve, invoke, builtin, Sem.run_bind, Sem.run_pure, Result.andThen_ok, List.map_toArray, List.map_cons, List.map_nil, hf.ev hx, hr]
    simp only [Oper.wp, hrun, Oper.upon, Act.put]
    refine h [(b, .cells (cur.toList.take (off + m * k) ++ (Builtin.zeroCells z.cells (n3 + 1)).toList ++ cur.toList.drop (off + m * k + (Builtin.zeroCells z.cells (n3 + 1)).toList.length)).toArray e (0, 0))] ⟨hxl, .inr ⟨b, off, _, rfl, rfl, h2, h3, ?_, ?_⟩⟩ _ _ hf
      (hi.swap hL (hs _) ⟨rfl, rfl, rfl, by simp⟩ (fun b' hne _ => setRow_other w b b' _ (fun e' => hne _ (List.mem_singleton.2 rfl) e'.symm)) (fun q hq => ?_) (fun q hq => .inl ⟨_, List.mem_singleton.2 rfl, by rw [List.mem_singleton.1 hq]⟩) (by simp))
    · simp only [List.size_toArray, List.length_append, List.length_take, List.length_drop, Array.length_toList]
      omega
    · rw [← h5]
      have hlen : cur.toList.length = cur.size := by simp
      generalize (Builtin.zeroCells z.cells (n3 + 1)).toList = zs at *
      generalize cur.toList = cl at *
      apply List.ext_getElem?
      intro j
      simp only [List.getElem?_take, List.getElem?_drop, List.getElem?_append, List.length_append, List.length_take, List.length_drop, hlen]
      grind
    · rw [List.mem_singleton.1 hq]; exact setRow_heap w b cur _ e _ hg
end
section
variable {κ : Type} [DecidableEq κ]
theorem mget_cons {p : κ × Value} {m : List (κ × Value)} {k : κ} : mget (p :: m) k = if p.1 = k then some p.2 else mget m k := by
  unfold mget
  rw [List.find?_cons]
  by_cases h : p.1 = k <;> simp [h]
theorem mget_mset (k : κ) (v : Value) (k' : κ) : ∀ m : List (κ × Value), mget (mset m k v) k' = if k = k' then some v else mget m k' := by
  intro m
  have key : ∀ (m : List (κ × Value)), mget (m.map fun p => if p.1 = k then (p.1, v) else p) k' = if k = k' ∧ k ∈ m.map (·.1) then some v else mget m k' := by
    intro m
    induction m with
    | nil => simp [mget]
    | cons p m ih =>
      rw [List.map_cons, mget_cons, mget_cons, ih]
      by_cases h1 : p.1 = k <;> by_cases h2 : k = k' <;> simp_all <;> grind
  have app : ∀ (m : List (κ × Value)), mget (m ++ [(k, v)]) k' = if k' ∈ m.map (·.1) then mget m k' else if k = k' then some v else none := by
    intro m
    induction m with
    | nil => simp [mget]
    | cons p m ih =>
      rw [List.cons_append, mget_cons, mget_cons, ih]
      by_cases h1 : p.1 = k'
      · simp [h1]
      · have : ¬ k' = p.1 := fun e => h1 e.symm
        simp only [if_neg h1, List.map_cons, List.mem_cons, this, false_or]
  unfold mset
  split
  · rename_i h
    rw [key]
    simp [h]
  · rename_i h
    rw [app]
    by_cases h1 : k = k'
    · subst h1; simp [h]
    · rw [if_neg h1, if_neg h1]
      split
      · rfl
      · rename_i h2; exact (mget_none h2).symm
end
end Go.U
