/- Stores; slices of the call's own: make, append. -/
import Derived.Test.YtgkngljojfkkfaaGreatDoorU3
namespace Go.U
open Go

section
variable {P : Program} {n : Sz} {Q : Exit → Act → World → Prop} {K : Act → World → Prop} {F : Frm} {ro : Ro} {L : List (List Blk)} {ty : TypeId} {pos : String} {aft : Array Edge} {g : Option (Nat × Bool)} {d : Tmp}

/-- one resource is replaced -/
theorem I.swap {w w' : World} (h : I ro L w) {i : Nat} {R R' : List Blk} (hL : L[i]? = some R) {L' : List (List Blk)} (hs : setAt L i R' = some L')
    (hio : w'.os = w.os ∧ w'.tape = w.tape ∧ w'.output = w.output ∧ w.heap.size ≤ w'.heap.size)
    (hother : ∀ b, (∀ x ∈ R, x.1 ≠ b) → b < w.heap.size → w'.heap[b]? = w.heap[b]?)
    (hR : ∀ x ∈ R', w'.heap[x.1]? = some x.2) (hnew : ∀ x ∈ R', (∃ z ∈ R, z.1 = x.1) ∨ w.heap.size ≤ x.1) (hnd : (R'.map (·.1)).Nodup) : I ro L' w' := by
  obtain ⟨hlt, rfl⟩ := setAt_spec hs
  have hget : L[i] = R := by simpa [List.getElem?_eq_getElem hlt] using hL
  have hsplit : L = L.take i ++ R :: L.drop (i + 1) := by rw [← hget]; simp
  have hset : L.set i R' = L.take i ++ R' :: L.drop (i + 1) := by rw [List.set_eq_take_append_cons_drop, if_pos hlt]
  have hfl : L.flatten = (L.take i).flatten ++ (R ++ (L.drop (i + 1)).flatten) := by
    conv => lhs; rw [hsplit]
    simp
  have hfl' : (L.set i R').flatten = (L.take i).flatten ++ (R' ++ (L.drop (i + 1)).flatten) := by
    rw [hset]; simp
  generalize (L.take i).flatten = A at *
  generalize (L.drop (i + 1)).flatten = B at *
  have hnod := h.nodup
  rw [hfl, List.map_append, List.map_append, List.nodup_append, List.nodup_append] at hnod
  obtain ⟨nA, ⟨nR, nB, nRB⟩, nARB⟩ := hnod
  have memA : ∀ x ∈ A, x ∈ L.flatten := fun x hx => by rw [hfl]; simp [hx]
  have memB : ∀ x ∈ B, x ∈ L.flatten := fun x hx => by rw [hfl]; simp [hx]
  have memR : ∀ x ∈ R, x ∈ L.flatten := fun x hx => by rw [hfl]; simp [hx]
  have neA : ∀ x ∈ A, ∀ y ∈ R, y.1 ≠ x.1 := fun x hx y hy e => nARB x.1 (List.mem_map_of_mem hx) y.1 (List.mem_append_left _ (List.mem_map_of_mem hy)) e.symm
  have neB : ∀ x ∈ B, ∀ y ∈ R, y.1 ≠ x.1 := fun x hx y hy => nRB y.1 (List.mem_map_of_mem hy) x.1 (List.mem_map_of_mem hx)
  have stay : ∀ x ∈ L.flatten, (∀ y ∈ R, y.1 ≠ x.1) → w'.heap[x.1]? = some x.2 := fun x hx hne => by
    rw [hother x.1 hne (h.lt hx)]
    exact h.own x hx
  have lt : ∀ x ∈ L.flatten, x.1 < w.heap.size := fun x hx => h.lt hx
  refine ⟨hio.1.trans h.os, hio.2.1.trans h.tape, hio.2.2.1.trans h.output, Nat.le_trans h.size hio.2.2.2, fun b o hb => ?_, fun x hx => ?_, fun x hx => ?_, ?_⟩
  · have hb' := h.old b o hb
    rw [hother b (fun x hx e => by have := h.apart x (memR x hx); rw [e, hb] at this; cases this) (Array.getElem?_eq_some_iff.1 hb').1]
    exact hb'
  · rw [hfl'] at hx
    rcases List.mem_append.1 hx with hx | hx
    · exact stay x (memA x hx) (neA x hx)
    · rcases List.mem_append.1 hx with hx | hx
      · exact hR x hx
      · exact stay x (memB x hx) (neB x hx)
  · rw [hfl'] at hx
    rcases List.mem_append.1 hx with hx | hx
    · exact h.apart x (memA x hx)
    · rcases List.mem_append.1 hx with hx | hx
      · rcases hnew x hx with ⟨z, hz, e⟩ | hge
        · rw [← e]; exact h.apart z (memR z hz)
        · cases hc : ro.cells x.1 with
          | none => rfl
          | some o' =>
            have := (Array.getElem?_eq_some_iff.1 (h.old _ _ hc)).1
            omega
      · exact h.apart x (memB x hx)
  · rw [hfl', List.map_append, List.map_append, List.nodup_append, List.nodup_append]
    have key : ∀ x ∈ R', ∀ y, y ∈ L.flatten → (∀ z ∈ R, z.1 ≠ y.1) → x.1 ≠ y.1 := fun x hx y hy hne e => by
      rcases hnew x hx with ⟨z, hz, e2⟩ | hge
      · exact hne z hz (e2.trans e)
      · have := lt y hy
        omega
    refine ⟨nA, ⟨hnd, nB, fun a ha b hb => ?_⟩, fun a ha b hb => ?_⟩
    · obtain ⟨x, hx, rfl⟩ := List.mem_map.1 ha
      obtain ⟨y, hy, rfl⟩ := List.mem_map.1 hb
      exact key x hx y (memB y hy) (neB y hy)
    · obtain ⟨x, hx, rfl⟩ := List.mem_map.1 ha
      rcases List.mem_append.1 hb with hb | hb
      · obtain ⟨y, hy, rfl⟩ := List.mem_map.1 hb
        exact fun e => key y hy x (memA x hx) (neA x hx) e.symm
      · exact nARB x.1 (List.mem_map_of_mem hx) b (List.mem_append_right _ hb)

/-- a variable's cells -/
def tySize (P : Program) (t : TypeId) : Option Nat := (P.info? t).map (·.size)

/-- a store into a block of one's own -/
theorem e_store {t T : TypeId} {x y : Operand} {b off k : Nat} {v : Value} {vs cs' : List Value} {cs : Array Value} {L' : List (List Blk)} (i : Nat) (hx : ev F x = some (.pointer (some ⟨b, off, none⟩))) (hv : ev F y = some v) (ht : tySize P t = some k)
    (hc : vcs v = some vs) (hk : vs.length = k) (ho : okAll vs = true) (hL : L[i]? = some [(b, .cells cs T (0, 0))]) (hp : putN cs.toList off vs = some cs') (hs : setAt L i [(b, .cells cs'.toArray T (0, 0))] = some L')
    (h : WQ n K F ro L') : WO P n ⟨none, .store t x y, ty, pos, aft, g⟩ K Q F ro L := fun a w hf hi => by
  have hb : w.heap[b]? = some (.cells cs T (0, 0)) := hi.own _ (mem_item hL (List.mem_singleton.2 rfl))
  obtain ⟨p1, p2, p3⟩ := putN_spec hp
  have hsz : v.cells.size = k := by rw [← hk, ← vcs_spec hc]; simp
  have hsk : (sizeOf t).run P w = .ok k w := by
    unfold tySize at ht
    cases hi' : P.info? t with
    | none => simp [hi'] at ht
    | some j => simp [hi'] at ht; simp [sizeOf, typeInfo, hi', ht]
  have hrun : (storeCells ⟨b, off, none⟩ vs 0).run P w = .ok () (w.setRow b cs'.toArray) := by
    by_cases hvs : vs = []
    · subst hvs
      simp only [if_true] at p3
      subst p3
      simp only [storeCells]
      rw [Array.toArray_toList, setRow_self w b cs T (0, 0) hb]
      rfl
    · have := run_storeCells_at P b off T vs 0 cs w hb (by rcases p1 with h1 | h1; exact absurd h1 hvs; simpa using h1) (okAll_spec ho)
      rw [this, p3, if_neg hvs]
      simp
  have hrun2 : (execOp a.eval ⟨none, .store t x y, ty, pos, aft, g⟩).run P w = .ok .skip (w.setRow b cs'.toArray) := by
    simp only [execOp, hf.ev hx, hf.ev hv, Instr.storeAt, Instr.sureAddr, storeVar, Sem.run_bind, Sem.run_pure, Result.andThen_ok, hsk, hsz]
    simp [vcs_spec hc, hrun]
  simp only [Oper.wp, hrun2, Oper.upon, Act.put]
  refine h _ _ hf (hi.swap hL hs ⟨rfl, rfl, rfl, by simp⟩ (fun b' hne _ => ?_) (fun z hz => ?_) (fun z hz => .inl ⟨_, List.mem_singleton.2 rfl, by rw [List.mem_singleton.1 hz]⟩) (by simp))
  · have : b ≠ b' := hne _ (List.mem_singleton.2 rfl)
    exact setRow_other w b b' _ (fun e => this e.symm)
  · rw [List.mem_singleton.1 hz]
    exact setRow_heap w b cs _ T _ hb

/-- a slice that the call owns -/
def OwnS (e : TypeId) (k : Nat) (A : Option Addr) (m cap : Nat) (xs : List Value) (R : List Blk) : Prop :=
  xs.length = m * k ∧
  ((A = none ∧ m = 0 ∧ cap = 0 ∧ R = []) ∨
   ∃ g off cur, A = some ⟨g, off, none⟩ ∧ R = [(g, .cells cur e (0, 0))] ∧ m ≤ cap ∧ cap ≤ maxLen ∧ off + cap * k ≤ cur.size ∧ (cur.toList.drop off).take (m * k) = xs)

theorem OwnS.none_ (e k : Nat) : OwnS e k none 0 0 [] [] := ⟨by simp, .inl ⟨rfl, rfl, rfl, rfl⟩⟩

/-- what is appended: m elements of k cells -/
def Src (ro : Ro) (K : List Blk) (k : Nat) (B : Option Addr) (m : Nat) (news : List Value) : Prop :=
  news.length = m * k ∧ (0 < m → ∃ b off, B = some ⟨b, off, none⟩ ∧ CellsAt ro K b off news)

structure SlTy (P : Program) (t e : TypeId) (k bytes : Nat) : Prop where
  und : P.underlying t = some (.slice e)
  info : ∃ i z, P.info? e = some i ∧ i.zero = some z ∧ i.size = k ∧ i.bytes = bytes ∧ z.cells.size = k
  pos : 0 < k

theorem e_append {t t3 e : TypeId} {k bytes : Nat} {x y : Operand} {A B : Option Addr} {m cap m2 c2 : Nat} {xs news : List Value} {R : List Blk} {L' : List Blk → List (List Blk)} (i : Nat) (hd : Nat.blt d n.sz = true) (ht : SlTy P t e k bytes)
    (hx : ev F x = some (.slice A m cap)) (hy : ev F y = some (.slice B m2 c2)) (hL : L[i]? = some R) (hO : OwnS e k A m cap xs R) (hS : Src ro L.flatten k B m2 news) (hok : ∀ u ∈ news, u.oneCell' = true)
    (hb : (m + m2) * bytes ≤ 140737488355328) (h63 : m + m2 ≤ 9223372036854775807) (hs : ∀ R', setAt L i R' = some (L' R'))
    (h : ∀ A' cap' R', OwnS e k A' (m + m2) cap' (xs ++ news) R' → WQ n K ((d, .slice A' (m + m2) cap') :: F) ro (L' R')) :
    WO P n ⟨some d, .call { callee := .builtin .append, args := #[x, y], argTypes := #[t, t] }, t3, pos, aft, g⟩ K Q F ro L := fun a w hf hi => by
  obtain ⟨hu, ⟨j, z, hi', hz, hk, hby, hzk⟩, hpos⟩ := ht
  subst hk
  have hm63 : m + m2 ≤ maxLen := by simp only [maxLen]; omega
  have hsmall : m + m2 ≤ 9223372036854775807 := h63
  obtain ⟨hnl, hcells⟩ := hS
  obtain ⟨hxl, hO'⟩ := hO
  have hlen : (xs ++ news).length = (m + m2) * j.size := by rw [List.length_append, hxl, hnl, Nat.add_mul]
  have run2 : ∀ v' w', (Builtin.append_ #[t, t] t3 #[.slice A m cap, .slice B m2 c2]).run P w = .ok v' w' → (execOp a.eval ⟨some d, .call { callee := .builtin .append, args := #[x, y], argTypes := #[t, t] }, t3, pos, aft, g⟩).run P w = .ok (.value v') w' := fun v' w' hr => by
    simp only [execOp, resolve, invoke, builtin, Sem.run_bind, Sem.run_pure, Result.andThen_ok, List.map_toArray, List.map_cons, List.map_nil, hf.ev hx, hf.ev hy, hr]
  have grownO : ∀ old : Nat, old < m + m2 → OwnS e j.size (some ⟨w.heap.size, 0, none⟩) (m + m2) (grownCap w (m + m2) old e) (xs ++ news) [(w.heap.size, .cells (xs.toArray ++ news.toArray ++ Builtin.zeroCells z.cells (grownCap w (m + m2) old e - (m + m2))) e (0, 0))] := by
    intro old ho
    have hge := grownCap_ge w (m + m2) old e
    have hcm : grownCap w (m + m2) old e ≤ maxLen := grownCap_le_maxLen w (m + m2) old e hm63
    refine ⟨hlen, .inr ⟨w.heap.size, 0, _, rfl, rfl, hge, hcm, ?_, ?_⟩⟩
    · simp only [Array.size_append, List.size_toArray, size_zeroCells, hzk, hxl, hnl, ← Nat.add_mul, Nat.zero_add]
      apply Nat.le_of_eq
      congr 1
      omega
    · simp only [Array.toList_append, List.append_assoc, List.drop_zero]
      rw [← List.append_assoc, ← hlen]
      exact List.take_left
  have fresh : ∀ (o : Obj), I ro (L' [(w.heap.size, o)]) (w.drew.alloc o) := fun o => by
    refine hi.swap hL (hs _) ⟨rfl, rfl, rfl, by simp⟩ (fun b' _ hlt => (Array.getElem?_push_lt hlt).trans (Array.getElem?_eq_getElem hlt).symm) (fun q hq => ?_) (fun q hq => ?_) (by simp)
    · rw [List.mem_singleton.1 hq]; exact heap_alloc_new w.drew o
    · rw [List.mem_singleton.1 hq]; exact .inr (Nat.le_refl _)
  by_cases h0 : 0 < m2
  · obtain ⟨b, off2, rfl, hc⟩ := hcells h0
    have hnews : ∀ q u, news[q]? = some u → w.cell? ((⟨b, off2, none⟩ : Addr).add q) = some u := fun q u hq => by rw [add_lit]; exact hc q u hq w hi.j
    rcases hO' with ⟨rfl, rfl, rfl, rfl⟩ | ⟨gb, off, cur, rfl, rfl, h2, h3, h4, h5⟩
    · have hxn : xs = [] := List.eq_nil_of_length_eq_zero (by simpa using hxl)
      subst hxn
      have hr := run_append_nil (P := P) w t t3 e j z hu hi' hz ⟨b, off2, none⟩ m2 c2 news hnl hnews (by omega) (by omega) (by have hb' := hb; simp only [Nat.zero_add] at hb'; rw [hby]; omega)
      have hg := grownO 0 (by omega)
      simp only [Nat.zero_add, List.nil_append, Array.empty_append] at hg ⊢
      simp only [Oper.wp, run2 _ _ hr, Oper.upon]
      have := h (some ⟨w.heap.size, 0, none⟩) (grownCap w m2 0 e) _ (by simpa using hg)
      simp only [Nat.zero_add] at this
      exact this _ _ (hf.put hd _) (fresh _)
    · have hg : w.heap[gb]? = some (.cells cur e (0, 0)) := hi.own _ (mem_item hL (List.mem_singleton.2 rfl))
      by_cases hroom : m + m2 ≤ cap
      · have hfit : off + m * j.size + news.length ≤ cur.size := by
          have : m * j.size + m2 * j.size ≤ cap * j.size := by rw [← Nat.add_mul]; exact Nat.mul_le_mul_right _ hroom
          omega
        have hff := run_firstCells_some (P := P) w j.size m2 ⟨b, off2, none⟩ m2 c2 news hnl hnews
        have hst := run_storeCells_at P gb (off + m * j.size) e news 0 cur w hg (by simpa using hfit) hok
        simp only [Nat.add_zero] at hst
        have hr : (Builtin.append_ #[t, t] t3 #[.slice (some ⟨gb, off, none⟩) m cap, .slice (some ⟨b, off2, none⟩) m2 c2]).run P w = .ok (.slice (some ⟨gb, off, none⟩) (m + m2) cap) (w.setRow gb (cur.toList.take (off + m * j.size) ++ news ++ cur.toList.drop (off + m * j.size + news.length)).toArray) := by
          simp [Builtin.append_, run_underlying hu, sizeOf, typeInfo, hi', Builtin.lenOf, hroom, hff, add_lit, hst]
        simp only [Oper.wp, run2 _ _ hr, Oper.upon]
        refine h _ _ [(gb, .cells (cur.toList.take (off + m * j.size) ++ news ++ cur.toList.drop (off + m * j.size + news.length)).toArray e (0, 0))] ⟨hlen, .inr ⟨gb, off, _, rfl, rfl, hroom, h3, ?_, ?_⟩⟩ _ _ (hf.put hd _)
          (hi.swap hL (hs _) ⟨rfl, rfl, rfl, by simp⟩ (fun b' hne _ => setRow_other w gb b' _ (fun e' => hne _ (List.mem_singleton.2 rfl) e'.symm)) (fun q hq => ?_) (fun q hq => .inl ⟨_, List.mem_singleton.2 rfl, by rw [List.mem_singleton.1 hq]⟩) (by simp))
        · simp only [List.size_toArray, List.length_append, List.length_take, List.length_drop, Array.length_toList]
          omega
        · have hcl : off + m * j.size ≤ cur.toList.length := by simp; omega
          rw [List.append_assoc, List.drop_append, List.length_take, Nat.min_eq_left hcl]
          have e1 : off - (off + m * j.size) = 0 := by omega
          rw [e1, List.drop_zero, List.drop_take]
          have e2 : off + m * j.size - off = m * j.size := by omega
          rw [e2, h5, ← List.append_assoc, ← hlen]
          exact List.take_left
        · rw [List.mem_singleton.1 hq]; exact setRow_heap w gb cur _ e _ hg
      · have holds : ∀ q u, xs[q]? = some u → w.cell? ((⟨gb, off, none⟩ : Addr).add q) = some u := fun q u hq => by
          rw [add_lit, cell_of_row w gb (off + q) cur e (0, 0) hg]
          rw [← h5, List.getElem?_take] at hq
          split at hq
          · rw [List.getElem?_drop] at hq; simpa using hq
          · cases hq
        have hr := run_append_grow (P := P) w t t3 e j z hu hi' hz ⟨gb, off, none⟩ m cap xs hxl holds ⟨b, off2, none⟩ m2 c2 news hnl hnews (by omega) (by omega) (growslice_fits (by omega) (by rw [hby]; exact hb))
        simp only [Oper.wp, run2 _ _ hr, Oper.upon]
        exact h _ _ _ (grownO cap (by omega)) _ _ (hf.put hd _) (fresh _)
  · obtain rfl : m2 = 0 := by omega
    have hn0 : news = [] := List.eq_nil_of_length_eq_zero (by simpa using hnl)
    subst hn0
    have hcap : m ≤ cap := by
      rcases hO' with ⟨_, rfl, rfl, _⟩ | ⟨_, _, _, _, _, h2, _⟩
      · exact Nat.le_refl _
      · exact h2
    have hr : (Builtin.append_ #[t, t] t3 #[.slice A m cap, .slice B 0 c2]).run P w = .ok (.slice A m cap) w := by
      cases B with
      | none => cases A <;> simp [Builtin.append_, run_underlying hu, sizeOf, typeInfo, hi', Builtin.lenOf, hcap, Builtin.firstCells, storeCells]
      | some ad => cases A <;> simp [Builtin.append_, run_underlying hu, sizeOf, typeInfo, hi', Builtin.lenOf, hcap, Builtin.firstCells, storeCells, loadCells, loadCellsFrom]
    simp only [Oper.wp, run2 _ _ hr, Oper.upon]
    refine h _ _ R ⟨by simpa using hxl, by simpa using hO'⟩ _ _ (hf.put hd _) (hi.sub ?_)
    have hset := setAt_spec (hs R)
    obtain ⟨hlt, e'⟩ := hset
    have : L.set i R = L := by
      apply List.ext_getElem?
      intro q
      rw [List.getElem?_set]
      split
      · rename_i e2; subst e2; rw [hL]
      · rfl
    have e3 : L' R = L := by rw [← this]; exact e'
    rw [e3]
    exact ⟨_, .refl _, .refl _⟩

/-- make -/
theorem e_make {t e : TypeId} {k bytes : Nat} {x y : Operand} {k1 k2 : IntKind} {l c : Int} (hd : Nat.blt d n.sz = true) (ht : SlTy P t e k bytes)
    (hx : ev F x = some (.int k1 l)) (hy : ev F y = some (.int k2 c)) (h0 : 0 ≤ l) (hlc : l ≤ c) (hb : c * bytes ≤ 281474976710656) (h63 : c ≤ 9223372036854775807)
    (h : ∀ b R' (xs : List Value), OwnS e k (some ⟨b, 0, none⟩) l.toNat c.toNat xs R' → R' = [(b, .cells (madeCells (Option.getD (zeroOf P e) undef).cells (c.toNat * k)) e (0, 0))] → WQ n K ((d, .slice (some ⟨b, 0, none⟩) l.toNat c.toNat) :: F) ro (R' :: L)) :
    WO P n ⟨some d, .makeSlice t x y, ty, pos, aft, g⟩ K Q F ro L := by
  obtain ⟨hu, ⟨j, z, hi', hz, hk, hby, hzk⟩, hpos⟩ := ht
  have hz2 : (Option.getD (zeroOf P e) undef) = z := by simp [zeroOf, hi', hz]
  rw [hz2] at h
  refine e_new (mk := fun b => .slice (some ⟨b, 0, none⟩) l.toNat c.toNat) (obj := .cells (madeCells z.cells (c.toNat * k)) e (0, 0)) hd (fun a w hf hj => ?_) (fun b => ?_)
  · have := run_make (P := P) w t e j z hu hi' hz k1 k2 l c h0 hlc (by rw [hby, Int.mul_comm]; exact hb) h63
    rw [hk] at this
    simp [execOp, hf.ev hx, hf.ev hy, this]
  · have hcl : l.toNat ≤ c.toNat := by omega
    refine h b _ ((madeCells z.cells (c.toNat * k)).toList.take (l.toNat * k)) ⟨?_, .inr ⟨b, 0, _, rfl, rfl, hcl, ?_, by simp [size_madeCells], by simp⟩⟩ rfl
    · simp [size_madeCells]
      rw [Nat.min_eq_left hcl]
    · simp only [maxLen]; omega

end
end Go.U
