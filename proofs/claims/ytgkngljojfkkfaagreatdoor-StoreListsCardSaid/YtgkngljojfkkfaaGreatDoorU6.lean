/- More rules: structs and slices written out, indexes that count, where ways meet; slices that read as lists. -/
import Derived.Test.YtgkngljojfkkfaaGreatDoorU5
namespace Go.U
open Go
set_option linter.unusedVariables false

theorem wr {i : Int} (h1 : -9223372036854775808 ≤ i) (h2 : i ≤ 9223372036854775807) : IntKind.i64.wrap i = i := by rw [IntKind.wrap_i64]; omega

def bldL (place : Nat → Option (Nat × Nat)) : List Value → List (Nat × Value) → Option (List Value)
  | cs, [] => some cs
  | cs, (i, v) :: r => match place i with
    | none => none
    | some (off, size) => match vcs v with
      | none => none
      | some vs => match Nat.beq vs.length size with
        | false => none
        | true => match vs with
          | [] => none
          | u :: us => match putN cs off (u :: us) with
            | none => none
            | some cs' => bldL place cs' r

theorem foldl_put : ∀ (vs cs : List Value) (off k : Nat), off + k + vs.length ≤ cs.length →
    ((vs.zipIdx k).foldl (fun (cs : Array Value) (x : Value × Nat) => cs.setIfInBounds (off + x.2) x.1) cs.toArray) = (if vs = [] then cs else cs.take (off + k) ++ vs ++ cs.drop (off + k + vs.length)).toArray
  | [], cs, off, k, h => by simp
  | v :: vs, cs, off, k, h => by
    simp only [List.zipIdx_cons, List.foldl_cons, List.setIfInBounds_toArray]
    have hlt : off + k < cs.length := by simp at h; omega
    rw [foldl_put vs (cs.set (off + k) v) off (k + 1) (by simp at h ⊢; omega)]
    have hA : (cs.take (off + k)).length = off + k := by simp; omega
    rw [if_neg (show ¬ (v :: vs = []) by simp)]
    by_cases hv : vs = []
    · subst hv
      simp [List.set_eq_take_append_cons_drop, hlt]
    · rw [if_neg hv]
      congr 1
      have e1 : (cs.set (off + k) v).take (off + (k + 1)) = cs.take (off + k) ++ [v] := by
        rw [List.set_eq_take_append_cons_drop, if_pos hlt, List.take_append, hA]
        have : off + (k + 1) - (off + k) = 1 := by omega
        rw [this]
        simp [List.take_take]
      have e2 : (cs.set (off + k) v).drop (off + (k + 1) + vs.length) = cs.drop (off + k + (v :: vs).length) := by
        rw [List.set_eq_take_append_cons_drop, if_pos hlt, List.drop_append, hA]
        have e3 : off + (k + 1) + vs.length - (off + k) = vs.length + 1 := by omega
        rw [e3, List.drop_eq_nil_of_le (by rw [hA]; omega)]
        simp [List.drop_drop, Nat.add_comm, Nat.add_left_comm]
      rw [e1, e2]
      simp

theorem fill_of_bldL {place : Nat → Option (Nat × Nat)} : ∀ {parts : List (Nat × Value)} {cs cs' : List Value}, bldL place cs parts = some cs' → Instr.fill place cs.toArray parts = some cs'.toArray
  | [], cs, cs', h => by simp [bldL] at h; subst h; rfl
  | (i, v) :: r, cs, cs', h => by
    simp only [bldL] at h
    split at h
    · cases h
    · rename_i off size hp
      split at h
      · cases h
      · rename_i vs hvc
        split at h
        · cases h
        · rename_i hb
          split at h
          · cases h
          · rename_i u us
            split at h
            · cases h
            · rename_i cs2 hput
              have hsz : (u :: us).length = size := Nat.eq_of_beq_eq_true hb
              obtain ⟨p1, p2, p3⟩ := putN_spec hput
              have hle : off + (u :: us).length ≤ cs.length := by
                rcases p1 with h1 | h1
                · cases h1
                · exact h1
              have hvs : v.cells = (u :: us).toArray := by rw [← vcs_spec hvc]
              have hvz : v.cells.size = size := by rw [hvs]; simpa using hsz
              have ih := fill_of_bldL h
              simp only [Instr.fill, hp]
              rw [if_neg (by
                rw [hvz]
                simp only [Bool.false_or, decide_eq_true_eq, gt_iff_lt, List.size_toArray, ne_eq, not_true_eq_false, decide_false]
                omega)]
              have hf := foldl_put (u :: us) cs off 0 (by simpa using hle)
              rw [if_neg (by simp)] at hf
              have hz : v.cells.zipIdx = ((u :: us).zipIdx 0).toArray := by rw [hvs]; simp
              rw [hz]
              simp only [List.foldl_toArray] at hf ⊢
              rw [hf]
              have : cs2 = List.take (off + 0) cs ++ u :: us ++ List.drop (off + 0 + (u :: us).length) cs := by
                rw [p3, if_neg (by simp)]; simp
              rw [← this]
              exact ih

def pvs (F : Frm) : List (Nat × Operand) → Option (List (Nat × Value))
  | [] => some []
  | (i, x) :: r => match ev F x, pvs F r with
    | some v, some vs => some ((i, v) :: vs)
    | _, _ => none
theorem FA.pvs {n : Sz} {F : Frm} {a : Act} (h : FA n F a) : ∀ {ps : List (Nat × Operand)} {vs : List (Nat × Value)}, U.pvs F ps = some vs → ps.map (fun x => (x.1, a.eval x.2)) = vs
  | [], vs, hx => by simpa [U.pvs] using hx
  | (i, x) :: xs, vs, hx => by
    simp only [U.pvs] at hx
    split at hx
    · rename_i v us h1 h2
      simp only [Option.some.injEq] at hx
      subst hx
      simp [h.ev h1, FA.pvs h h2]
    · cases hx

/-- a struct type, its fields' places, its zero's cells -/
structure BuTy (P : Program) (t : TypeId) (places : List (Nat × Nat)) (zero : List Value) : Prop where
  out : ∃ fs z, P.underlying t = some (.struct fs) ∧ zeroOf P t = some z ∧ z.cells = zero.toArray ∧ fs.toList.map (fun f => (f.offset, (P.info? f.type).map (·.size))) = places.map (fun p => (p.1, some p.2))

section
variable {P : Program} {n : Sz} {Q : Exit → Act → World → Prop} {K : Act → World → Prop} {F : Frm} {ro : Ro} {Kb : List Blk} {L : List (List Blk)} {dst : Option Tmp} {ty : TypeId} {pos : String} {aft : Array Edge} {g : Option (Nat × Bool)}

theorem run_places {w : World} : ∀ {fs : List Field} {places : List (Nat × Nat)}, fs.map (fun f => (f.offset, (P.info? f.type).map (·.size))) = places.map (fun p => (p.1, some p.2)) →
    (fs.mapM (fun f => do pure (f.offset, ← sizeOf f.type)) : Sem (List (Nat × Nat))).run P w = .ok places w
  | [], places, h => by
    cases places with
    | nil => simp
    | cons p ps => simp at h
  | f :: fs, places, h => by
    cases places with
    | nil => simp at h
    | cons p ps =>
      simp only [List.map_cons, List.cons.injEq, Prod.mk.injEq] at h
      obtain ⟨⟨h1, h2⟩, h3⟩ := h
      have ih := run_places (w := w) h3
      cases hi : P.info? f.type with
      | none => simp [hi] at h2
      | some i =>
        simp [hi] at h2
        have hs : (sizeOf f.type).run P w = .ok p.2 w := by simp [sizeOf, typeInfo, hi, h2]
        rw [List.mapM_cons, Sem.run_bind, Sem.run_bind, hs]
        simp only [Result.andThen_ok, Sem.run_pure, Sem.run_bind, ih]
        rw [h1]

theorem x_build {t : TypeId} {places : List (Nat × Nat)} {zero : List Value} {parts : List (Nat × Operand)} {vs : List (Nat × Value)} {cs : List Value} (ht : BuTy P t places zero) (hp : pvs F parts = some vs) (hb : bldL (fun i => places[i]?) zero vs = some cs) :
    Ex P n F ro Kb ⟨dst, .build t parts.toArray, ty, pos, aft, g⟩ (.agg cs.toArray) := by
  intro a w hf _
  obtain ⟨fs, z, hu, hz, hzc, hpl⟩ := ht.out
  obtain ⟨i, hi, hz'⟩ := zeroOf_spec hz
  have hr := run_places (w := w) hpl
  have hfill := fill_of_bldL hb
  have hpv := hf.pvs hp
  have hm : (fs.mapM (fun f => do pure (f.offset, ← sizeOf f.type)) : Sem (Array (Nat × Nat))).run P w = .ok places.toArray w := by
    have := Array.toList_mapM (m := Sem) (f := fun f : Field => (do pure (f.offset, ← sizeOf f.type) : Sem (Nat × Nat))) (xs := fs)
    rw [Array.mapM_eq_mapM_toList, Sem.run_map, hr]
    rfl
  simp only [execOp, Instr.build, zeroValue, Sem.run_bind, typeInfo, program, Sem.run, hi, hz', Result.andThen_ok, Sem.run_pure, run_underlying hu, hm]
  have e1 : (parts.toArray.map fun x => match x with | (i, x) => (i, a.eval x)).toList = vs := by
    rw [← hpv]; simp
  have e2 : Instr.fill (fun x => places.toArray[x]?) z.cells vs = some cs.toArray := by
    rw [hzc]
    simpa using hfill
  rw [e1, e2]
  simp

/-- a slice's literal -/
theorem e_sliceN {t e : TypeId} {m k : Nat} {d : Tmp} {parts : List (Nat × Operand)} {vs : List (Nat × Value)} {cs zs : List Value} {z : Value} {i : TypeInfo} (hd : Nat.blt d n.sz = true) (ht : P.underlying t = some (.slice e)) (hi : P.info? e = some i) (hz : i.zero = some z) (hk : i.size = k) (h24 : m * k ≤ 16777216) (h0 : 0 < m * k)
    (hzs : (Array.range (m * k)).map (z.cells[· % z.cells.size]!) = zs.toArray) (hp : pvs F parts = some vs) (hb : bldL (fun i => some (i * k, k)) zs vs = some cs)
    (h : ∀ b, WQ n K ((d, .slice (some ⟨b, 0, none⟩) m m) :: F) ro ([(b, .cells cs.toArray e (0, 0))] :: L)) : WO P n ⟨some d, .buildSlice t m parts.toArray, ty, pos, aft, g⟩ K Q F ro L := by
  refine e_new (mk := fun b => .slice (some ⟨b, 0, none⟩) m m) hd (fun a w hf _ => ?_) h
  have hfill := fill_of_bldL hb
  have hpv := hf.pvs hp
  have e1 : (parts.toArray.map fun x => match x with | (i, x) => (i, a.eval x)).toList = vs := by
    rw [← hpv]; simp
  have hne : ¬ (16777216 < m * k) := by omega
  have hne0 : ¬ (m * k = 0) := by omega
  subst hk
  simp only [execOp, Instr.buildSlice, Sem.run_bind, run_underlying ht, Result.andThen_ok, sizeOf, typeInfo, program, Sem.run, hi, Sem.run_pure]
  simp only [Nat.reducePow, gt_iff_lt, hne, if_false, hne0, zeroValue, typeInfo, Sem.run_bind, program, Sem.run, hi, hz, Result.andThen_ok, Sem.run_pure, hzs]
  rw [e1, hfill]
  simp [newRow, newObj, Sem.run]

/-- no temporary takes what it yields -/
theorem y0 {o : Op} {v : Value} (hx : Ex P n F ro L.flatten ⟨none, o, ty, pos, aft, g⟩ v) (h : WQ n K F ro L) : WO P n ⟨none, o, ty, pos, aft, g⟩ K Q F ro L :=
  fun a w hf hi => by
    simp only [Oper.wp, hx a w hf hi.j, Oper.upon, Act.put]
    exact h _ _ hf hi

theorem x_indexNat {t : TypeId} {x ix : Operand} {k b off len cap : Nat} {kk : IntKind} {j : Nat} (ht : slSize P t = some k) (hx : ev F x = some (.slice (some ⟨b, off, none⟩) len cap)) (hi : ev F ix = some (.int kk (j : Int))) (h1 : j < len) :
    Ex P n F ro Kb ⟨dst, .indexAddr t x ix, ty, pos, aft, g⟩ (.pointer (some ⟨b, off + j * k, none⟩)) :=
  x_indexAddr ht hx hi (by omega) (by omega) _ (by simp)
theorem x_indexArrNat {t : TypeId} {x ix : Operand} {m k b off : Nat} {kk : IntKind} {j : Nat} (ht : arSize P t = some (m, k)) (hx : ev F x = some (.pointer (some ⟨b, off, none⟩))) (hi : ev F ix = some (.int kk (j : Int))) (h1 : j < m) :
    Ex P n F ro Kb ⟨dst, .indexAddr t x ix, ty, pos, aft, g⟩ (.pointer (some ⟨b, off + j * k, none⟩)) :=
  x_indexArr ht hx hi (by omega) (by omega) _ (by simp)

/-- where ways meet -/
def Mids (n : Sz) (Mid : Frm → Ro → List (List Blk) → Prop) : Act → World → Prop := fun a w => ∃ F' ro' L', Mid F' ro' L' ∧ FA n F' a ∧ I ro' L' w
theorem seqM {x y : Code} (Mid : Frm → Ro → List (List Blk) → Prop) (hx : WQ n (x.wp P (Exit.then (Mids n Mid) Q)) F ro L) (hy : ∀ F' ro' L', Mid F' ro' L' → WQ n (y.wp P Q) F' ro' L') : WQ n ((Code.seq x y).wp P Q) F ro L :=
  fun a w hf hi => wp_seq (wp_mono (hx a w hf hi) fun e a' w' hq => by
    cases e with
    | normal => obtain ⟨F', ro', L', h1, h2, h3⟩ := hq; exact hy F' ro' L' h1 a' w' h2 h3
    | exit id => exact hq
    | goto l => exact hq
    | ret => exact hq
    | panic c => exact hq
    | outgrown => exact hq)
theorem mid {Mid : Frm → Ro → List (List Blk) → Prop} (F' : Frm) (hc : Cov F' F) (h : Mid F' ro L) : WQ n (Mids n Mid) F ro L := fun a w hf hi => ⟨F', ro, L, h, hf.cov hc, hi⟩

end

/-! ### slices that read as lists -/

/-- the slice's places in memory that stays, as a list -/
def Sl {α : Type} (ro : Ro) (k : Nat) (enc : α → List Value) (A : Option Addr) (cap : Nat) (l : List α) : Prop :=
  l.length ≤ cap ∧ cap ≤ maxLen ∧ (∀ x ∈ l, (enc x).length = k) ∧
  (l ≠ [] → ∃ b off, A = some ⟨b, off, none⟩ ∧ ∀ (i : Nat) (x : α), l[i]? = some x → ∀ (j : Nat) (v : Value), (enc x)[j]? = some v → ro.cell b (off + i * k + j) = some v)

theorem Sl.mono {α : Type} {ro ro' : Ro} {k : Nat} {enc : α → List Value} {A : Option Addr} {cap : Nat} {l : List α} (h : Sl ro k enc A cap l) (hle : ro.le ro') : Sl ro' k enc A cap l :=
  ⟨h.1, h.2.1, h.2.2.1, fun hn => by
    obtain ⟨b, off, e, hc⟩ := h.2.2.2 hn
    exact ⟨b, off, e, fun i x hx j v hv => hle.cell (hc i x hx j v hv)⟩⟩
theorem Sl.at_ {α : Type} {ro : Ro} {k : Nat} {enc : α → List Value} {A : Option Addr} {cap : Nat} {l : List α} (h : Sl ro k enc A cap l) {i : Nat} (hi : i < l.length) :
    ∃ b off, A = some ⟨b, off, none⟩ ∧ ∀ (i : Nat) (x : α), l[i]? = some x → ∀ (j : Nat) (v : Value), (enc x)[j]? = some v → ro.cell b (off + i * k + j) = some v :=
  h.2.2.2 (fun e => by subst e; simp at hi)
/-- the part from i on, and up to j -/
theorem Sl.take {α : Type} {ro : Ro} {k : Nat} {enc : α → List Value} {A : Option Addr} {cap : Nat} {l : List α} (h : Sl ro k enc A cap l) (j : Nat) : Sl ro k enc A cap (l.take j) := by
  refine ⟨by have := h.1; simp; omega, h.2.1, fun x hx => h.2.2.1 x (List.mem_of_mem_take hx), fun hn => ?_⟩
  obtain ⟨b, off, e, hc⟩ := h.2.2.2 (fun e => by subst e; simp at hn)
  exact ⟨b, off, e, fun i x hx => hc i x (by rw [List.getElem?_take] at hx; split at hx; exact hx; cases hx)⟩
theorem Sl.drop {α : Type} {ro : Ro} {k : Nat} {enc : α → List Value} {A : Option Addr} {cap : Nat} {l : List α} (h : Sl ro k enc A cap l) (j : Nat) (hj : j ≤ l.length) : Sl ro k enc (cutA A cap j k) (cap - j) (l.drop j) := by
  refine ⟨by have := h.1; simp; omega, by have := h.2.1; omega, fun x hx => h.2.2.1 x (List.mem_of_mem_drop hx), fun hn => ?_⟩
  have hlt : j < l.length := by
    rcases Nat.lt_or_ge j l.length with h' | h'
    · exact h'
    · exact absurd (List.drop_eq_nil_of_le h') hn
  obtain ⟨b, off, rfl, hc⟩ := h.2.2.2 (fun e => by subst e; simp at hn)
  refine ⟨b, off + j * k, ?_, fun i x hx m v hv => ?_⟩
  · unfold cutA
    have := h.1
    rw [if_neg (by omega)]
    simp [add_lit]
  · have := hc (j + i) x (by rw [List.getElem?_drop] at hx; exact hx) m v hv
    rw [← this]
    congr 1
    rw [Nat.add_mul]
    omega

def encInt (i : Int) : List Value := [.int .i64 i]

/-- what the call owns becomes memory that stays, read as a list -/
theorem OwnS.sl {α : Type} {e k : Nat} {A : Option Addr} {cap : Nat} {l : List α} {enc : α → List Value} {R : List Blk} (h : OwnS e k A l.length cap (l.flatMap enc) R) (henc : ∀ x ∈ l, (enc x).length = k) {ro' : Ro} (hR : ∀ x ∈ R, ro'.cells x.1 = some x.2) : Sl ro' k enc A cap l := by
  obtain ⟨h1, ⟨rfl, h2, rfl, rfl⟩ | ⟨g, off, cur, rfl, rfl, h2, h3, h4, h5⟩⟩ := h
  · have : l = [] := List.eq_nil_of_length_eq_zero h2
    subst this
    exact ⟨by simp, by simp [maxLen], by simp, fun hn => absurd rfl hn⟩
  · refine ⟨h2, h3, henc, fun _ => ⟨g, off, rfl, fun i x hx j v hv => ?_⟩⟩
    have hg := hR _ (List.mem_singleton.2 rfl)
    simp only at hg
    have key : ∀ (l : List α), (∀ x ∈ l, (enc x).length = k) → ∀ i x, l[i]? = some x → ∀ j v, (enc x)[j]? = some v → (l.flatMap enc)[i * k + j]? = some v := by
      intro l
      induction l with
      | nil => intro _ i x hx; simp at hx
      | cons y l ih =>
        intro hl i x hx j v hv
        have hy := hl y (by simp)
        cases i with
        | zero =>
          simp at hx
          subst hx
          have hjl : j < (enc y).length := (List.getElem?_eq_some_iff.1 hv).1
          simp only [List.flatMap_cons, Nat.zero_mul, Nat.zero_add]
          rw [List.getElem?_append_left hjl]
          exact hv
        | succ i =>
          simp only [List.flatMap_cons]
          rw [List.getElem?_append_right (by rw [hy, Nat.add_mul]; omega), hy]
          have e : (i + 1) * k + j - k = i * k + j := by rw [Nat.add_mul]; omega
          rw [e]
          exact ih (fun x hx => hl x (by simp [hx])) i x (by simpa using hx) j v hv
    have hkey := key l henc i x hx j v hv
    rw [← h5, List.getElem?_take] at hkey
    split at hkey
    · unfold Ro.cell
      rw [hg]
      rw [List.getElem?_drop] at hkey
      rw [Nat.add_assoc]
      simpa using hkey
    · cases hkey

end Go.U
