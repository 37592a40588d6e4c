/- Closures of relations, in plain words; parts of slices of one's own. -/
import Derived.Test.YtgkngljojfkkfaaGreatDoorU14
set_option linter.unusedVariables false
set_option linter.unusedSectionVars false
namespace Go.U
open Go
theorem OwnS.tail {e : TypeId} {A : Option Addr} {m cap : Nat} {v : Value} {xs : List Value} {R : List Blk} (h : OwnS e 1 A (m + 1) cap (v :: xs) R) : OwnS e 1 (cutA A cap 1 1) m (cap - 1) xs R := by
  obtain ⟨h1, ⟨_, h2, _, _⟩ | ⟨g, off, cur, rfl, rfl, h2, h3, h4, h5⟩⟩ := h
  · omega
  · have hx : xs.length = m * 1 := by simp at h1 ⊢; omega
    refine ⟨hx, .inr ⟨g, if cap = 1 then off else off + 1 * 1, cur, ?_, rfl, by omega, by omega, ?_, ?_⟩⟩
    · unfold cutA
      split
      · rfl
      · simp [add_lit]
    · split <;> omega
    · have h6 : ((cur.toList.drop off).drop 1).take m = xs := by
        have := congrArg (List.drop 1) h5
        rw [List.drop_take] at this
        simpa using this
      split
      · have : m = 0 := by omega
        subst this
        have : xs = [] := List.eq_nil_of_length_eq_zero (by simpa using hx)
        subst this
        simp
      · rw [Nat.mul_one, Nat.mul_one, ← List.drop_drop]
        exact h6
theorem OwnS.src {e k : Nat} {A : Option Addr} {m cap : Nat} {xs : List Value} {R : List Blk} (h : OwnS e k A m cap xs R) {ro : Ro} {Kb : List Blk} (hK : ∀ q ∈ R, q ∈ Kb) : Src ro Kb k A m xs := by
  refine ⟨h.1, fun hm => ?_⟩
  obtain ⟨b, off, cur, rfl, rfl, _, hc⟩ := h.at_ hm
  exact ⟨b, off, rfl, fun j v hv => Cell.blk (hK _ (List.mem_singleton.2 rfl)) (hc j v hv)⟩
theorem int_ok (l : List Int) : ∀ u ∈ l.flatMap encInt, u.oneCell' = true := fun u hu => by
  rw [fm_int] at hu
  obtain ⟨x, _, rfl⟩ := List.mem_map.1 hu
  rfl
end Go.U
namespace Go.U
open Go
section
variable {P : Program} {n : Sz} {F : Frm} {ro : Ro} {Kb : List Blk} {dst : Option Tmp} {ty : TypeId} {pos : String} {aft : Array Edge} {g : Option (Nat × Bool)}
structure BuArr (P : Program) (t : TypeId) (k : Nat) (zero : List Value) : Prop where
  out : ∃ m e z i, P.underlying t = some (.array m e) ∧ zeroOf P t = some z ∧ z.cells = zero.toArray ∧ P.info? e = some i ∧ i.size = k
theorem x_buildArr {t : TypeId} {k : Nat} {zero : List Value} {parts : List (Nat × Operand)} {vs : List (Nat × Value)} {cs : List Value} (ht : BuArr P t k zero) (hp : pvs F parts = some vs) (hb : bldL (fun i => some (i * k, k)) zero vs = some cs) :
    Ex P n F ro Kb ⟨dst, .build t parts.toArray, ty, pos, aft, g⟩ (.agg cs.toArray) := by
  intro a w hf _
  obtain ⟨m, e, z, j, hu, hz, hzc, hj, hk⟩ := ht.out
  obtain ⟨i, hi, hz'⟩ := zeroOf_spec hz
  have hfill := fill_of_bldL hb
  have hpv := hf.pvs hp
  have e1 : (parts.toArray.map fun x => match x with | (i, x) => (i, a.eval x)).toList = vs := by
    rw [← hpv]; simp
  have e2 : Instr.fill (fun i => some (i * k, k)) z.cells vs = some cs.toArray := by
    rw [hzc]
    simpa using hfill
  subst hk
  simp only [execOp, Instr.build, zeroValue, Sem.run_bind, typeInfo, program, Sem.run, hi, hz', Result.andThen_ok, Sem.run_pure, run_underlying hu, sizeOf, hj]
  rw [e1, e2]
  simp
end
section
variable {κ : Type} [DecidableEq κ]
/-- what pairs lead to -/
inductive TG {κ : Type} (l : List (κ × κ)) : κ → κ → Prop where
  | one {a b : κ} : (a, b) ∈ l → TG l a b
  | step {a b c : κ} : TG l a b → (b, c) ∈ l → TG l a c
theorem TG.snd {l : List (κ × κ)} {a b : κ} (h : TG l a b) : b ∈ l.map (·.2) := by
  cases h with
  | one h => exact List.mem_map.2 ⟨_, h, rfl⟩
  | step _ h => exact List.mem_map.2 ⟨_, h, rfl⟩
theorem TG.fst {l : List (κ × κ)} {a b : κ} (h : TG l a b) : ∃ c, (a, c) ∈ l := by
  induction h with
  | one h => exact ⟨_, h⟩
  | step _ _ ih => exact ih
theorem TG.trans {l : List (κ × κ)} {a b c : κ} (h : TG l a b) (k : TG l b c) : TG l a c := by
  induction k with
  | one k => exact .step h k
  | step _ k ih => exact .step ih k
theorem TG.mono {l m : List (κ × κ)} (hm : ∀ p ∈ l, p ∈ m) {a b : κ} (h : TG l a b) : TG m a b := by
  induction h with
  | one h => exact .one (hm _ h)
  | step _ h ih => exact .step ih (hm _ h)
/-- a closure under way: D: whose pairs are all there; at a, with what is still to be looked at -/
structure QO (S C : List (κ × κ)) (D : List κ) : Prop where
  snd : ∀ c d, (c, d) ∈ C → TG S c d
  fst : ∀ c d, (c, d) ∈ C → c ∈ D
  don : ∀ c ∈ D, ∀ d, TG S c d → (c, d) ∈ C
structure QI (S C : List (κ × κ)) (D : List κ) (a : κ) (todo : List κ) : Prop where
  snd : ∀ c d, (c, d) ∈ C → TG S c d
  fst : ∀ c d, (c, d) ∈ C → c = a ∨ c ∈ D
  don : ∀ c ∈ D, ∀ d, TG S c d → (c, d) ∈ C
  tod : ∀ y ∈ todo, TG S a y
  p1 : ∀ d, (a, d) ∈ S → (a, d) ∈ C ∨ d ∈ todo
  p2 : ∀ c d, (a, c) ∈ C → (c, d) ∈ S → (a, d) ∈ C ∨ d ∈ todo
variable {S C : List (κ × κ)} {D : List κ} {a y : κ} {todo tl more : List κ}
theorem QO.init : QO S [] ([] : List κ) := ⟨by simp, by simp, by simp⟩
theorem QO.start (h : QO S C D) (ha : a ∉ D) (ht : ∀ d, d ∈ todo ↔ (a, d) ∈ S) : QI S C D a todo :=
  ⟨h.snd, fun c d hc => .inr (h.fst c d hc), h.don, fun y hy => .one ((ht y).1 hy), fun d hd => .inr ((ht d).2 hd), fun c d hc _ => absurd (h.fst a c hc) ha⟩
theorem QI.skip (h : QI S C D a (y :: tl)) (hy : (a, y) ∈ C) : QI S C D a tl := by
  refine ⟨h.snd, h.fst, h.don, fun z hz => h.tod z (by simp [hz]), fun d hd => ?_, fun c d hc hd => ?_⟩
  · rcases h.p1 d hd with h1 | h1
    · exact .inl h1
    · rcases List.mem_cons.1 h1 with rfl | h1
      · exact .inl hy
      · exact .inr h1
  · rcases h.p2 c d hc hd with h1 | h1
    · exact .inl h1
    · rcases List.mem_cons.1 h1 with rfl | h1
      · exact .inl hy
      · exact .inr h1
theorem QI.add (h : QI S C D a (y :: tl)) (hm : ∀ d, d ∈ more ↔ (y, d) ∈ S) : QI S (addP C (a, y)) D a (tl ++ more) := by
  have hty := h.tod y (by simp)
  refine ⟨fun c d hc => ?_, fun c d hc => ?_, fun c hc d hd => mem_addP.2 (.inr (h.don c hc d hd)), fun z hz => ?_, fun d hd => ?_, fun c d hc hd => ?_⟩
  · rcases mem_addP.1 hc with e | hc
    · cases e; exact hty
    · exact h.snd c d hc
  · rcases mem_addP.1 hc with e | hc
    · cases e; exact .inl rfl
    · exact h.fst c d hc
  · rcases List.mem_append.1 hz with hz | hz
    · exact h.tod z (by simp [hz])
    · exact .step hty ((hm z).1 hz)
  · rcases h.p1 d hd with h1 | h1
    · exact .inl (mem_addP.2 (.inr h1))
    · rcases List.mem_cons.1 h1 with rfl | h1
      · exact .inl (mem_addP.2 (.inl rfl))
      · exact .inr (by simp [h1])
  · rcases mem_addP.1 hc with e | hc
    · cases e; exact .inr (List.mem_append_right _ ((hm d).2 hd))
    · rcases h.p2 c d hc hd with h1 | h1
      · exact .inl (mem_addP.2 (.inr h1))
      · rcases List.mem_cons.1 h1 with rfl | h1
        · exact .inl (mem_addP.2 (.inl rfl))
        · exact .inr (by simp [h1])
theorem QI.fin (h : QI S C D a []) : QO S C (D ++ [a]) := by
  have all : ∀ d, TG S a d → (a, d) ∈ C := fun d t => by
    induction t with
    | one hd => exact (h.p1 _ hd).resolve_right (by simp)
    | step _ hd ih => exact (h.p2 _ _ ih hd).resolve_right (by simp)
  refine ⟨h.snd, fun c d hc => ?_, fun c hc d t => ?_⟩
  · rcases h.fst c d hc with rfl | h1 <;> simp [*]
  · rcases List.mem_append.1 hc with hc | hc
    · exact h.don c hc d t
    · rw [List.mem_singleton.1 hc] at t ⊢; exact all d t
theorem QO.fin (h : QO S C D) (hD : ∀ c d, (c, d) ∈ S → c ∈ D) (p : κ × κ) : p ∈ C ↔ TG S p.1 p.2 :=
  ⟨fun hp => h.snd p.1 p.2 hp, fun t => by obtain ⟨c, hc⟩ := t.fst; exact h.don p.1 (hD _ _ hc) p.2 t⟩
theorem nodup_le {α : Type} [DecidableEq α] : ∀ {l m : List α}, l.Nodup → (∀ x ∈ l, x ∈ m) → l.length ≤ m.length
  | [], m, _, _ => Nat.zero_le _
  | a :: l, m, hn, hs => by
    rw [List.nodup_cons] at hn
    have ha := hs a (by simp)
    have := nodup_le (m := m.erase a) hn.2 (fun x hx => by
      have hxa : x ≠ a := fun e => by subst e; exact hn.1 hx
      exact (List.mem_erase_of_ne hxa).2 (hs x (by simp [hx])))
    rw [List.length_erase_of_mem ha] at this
    have := List.length_pos_of_mem ha
    simp; omega
theorem clo_len (hn : C.Nodup) (hs : ∀ c d, (c, d) ∈ C → TG S c d) : C.length ≤ S.length * S.length := by
  have key : ∀ l : List (κ × κ), (l.flatMap (fun p => S.map (fun q => (p.1, q.2)))).length = l.length * S.length := by
    intro l
    induction l with
    | nil => simp
    | cons a l ih => rw [List.flatMap_cons, List.length_append, ih, List.length_map, List.length_cons, Nat.succ_mul, Nat.add_comm]
  rw [← key S]
  refine nodup_le hn fun ⟨c, d⟩ hx => ?_
  have t := hs c d hx
  obtain ⟨c', h1⟩ := t.fst
  obtain ⟨q, h2, e⟩ := List.mem_map.1 t.snd
  refine List.mem_flatMap.2 ⟨_, h1, List.mem_map.2 ⟨q, h2, ?_⟩⟩
  simp only [← e]
end
end Go.U
namespace Go.U
open Go
theorem mem1 {q : Blk} {R : List Blk} {L : List (List Blk)} (h : q ∈ L.flatten) : q ∈ (R :: L).flatten := List.mem_append_right _ h
theorem mem0 {q : Blk} {R : List Blk} {L : List (List Blk)} (h : q ∈ R) : q ∈ (R :: L).flatten := List.mem_append_left _ h
end Go.U
namespace Go.U
open Go
theorem x_sliceTl {P : Program} {n : Sz} {F : Frm} {ro : Ro} {K : List Blk} {dst : Option Tmp} {ty : TypeId} {pos : String} {aft : Array Edge} {g : Option (Nat × Bool)} {t : TypeId} {x : Operand} {A : Option Addr} {cap k : Nat} (len : Nat) (ht : slSize P t = some k) (hx : ev F x = some (.slice A (len + 1) cap)) :
    Ex P n F ro K ⟨dst, .slice t x (some (.const (.int .i64 1))) none none, ty, pos, aft, g⟩ (.slice (cutA A cap 1 k) len (cap - 1)) :=
  x_sliceLo (k1 := .i64) (i := 1) ht hx rfl (by omega) (by omega)
end Go.U
namespace Go.U
open Go
section
variable {P : Program} {n : Sz} {F : Frm} {ro : Ro} {Kb : List Blk} {dst : Option Tmp} {ty : TypeId} {pos : String} {aft : Array Edge} {g : Option (Nat × Bool)}
theorem x_ptrEqNil {t t' e : TypeId} {x y : Operand} {a : Addr} (ht : P.underlying t = some (.pointer e)) (hx : ev F x = some (.pointer (some a))) (hy : ev F y = some (.pointer none)) :
    Ex P n F ro Kb ⟨dst, .binOp .eql t x y t', ty, pos, aft, g⟩ (.bool false) :=
  fun a' w hf _ => by
    have h : ∀ d, (Op.equalIn (d + 1) t (.pointer (some a)) (.pointer none)).run P w = .ok false w := fun d => by simp [Op.equalIn, run_underlying ht]
    have h2 : (Op.equal t (.pointer (some a)) (.pointer none)).run P w = .ok false w := h 9999
    simp only [execOp, hf.ev hx, hf.ev hy, eqGuard, binOp]
    simp [h2]
theorem x_ptrNeNil {t t' e : TypeId} {x y : Operand} {a : Addr} (ht : P.underlying t = some (.pointer e)) (hx : ev F x = some (.pointer (some a))) (hy : ev F y = some (.pointer none)) :
    Ex P n F ro Kb ⟨dst, .binOp .neq t x y t', ty, pos, aft, g⟩ (.bool true) :=
  fun a' w hf _ => by
    have h : ∀ d, (Op.equalIn (d + 1) t (.pointer (some a)) (.pointer none)).run P w = .ok false w := fun d => by simp [Op.equalIn, run_underlying ht]
    have h2 : (Op.equal t (.pointer (some a)) (.pointer none)).run P w = .ok false w := h 9999
    simp only [execOp, hf.ev hx, hf.ev hy, eqGuard, binOp]
    simp [h2]
/-- an operation's value told otherwise -/
theorem Ex.as {o : Oper} {v v' : Value} (h : Ex P n F ro Kb o v) (e : v = v') : Ex P n F ro Kb o v' := e ▸ h
end
end Go.U
namespace Go.U
open Go
theorem OwnS.lit {e : TypeId} {k b m : Nat} {xs : List Value} (h : xs.length = m * k) (hm : m ≤ maxLen) : OwnS e k (some ⟨b, 0, none⟩) m m xs [(b, .cells xs.toArray e (0, 0))] :=
  ⟨h, .inr ⟨b, 0, _, rfl, rfl, Nat.le_refl _, hm, by simp [h], by rw [← h]; simp⟩⟩
end Go.U
namespace Go.U
open Go
theorem x_sliceHiN {P : Program} {n : Sz} {F : Frm} {ro : Ro} {K : List Blk} {dst : Option Tmp} {ty : TypeId} {pos : String} {aft : Array Edge} {g : Option (Nat × Bool)} {t : TypeId} {x hi : Operand} {A : Option Addr} {len cap k : Nat} {k1 : IntKind} {i : Nat} (ht : slSize P t = some k) (hx : ev F x = some (.slice A len cap)) (hl : ev F hi = some (.int k1 (i : Int)))
    (h1 : i ≤ cap) : Ex P n F ro K ⟨dst, .slice t x none (some hi) none, ty, pos, aft, g⟩ (.slice A i cap) := by
  have h := x_sliceHi (P := P) (n := n) (ro := ro) (K := K) (dst := dst) (ty := ty) (pos := pos) (aft := aft) (g := g) ht hx hl (by omega) (by omega)
  simpa using h
end Go.U
