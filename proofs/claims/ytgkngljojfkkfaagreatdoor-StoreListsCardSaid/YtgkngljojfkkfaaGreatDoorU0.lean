/- The symbolic state of a walk: facts on temporaries (FA), memory that stays (Ro), memory that is owned (I), and what is to be shown in every state that meets them (WQ). -/
import Derived.Calls
import Derived.Tactics
import Derived.OrdersHeld
import Derived.Laws.World
import Derived.Laws.Sem
import Derived.Laws.Rows
import Derived.KernelRfl
import Derived.Below
namespace Go.U
open Go

abbrev Frm := List (Nat × Value)

def look (i : Nat) : Frm → Option Value
  | [] => none
  | (j, v) :: F => match Nat.beq i j with
    | true => some v
    | false => look i F

/-- how many temporaries an activation has; the blocks of the loops over functions that it has been through -/
structure Sz where
  sz : Nat
  ds : List Nat
def marks (ds : List Nat) : List Deferred := ds.map fun D => { target := .collected D, args := #[] }
structure FA (n : Sz) (F : Frm) (a : Act) : Prop where
  size : a.tmps.size = n.sz
  defers : a.defers = marks n.ds
  at_ : ∀ i v, look i F = some v → a.tmps[i]? = some v

theorem FA.put {n : Sz} {F : Frm} {a : Act} (h : FA n F a) {d : Nat} (hd : Nat.blt d n.sz = true) (v : Value) : FA n ((d, v) :: F) (a.put (some d) v) := by
  have hd' : d < n.sz := by simpa [Nat.blt_eq] using hd
  refine ⟨by simp [Act.put, h.size], h.defers, fun i u hu => ?_⟩
  simp only [look] at hu
  by_cases hi : i = d
  · subst hi
    have : Nat.beq i i = true := Nat.beq_refl i
    rw [this] at hu
    simp only [Option.some.injEq] at hu
    subst hu
    simp [Act.put, h.size, hd']
  · have : Nat.beq i d = false := by
      cases hb : Nat.beq i d with
      | false => rfl
      | true => exact absurd (Nat.eq_of_beq_eq_true hb) hi
    rw [this] at hu
    have := h.at_ i u hu
    simp only [Act.put]
    rw [Array.getElem?_setIfInBounds_ne (fun e => hi e.symm)]
    exact this

/-- what a frame says covers what another one says -/
def Cov : Frm → Frm → Prop
  | [], _ => True
  | (i, v) :: F', F => look i F = some v ∧ Cov F' F

theorem Cov.look {F' F : Frm} (h : Cov F' F) : ∀ i v, look i F' = some v → look i F = some v := by
  induction F' with
  | nil => intro i v hv; simp [U.look] at hv
  | cons p F' ih =>
    obtain ⟨j, u⟩ := p
    obtain ⟨h1, h2⟩ := h
    intro i v hv
    simp only [U.look] at hv
    by_cases hij : i = j
    · subst hij
      rw [Nat.beq_refl] at hv
      simp only [Option.some.injEq] at hv
      subst hv
      exact h1
    · have : Nat.beq i j = false := by
        cases hb : Nat.beq i j with
        | false => rfl
        | true => exact absurd (Nat.eq_of_beq_eq_true hb) hij
      rw [this] at hv
      exact ih h2 i v hv

theorem FA.cov {n : Sz} {F F' : Frm} {a : Act} (h : FA n F a) (hc : Cov F' F) : FA n F' a :=
  ⟨h.size, h.defers, fun i v hv => h.at_ i v (hc.look i v hv)⟩

/-- the value of an operand -/
def ev (F : Frm) : Operand → Option Value
  | .tmp t => look t F
  | .const v => some v
  | .global g => some (.pointer (some ⟨g, 0, none⟩))
  | .func f => some (.func (.func f) #[] #[])

theorem FA.ev {n : Sz} {F : Frm} {a : Act} (h : FA n F a) {x : Operand} {v : Value} (hx : U.ev F x = some v) : a.eval x = v := by
  cases x with
  | tmp t =>
    have := h.at_ t v hx
    simp [Act.eval, this]
  | const u => simpa [U.ev, Act.eval] using hx
  | global g => simpa [U.ev, Act.eval] using hx
  | func f => simpa [U.ev, Act.eval] using hx

def evs (F : Frm) : List Operand → Option (List Value)
  | [] => some []
  | x :: xs => match ev F x, evs F xs with
    | some v, some vs => some (v :: vs)
    | _, _ => none

theorem FA.evs {n : Sz} {F : Frm} {a : Act} (h : FA n F a) : ∀ {xs : List Operand} {vs : List Value}, U.evs F xs = some vs → xs.map a.eval = vs
  | [], vs, hx => by simpa [U.evs] using hx
  | x :: xs, vs, hx => by
    simp only [U.evs] at hx
    split at hx
    · rename_i v us h1 h2
      simp only [Option.some.injEq] at hx
      subst hx
      simp [h.ev h1, FA.evs h h2]
    · cases hx

/-- memory that stays as it is -/
structure Ro where
  os : Os
  tape : Nat → Question → Nat
  output : Array (Nat × ByteArray)
  size : Nat
  cells : Nat → Option Obj

def Ro.cell (r : Ro) (b off : Nat) : Option Value :=
  match r.cells b with
  | some (.cells c _ _) => c[off]?
  | _ => none

structure Ro.le (r s : Ro) : Prop where
  os : s.os = r.os
  tape : s.tape = r.tape
  output : s.output = r.output
  size : r.size ≤ s.size
  cells : ∀ b o, r.cells b = some o → s.cells b = some o

theorem Ro.le.refl (r : Ro) : r.le r := ⟨rfl, rfl, rfl, Nat.le_refl _, fun _ _ h => h⟩
theorem Ro.le.trans {r s t : Ro} (h : r.le s) (k : s.le t) : r.le t :=
  ⟨k.os.trans h.os, k.tape.trans h.tape, k.output.trans h.output, Nat.le_trans h.size k.size, fun b o e => k.cells b o (h.cells b o e)⟩
theorem Ro.le.cell {r s : Ro} (h : r.le s) {b off : Nat} {v : Value} (hc : r.cell b off = some v) : s.cell b off = some v := by
  unfold Ro.cell at *
  split at hc
  · rename_i c t f he
    rw [h.cells b _ he]
    exact hc
  · cases hc

abbrev Blk := Nat × Obj

/-- what the reading of memory may rely on -/
structure J (ro : Ro) (K : List Blk) (w : World) : Prop where
  old : ∀ b o, ro.cells b = some o → w.heap[b]? = some o
  own : ∀ x ∈ K, w.heap[x.1]? = some x.2

/-- the world: what stays, what is owned -/
structure I (ro : Ro) (L : List (List Blk)) (w : World) : Prop where
  os : w.os = ro.os
  tape : w.tape = ro.tape
  output : w.output = ro.output
  size : ro.size ≤ w.heap.size
  old : ∀ b o, ro.cells b = some o → w.heap[b]? = some o
  own : ∀ x ∈ L.flatten, w.heap[x.1]? = some x.2
  apart : ∀ x ∈ L.flatten, ro.cells x.1 = none
  nodup : (L.flatten.map (·.1)).Nodup

theorem I.j {ro : Ro} {L : List (List Blk)} {w : World} (h : I ro L w) : J ro L.flatten w := ⟨h.old, h.own⟩
theorem I.drew {ro : Ro} {L : List (List Blk)} {w : World} (h : I ro L w) : I ro L { w with drawn := w.drawn + 1 } :=
  ⟨h.os, h.tape, h.output, h.size, h.old, h.own, h.apart, h.nodup⟩
theorem I.drawn {ro : Ro} {L : List (List Blk)} {w : World} (h : I ro L w) (n : Nat) : I ro L { w with drawn := n } :=
  ⟨h.os, h.tape, h.output, h.size, h.old, h.own, h.apart, h.nodup⟩

/-- The owned blocks may be named in another order, and some may be let go. -/
theorem I.sub {ro : Ro} {L L' : List (List Blk)} {w : World} (h : I ro L w) (hs : ∃ M, M.Perm L.flatten ∧ L'.flatten.Sublist M) : I ro L' w := by
  obtain ⟨M, hp, hs⟩ := hs
  refine ⟨h.os, h.tape, h.output, h.size, h.old, fun x hx => h.own x (hp.mem_iff.1 (hs.subset hx)), fun x hx => h.apart x (hp.mem_iff.1 (hs.subset hx)), ?_⟩
  exact List.Nodup.sublist (hs.map _) ((hp.map (·.1)).nodup_iff.2 h.nodup)

theorem I.perm {ro : Ro} {L L' : List (List Blk)} {w : World} (h : I ro L w) (hp : L'.Perm L) : I ro L' w :=
  h.sub ⟨_, hp.flatten, List.Sublist.refl _⟩

/-- What is to be shown in every state that meets the facts. -/
def WQ (n : Sz) (K : Act → World → Prop) (F : Frm) (ro : Ro) (L : List (List Blk)) : Prop := ∀ a w, FA n F a → I ro L w → K a w

section
variable {P : Program} {n : Sz} {Q : Exit → Act → World → Prop} {F : Frm} {ro : Ro} {L : List (List Blk)}

theorem seq {x y : Code} (h : WQ n (x.wp P (Exit.then (y.wp P Q) Q)) F ro L) : WQ n ((Code.seq x y).wp P Q) F ro L :=
  fun a w hf hi => wp_seq (h a w hf hi)
theorem block {id : Nat} {c : Code} (h : WQ n (c.wp P (Exit.inBlock id Q)) F ro L) : WQ n ((Code.block id c).wp P Q) F ro L :=
  fun a w hf hi => wp_block (h a w hf hi)
theorem skip (h : WQ n (Q .normal) F ro L) : WQ n (Code.skip.wp P Q) F ro L := fun a w hf hi => wp_skip (h a w hf hi)
theorem exit {id : Nat} (h : WQ n (Q (.exit id)) F ro L) : WQ n ((Code.exit id).wp P Q) F ro L := fun a w hf hi => wp_exit (h a w hf hi)
theorem ret (h : WQ n (Q .ret) F ro L) : WQ n (Code.ret.wp P Q) F ro L := fun a w hf hi => wp_ret (h a w hf hi)
theorem label {l : Nat} (h : WQ n (Q .normal) F ro L) : WQ n ((Code.label l).wp P Q) F ro L := fun a w hf hi => wp_label (h a w hf hi)

theorem n_then {K : Act → World → Prop} (h : WQ n K F ro L) : WQ n (Exit.then K Q .normal) F ro L := h
theorem n_in {id : Nat} (h : WQ n (Q .normal) F ro L) : WQ n (Exit.inBlock id Q .normal) F ro L := h
theorem r_then {K : Act → World → Prop} (h : WQ n (Q .ret) F ro L) : WQ n (Exit.then K Q .ret) F ro L := h
theorem r_in {id : Nat} (h : WQ n (Q .ret) F ro L) : WQ n (Exit.inBlock id Q .ret) F ro L := h
theorem e_then {id : Nat} {K : Act → World → Prop} (h : WQ n (Q (.exit id)) F ro L) : WQ n (Exit.then K Q (.exit id)) F ro L := h
theorem e_in {id : Nat} (h : WQ n (Q .normal) F ro L) : WQ n (Exit.inBlock id Q (.exit id)) F ro L :=
  fun a w hf hi => by simp only [Exit.inBlock, if_true]; exact h a w hf hi
theorem e_out {id id' : Nat} (hne : Nat.beq id' id = false) (h : WQ n (Q (.exit id')) F ro L) : WQ n (Exit.inBlock id Q (.exit id')) F ro L :=
  fun a w hf hi => by
    have : id' ≠ id := fun e => by subst e; rw [Nat.beq_refl] at hne; cases hne
    simp only [Exit.inBlock, this, if_false]; exact h a w hf hi

theorem cond {c : Operand} {x y : Code} {t : Bool} (hc : ev F c = some (.bool t)) (ht : t = true → WQ n (x.wp P Q) F ro L) (hf' : t = false → WQ n (y.wp P Q) F ro L) :
    WQ n ((Code.cond c x y).wp P Q) F ro L :=
  fun a w hf hi => wp_cond_split (hf.ev hc) (fun h => ht h a w hf hi) (fun h => hf' h a w hf hi)
theorem condT {c : Operand} {x y : Code} (hc : ev F c = some (.bool true)) (ht : WQ n (x.wp P Q) F ro L) : WQ n ((Code.cond c x y).wp P Q) F ro L :=
  fun a w hf hi => wp_cond_true (hf.ev hc) (ht a w hf hi)
theorem condF {c : Operand} {x y : Code} (hc : ev F c = some (.bool false)) (ht : WQ n (y.wp P Q) F ro L) : WQ n ((Code.cond c x y).wp P Q) F ro L :=
  fun a w hf hi => wp_cond_false (hf.ev hc) (ht a w hf hi)

/-- fewer facts suffice -/
theorem weak {K : Act → World → Prop} (F' : Frm) (hc : Cov F' F) (h : WQ n K F' ro L) : WQ n K F ro L := fun a w hf hi => h a w (hf.cov hc) hi
theorem subL {K : Act → World → Prop} (L' : List (List Blk)) (hc : ∃ M, M.Perm L.flatten ∧ L'.flatten.Sublist M) (h : WQ n K F ro L') : WQ n K F ro L := fun a w hf hi => h a w hf (hi.sub hc)
theorem permL {K : Act → World → Prop} (L' : List (List Blk)) (hc : L'.Perm L) (h : WQ n K F ro L') : WQ n K F ro L := fun a w hf hi => h a w hf (hi.perm hc)

theorem least {p : Nat → Prop} (h : ∃ m, p m) : ∃ m, p m ∧ ∀ k, p k → m ≤ k := by
  obtain ⟨m, hm⟩ := h
  induction m using Nat.strongRecOn with
  | _ m ih =>
    by_cases hl : ∃ k, k < m ∧ p k
    · obtain ⟨k, hk, hp⟩ := hl
      exact ih k hk hp
    · exact ⟨m, hm, fun k hk => by
        rcases Nat.lt_or_ge k m with h | h
        · exact absurd ⟨k, h, hk⟩ hl
        · exact h⟩

/-- what the end of a round owes -/
def Round (n : Sz) (Inv : Nat → Frm → Ro → List (List Blk) → Prop) (m : Nat) : Act → World → Prop :=
  fun a w => ∃ m' F' ro' L', m' < m ∧ Inv m' F' ro' L' ∧ FA n F' a ∧ I ro' L' w

theorem loop {c : Code} (Inv : Nat → Frm → Ro → List (List Blk) → Prop) (m0 : Nat) (F0 : Frm) (hF : Cov F0 F) (h0 : Inv m0 F0 ro L)
    (step : ∀ m F ro L, Inv m F ro L → WQ n (c.wp P (Exit.then (Round n Inv m) Q)) F ro L) : WQ n ((Code.loop c).wp P Q) F ro L := by
  intro a w hf hi
  let R : Act → World → Nat → Prop := fun a w m => ∃ F' ro' L', Inv m F' ro' L' ∧ FA n F' a ∧ I ro' L' w
  have hmu : ∃ μ : Act → World → Nat, ∀ a w, (∃ m, R a w m) → R a w (μ a w) ∧ ∀ k, R a w k → μ a w ≤ k := by
    have hx : ∀ a w, ∃ μ : Nat, (∃ m, R a w m) → R a w μ ∧ ∀ k, R a w k → μ ≤ k := fun a w => by
      by_cases h : ∃ m, R a w m
      · obtain ⟨m, hm⟩ := least h
        exact ⟨m, fun _ => hm⟩
      · exact ⟨0, fun h' => absurd h' h⟩
    exact ⟨fun a w => Classical.choose (hx a w), fun a w h => Classical.choose_spec (hx a w) h⟩
  obtain ⟨μ, hμ⟩ := hmu
  refine wp_loop (fun a w => ∃ m, R a w m) μ ⟨m0, F0, ro, L, h0, hf.cov hF, hi⟩ fun a w hI => ?_
  obtain ⟨⟨F', ro', L', hinv, hfa, hii⟩, hmin⟩ := hμ a w hI
  refine wp_mono (step _ F' ro' L' hinv a w hfa hii) fun e a' w' hq => ?_
  cases e with
  | normal =>
    obtain ⟨m', F2, ro2, L2, hlt, hinv2, hf2, hi2⟩ := hq
    have hR : R a' w' m' := ⟨F2, ro2, L2, hinv2, hf2, hi2⟩
    exact ⟨⟨m', hR⟩, Nat.lt_of_le_of_lt ((hμ a' w' ⟨m', hR⟩).2 m' hR) hlt⟩
  | exit id => exact hq
  | goto l => exact hq
  | ret => exact hq
  | panic c => exact hq
  | outgrown => exact hq

/-- the end of a round -/
theorem round {Inv : Nat → Frm → Ro → List (List Blk) → Prop} {m : Nat} (m' : Nat) (F' : Frm) (hlt : m' < m) (hc : Cov F' F) (h : Inv m' F' ro L) : WQ n (Round n Inv m) F ro L :=
  fun _ _ hf hi => ⟨m', F', ro, L, hlt, h, hf.cov hc, hi⟩

/-! ### operations -/

/-- An operation that yields a value and does nothing else, in every state that meets the facts. -/
def Ex (P : Program) (n : Sz) (F : Frm) (ro : Ro) (K : List Blk) (o : Oper) (v : Value) : Prop :=
  ∀ a w, FA n F a → J ro K w → (execOp a.eval o).run P w = .ok (.value v) w

/-- An operation, what follows being K. -/
def WO (P : Program) (n : Sz) (o : Oper) (K : Act → World → Prop) (Q : Exit → Act → World → Prop) (F : Frm) (ro : Ro) (L : List (List Blk)) : Prop :=
  WQ n (fun a w => o.wp P a w K Q) F ro L

theorem region {id : Nat} {l : List Oper} (h : WQ n (wpList P l.toArray Q l) F ro L) : WQ n ((Code.region id l.toArray false).wp P Q) F ro L :=
  fun a w hf hi => wp_region_lit (h a w hf hi)
theorem nil {ops : Array Oper} (h : WQ n (Q .normal) F ro L) : WQ n (wpList P ops Q []) F ro L := h

/-- no guard -/
theorem op {ops : Array Oper} {dst : Option Tmp} {o : Op} {ty : TypeId} {pos : String} {aft : Array Edge} {rest : List Oper}
    (h : WO P n ⟨dst, o, ty, pos, aft, none⟩ (wpList P ops Q rest) Q F ro L) : WQ n (wpList P ops Q (⟨dst, o, ty, pos, aft, none⟩ :: rest)) F ro L :=
  fun a w hf hi => wpList_plain rfl fun K hK => by
    have := h a w hf hi
    exact Oper.wp_mono hK this

theorem wanted_of {ops : Array Oper} {o : Oper} {a : Act} {j t : Nat} {b c : Bool} (hg : o.guard = some (j, b)) (hj : (ops[j]?).bind (·.dst) = some t) (hf : FA n F a) (hl : look t F = some (.bool c)) :
    Region.wanted o (yielded ops a.tmps) = (c == b) := by
  have h2 := hf.at_ t _ hl
  simp only [Region.wanted, hg, yielded, hj, Option.bind_some, h2]
  cases b <;> cases c <;> rfl

/-- a guard that lets it run -/
theorem opG {ops : Array Oper} {dst : Option Tmp} {o : Op} {ty : TypeId} {pos : String} {aft : Array Edge} {rest : List Oper} {j t : Nat} {b : Bool}
    (hj : (ops[j]?).bind (·.dst) = some t) (hl : look t F = some (.bool b))
    (h : WO P n ⟨dst, o, ty, pos, aft, some (j, b)⟩ (wpList P ops Q rest) Q F ro L) : WQ n (wpList P ops Q (⟨dst, o, ty, pos, aft, some (j, b)⟩ :: rest)) F ro L :=
  fun a w hf hi => wpList_step fun K hK => by
    rw [wanted_of (o := ⟨dst, o, ty, pos, aft, some (j, b)⟩) rfl hj hf hl]
    simp only [beq_self_eq_true, if_true]
    exact Oper.wp_mono hK (h a w hf hi)

/-- a guard that does not -/
theorem opN {ops : Array Oper} {d : Tmp} {o : Op} {ty : TypeId} {pos : String} {aft : Array Edge} {rest : List Oper} {j t : Nat} {b c : Bool}
    (hj : (ops[j]?).bind (·.dst) = some t) (hl : look t F = some (.bool c)) (hb : (c == b) = false) (hd : Nat.blt d n.sz = true)
    (h : WQ n (wpList P ops Q rest) ((d, undef) :: F) ro L) : WQ n (wpList P ops Q (⟨some d, o, ty, pos, aft, some (j, b)⟩ :: rest)) F ro L :=
  fun a w hf hi => wpList_step fun K hK => by
    rw [wanted_of (o := ⟨some d, o, ty, pos, aft, some (j, b)⟩) rfl hj hf hl, hb]
    simp only [Bool.false_eq_true, if_false]
    exact hK _ _ (h _ _ (hf.put hd _) hi)

theorem FA.again {a : Act} (h : FA n F a) {t : Nat} {v : Value} (hl : look t F = some v) : FA n ((t, v) :: F) a :=
  ⟨h.size, h.defers, fun i u hu => by
    simp only [look] at hu
    by_cases hi : i = t
    · subst hi
      rw [Nat.beq_refl] at hu
      simp only [Option.some.injEq] at hu
      subst hu
      exact h.at_ i _ hl
    · have : Nat.beq i t = false := by
        cases hb : Nat.beq i t with
        | false => rfl
        | true => exact absurd (Nat.eq_of_beq_eq_true hb) hi
      rw [this] at hu
      exact h.at_ i u hu⟩

/-- a guard that did not come to run itself -/
theorem opU {ops : Array Oper} {d : Tmp} {o : Op} {ty : TypeId} {pos : String} {aft : Array Edge} {rest : List Oper} {j t : Nat} {b : Bool}
    (hj : (ops[j]?).bind (·.dst) = some t) (hl : look t F = some undef) (hd : Nat.blt d n.sz = true)
    (h : WQ n (wpList P ops Q rest) ((d, undef) :: F) ro L) : WQ n (wpList P ops Q (⟨some d, o, ty, pos, aft, some (j, b)⟩ :: rest)) F ro L :=
  fun a w hf hi => wpList_step fun K hK => by
    have h2 := hf.at_ t _ hl
    have : Region.wanted (⟨some d, o, ty, pos, aft, some (j, b)⟩ : Oper) (yielded ops a.tmps) = false := by
      simp only [Region.wanted, yielded, hj, Option.bind_some, h2, undef]
      rfl
    rw [this]
    simp only [Bool.false_eq_true, if_false]
    exact hK _ _ (h _ _ (hf.put hd _) hi)

/-- a Bool in a temporary is settled both ways -/
theorem bsplit {K : Act → World → Prop} (t : Nat) {c : Bool} (hl : look t F = some (.bool c)) (ht : c = true → WQ n K ((t, .bool true) :: F) ro L) (hf' : c = false → WQ n K ((t, .bool false) :: F) ro L) : WQ n K F ro L := by
  cases c with
  | true => exact fun a w hf hi => ht rfl a w (hf.again hl) hi
  | false => exact fun a w hf hi => hf' rfl a w (hf.again hl) hi

/-- a temporary's value is said otherwise -/
theorem said {K : Act → World → Prop} (t : Nat) {u : Value} (v : Value) (hl : look t F = some u) (he : u = v) (h : WQ n K ((t, v) :: F) ro L) : WQ n K F ro L := by
  subst he
  exact fun a w hf hi => h a w (hf.again hl) hi

/-- an operation that yields -/
theorem y {d : Tmp} {o : Op} {ty : TypeId} {pos : String} {aft : Array Edge} {g : Option (Nat × Bool)} {K : Act → World → Prop} {v : Value}
    (hx : Ex P n F ro L.flatten ⟨some d, o, ty, pos, aft, g⟩ v) (hd : Nat.blt d n.sz = true) (h : WQ n K ((d, v) :: F) ro L) : WO P n ⟨some d, o, ty, pos, aft, g⟩ K Q F ro L :=
  fun a w hf hi => by
    simp only [Oper.wp, hx a w hf hi.j, Oper.upon]
    exact h _ _ (hf.put hd v) hi

end
end Go.U
