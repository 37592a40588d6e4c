/- The automaton of histories, in plain words. -/
import Derived.Test.YtijafcilfefafaaDoorV14
namespace Go.Proofs.YtijafcilfefafaaDoor
open Go Go.U
set_option maxRecDepth 20000
set_option linter.unusedSimpArgs false
set_option linter.unusedVariables false

def evOkB (e : Ev) : Bool := decide (1 ≤ e.kind ∧ e.kind ≤ 7) && !decide (e.kind = 2 ∧ ofK e.op = 0) && !decide (e.kind = 3 ∧ ¬ (1 ≤ e.ret ∧ e.ret ≤ 3)) && (flds e).all (fun j => decide (minJ j ≤ evGet e j ∧ evGet e j ≤ maxJ j)) && [1, 2, 3, 4, 5, 6, 7].all (fun j => decide (j ∈ flds e) || decide (evGet e j = 0))
theorem evOkB_iff {e : Ev} : evOkB e = true ↔ EvOk e := by
  have h7 : (∀ j ∈ [1, 2, 3, 4, 5, 6, 7], (decide (j ∈ flds e) || decide (evGet e j = 0)) = true) ↔ ∀ j : Nat, 1 ≤ j → j < 8 → j ∉ flds e → evGet e j = 0 := by
    constructor
    · intro h j h1 h2 h3
      have := h j (by simp; omega)
      simp [h3] at this
      exact this
    · intro h j hj
      by_cases hm : j ∈ flds e
      · simp [hm]
      · simp at hj
        simp [hm, h j (by omega) (by omega) hm]
  unfold evOkB EvOk
  rw [← h7]
  simp only [Bool.and_eq_true, List.all_eq_true, decide_eq_true_eq, Bool.not_eq_true', decide_eq_false_iff_not]
  constructor
  · rintro ⟨⟨⟨⟨a, b⟩, c⟩, d⟩, g⟩; exact ⟨a, b, c, d, g⟩
  · rintro ⟨a, b, c, d, g⟩; exact ⟨⟨⟨⟨a, b⟩, c⟩, d⟩, g⟩
instance instEvOk (e : Ev) : Decidable (EvOk e) := decidable_of_iff _ evOkB_iff
def evInB (os : List Ob) (e : Ev) : Bool := decide (e.kind ≠ 2) || (decide (e.obj < os.length) && match os[e.obj.toNat]? with | some o => decide (ofK e.op = o.kind) | none => true)
theorem evInB_iff {os : List Ob} {e : Ev} : evInB os e = true ↔ EvIn os e := by
  unfold evInB EvIn
  by_cases hk : e.kind = 2
  · cases h : os[e.obj.toNat]? with
    | none => simp [hk]
    | some o => simp [hk]
  · simp [hk]
instance instEvIn (os : List Ob) (e : Ev) : Decidable (EvIn os e) := decidable_of_iff _ evInB_iff
/-- an event is taken -/
def feedM (os : List Ob) (n : Nat) (sts : List St) (e : Ev) : Option (List St) :=
  if n = 400 ∨ ¬ EvOk e ∨ ¬ EvIn os e then none
  else if e.kind = 1 then (if (∃ s ∈ sts, s.tx.id = e.tx) ∨ (∃ s ∈ sts, s.tx.thread = e.thread ∧ s.stand ≠ 5) then none else some (sts ++ [⟨⟨e.tx, e.thread, 1, n, -1, -1, []⟩, 1⟩]))
  else match sts.find? (fun s => decide (s.tx.id = e.tx)) with
    | none => none
    | some s => if s.stand ∈ fromM e.kind then (moveM s e n).map (fun s' => sts.map (fun t => if t.tx.id = e.tx then s' else t)) else none
structure Inv (n : Nat) (sts : List St) : Prop where
  ids : sts.Pairwise (fun a b => a.tx.id ≠ b.tx.id)
  thr : sts.Pairwise (fun a b => a.stand ≠ 5 → b.stand ≠ 5 → a.tx.thread ≠ b.tx.thread)
  ds : ∀ s ∈ sts, s.tx.ds.length ≤ n ∧ (s.stand = 2 → s.tx.ds ≠ [])
  len : sts.length ≤ n
theorem Inv.nil : Inv 0 [] := ⟨.nil, .nil, by simp, by simp⟩
theorem fromM_live {s k : Int} (h : s ∈ fromM k) : s ≠ 5 := by
  unfold fromM at h
  split at h
  · simp at h; omega
  · split at h
    · simp at h; omega
    · split at h <;> simp at h <;> omega
theorem moveM_facts {s s' : St} {e : Ev} {n : Int} (h : moveM s e n = some s') : s'.tx.id = s.tx.id ∧ s'.tx.thread = s.tx.thread ∧ s'.tx.beg = s.tx.beg ∧ s'.tx.ds.length ≤ s.tx.ds.length + 1 ∧ (s'.stand = 2 → s'.tx.ds ≠ []) := by
  unfold moveM at h
  split at h
  · cases h; simp
  · split at h
    · split at h
      · cases h
      · rename_i d hd
        split at h
        · cases h
          refine ⟨rfl, rfl, rfl, by simp <;> omega, fun h2 => by simp at h2⟩
        · cases h
    · split at h
      · cases h; simp
      · split at h
        · cases h; simp
        · split at h <;> (cases h; simp)
theorem Inv.set {n : Nat} {S1 S2 : List St} {s s' : St} (h : Inv n (S1 ++ s :: S2)) (hid : s'.tx.id = s.tx.id) (hth : s'.tx.thread = s.tx.thread) (hl : s.stand ≠ 5) (hd : s'.tx.ds.length ≤ s.tx.ds.length + 1) (h2 : s'.stand = 2 → s'.tx.ds ≠ []) : Inv (n + 1) (S1 ++ s' :: S2) := by
  obtain ⟨a, b, c, d⟩ := h
  rw [List.pairwise_append, List.pairwise_cons] at a b
  obtain ⟨a1, ⟨a2, a3⟩, a4⟩ := a
  obtain ⟨b1, ⟨b2, b3⟩, b4⟩ := b
  refine ⟨?_, ?_, ?_, by simp at d ⊢; omega⟩
  · rw [List.pairwise_append, List.pairwise_cons]
    refine ⟨a1, ⟨fun x hx => by rw [hid]; exact a2 x hx, a3⟩, fun x hx y hy => ?_⟩
    rcases List.mem_cons.1 hy with rfl | hy
    · rw [hid]; exact a4 x hx s (by simp)
    · exact a4 x hx y (by simp [hy])
  · rw [List.pairwise_append, List.pairwise_cons]
    refine ⟨b1, ⟨fun x hx _ hx5 => by rw [hth]; exact b2 x hx hl hx5, b3⟩, fun x hx y hy => ?_⟩
    rcases List.mem_cons.1 hy with rfl | hy
    · rw [hth]; exact fun hx5 _ => b4 x hx s (by simp) hx5 hl
    · exact b4 x hx y (by simp [hy])
  · intro x hx
    simp only [List.mem_append, List.mem_cons] at hx
    rcases hx with hx | rfl | hx
    · have := c x (by simp [hx]); exact ⟨by omega, this.2⟩
    · have := c s (by simp); exact ⟨by omega, h2⟩
    · have := c x (by simp [hx]); exact ⟨by omega, this.2⟩
theorem feedM_beg {os : List Ob} {n : Nat} {sts : List St} {e : Ev} (hn : n ≠ 400) (hok : EvOk e) (hin : EvIn os e) (hk : e.kind = 1) : feedM os n sts e = if (∃ s ∈ sts, s.tx.id = e.tx) ∨ (∃ s ∈ sts, s.tx.thread = e.thread ∧ s.stand ≠ 5) then none else some (sts ++ [⟨⟨e.tx, e.thread, 1, n, -1, -1, []⟩, 1⟩]) := by
  unfold feedM
  rw [if_neg (by simp [hn, hok, hin]), if_pos hk]
theorem feedM_oth {os : List Ob} {n : Nat} {sts : List St} {e : Ev} (hn : n ≠ 400) (hok : EvOk e) (hin : EvIn os e) (hk : e.kind ≠ 1) : feedM os n sts e = match sts.find? (fun s => decide (s.tx.id = e.tx)) with
    | none => none
    | some s => if s.stand ∈ fromM e.kind then (moveM s e n).map (fun s' => sts.map (fun t => if t.tx.id = e.tx then s' else t)) else none := by
  unfold feedM
  rw [if_neg (by simp [hn, hok, hin]), if_neg hk]
theorem find_split {sts : List St} {id : Int} {s : St} (h : sts.find? (fun s => decide (s.tx.id = id)) = some s) : ∃ S1 S2, sts = S1 ++ s :: S2 ∧ s.tx.id = id := by
  have h1 := List.mem_of_find?_eq_some h
  have h2 := List.find?_some h
  obtain ⟨S1, S2, rfl⟩ := List.append_of_mem h1
  exact ⟨S1, S2, rfl, by simpa using h2⟩
theorem find_at {S1 S2 : List St} {s : St} (hp : (S1 ++ s :: S2).Pairwise (fun a b => a.tx.id ≠ b.tx.id)) : (S1 ++ s :: S2).find? (fun t => decide (t.tx.id = s.tx.id)) = some s := by
  rw [List.pairwise_append] at hp
  rw [List.find?_append]
  have : S1.find? (fun t => decide (t.tx.id = s.tx.id)) = none := by
    rw [List.find?_eq_none]
    intro x hx
    simpa using hp.2.2 x hx s (by simp)
  rw [this]
  simp
theorem map_at {S1 S2 : List St} {s s' : St} (hp : (S1 ++ s :: S2).Pairwise (fun a b => a.tx.id ≠ b.tx.id)) : (S1 ++ s :: S2).map (fun t => if t.tx.id = s.tx.id then s' else t) = S1 ++ s' :: S2 := by
  rw [List.pairwise_append, List.pairwise_cons] at hp
  obtain ⟨_, ⟨h2, _⟩, h3⟩ := hp
  rw [List.map_append, List.map_cons, if_pos rfl]
  congr 1
  · refine (List.map_congr_left (g := id) fun x hx => ?_).trans (List.map_id _)
    rw [if_neg (h3 x hx s (by simp))]; rfl
  · congr 1
    refine (List.map_congr_left (g := id) fun x hx => ?_).trans (List.map_id _)
    rw [if_neg (fun e => h2 x hx e.symm)]; rfl
/-- .. an event of a transaction that is there -/
theorem feedM_at {os : List Ob} {n : Nat} {S1 S2 : List St} {s : St} {e : Ev} (hI : Inv n (S1 ++ s :: S2)) (hn : n ≠ 400) (hok : EvOk e) (hin : EvIn os e) (hk : e.kind ≠ 1) (hid : s.tx.id = e.tx) : feedM os n (S1 ++ s :: S2) e = if s.stand ∈ fromM e.kind then (moveM s e n).map (fun s' => S1 ++ s' :: S2) else none := by
  rw [feedM_oth hn hok hin hk, ← hid, find_at hI.ids]
  simp only
  congr 1
  congr 1
  funext s'
  exact map_at hI.ids
theorem Inv.feed {os : List Ob} {n : Nat} {sts sts' : List St} {e : Ev} (hI : Inv n sts) (h : feedM os n sts e = some sts') : Inv (n + 1) sts' := by
  by_cases hg : n = 400 ∨ ¬ EvOk e ∨ ¬ EvIn os e
  · unfold feedM at h; rw [if_pos hg] at h; cases h
  · obtain ⟨hn, hok, hin⟩ : n ≠ 400 ∧ EvOk e ∧ EvIn os e := ⟨fun x => hg (.inl x), Classical.byContradiction fun x => hg (.inr (.inl x)), Classical.byContradiction fun x => hg (.inr (.inr x))⟩
    by_cases hk : e.kind = 1
    · rw [feedM_beg hn hok hin hk] at h
      split at h
      · cases h
      · rename_i hno
        cases h
        have h1 : ∀ s ∈ sts, s.tx.id ≠ e.tx := fun s hs he => hno (.inl ⟨s, hs, he⟩)
        have h2 : ∀ s ∈ sts, s.stand ≠ 5 → s.tx.thread ≠ e.thread := fun s hs hl he => hno (.inr ⟨s, hs, he, hl⟩)
        refine ⟨?_, ?_, ?_, by have := hI.len; simp; omega⟩
        · rw [List.pairwise_append]
          exact ⟨hI.ids, by simp, fun x hx y hy => by rw [List.mem_singleton] at hy; subst hy; exact h1 x hx⟩
        · rw [List.pairwise_append]
          exact ⟨hI.thr, by simp, fun x hx y hy => by rw [List.mem_singleton] at hy; subst hy; exact fun hx5 _ => h2 x hx hx5⟩
        · intro x hx
          rcases List.mem_append.1 hx with hx | hx
          · have := hI.ds x hx; exact ⟨by omega, this.2⟩
          · rw [List.mem_singleton] at hx; subst hx; exact ⟨by simp, fun h => by simp at h⟩
    · cases hf : sts.find? (fun s => decide (s.tx.id = e.tx)) with
      | none => rw [feedM_oth hn hok hin hk, hf] at h; cases h
      | some s =>
        obtain ⟨S1, S2, rfl, hid⟩ := find_split hf
        rw [feedM_at hI hn hok hin hk hid] at h
        split at h
        · rename_i hst
          cases hm : moveM s e n with
          | none => rw [hm] at h; cases h
          | some s' =>
            rw [hm] at h
            cases h
            obtain ⟨f1, f2, _, f3, f4⟩ := moveM_facts hm
            exact hI.set f1 f2 (fromM_live hst) f3 f4
        · cases h
/-- a transaction, where it lies -/
structure SG where
  p : Nat
  A : Option Addr
  cap : Nat
  R : List Blk
  s : St
def SG.blks (g : SG) : List Blk := stB g.p g.A g.cap g.s :: g.R
abbrev adr (g : SG) : Addr := ⟨g.p, 0, none⟩
def encSG (g : SG) : List Value := [.pointer (some (adr g))]
def fid (G : List SG) (id : Int) : Option SG := G.find? (fun g => decide (g.s.tx.id = id))
def fbz (G : List SG) (th : Int) : Option SG := G.find? (fun g => decide (g.s.tx.thread = th ∧ g.s.stand ≠ 5))
theorem fid_none {G : List SG} {id : Int} : (fid G id).isSome = false ↔ ¬ ∃ s ∈ G.map (·.s), s.tx.id = id := by
  unfold fid
  rw [Option.isSome_eq_false_iff, Option.isNone_iff_eq_none, List.find?_eq_none]
  simp
theorem fbz_none {G : List SG} {th : Int} : (fbz G th).isSome = false ↔ ¬ ∃ s ∈ G.map (·.s), s.tx.thread = th ∧ s.stand ≠ 5 := by
  unfold fbz
  rw [Option.isSome_eq_false_iff, Option.isNone_iff_eq_none, List.find?_eq_none]
  simp
theorem fid_snoc {G : List SG} {g : SG} {id : Int} : fid (G ++ [g]) id = (fid G id).or (if g.s.tx.id = id then some g else none) := by
  unfold fid
  rw [List.find?_append]
  congr 1
  by_cases h : g.s.tx.id = id <;> simp [h]
theorem fbz_snoc {G : List SG} {g : SG} {th : Int} : fbz (G ++ [g]) th = (fbz G th).or (if g.s.tx.thread = th ∧ g.s.stand ≠ 5 then some g else none) := by
  unfold fbz
  rw [List.find?_append]
  congr 1
  by_cases h : g.s.tx.thread = th ∧ g.s.stand ≠ 5
  · rw [if_pos h, List.find?_cons_of_pos (by simpa using h)]
  · rw [if_neg h, List.find?_cons_of_neg (by simpa using h)]; rfl
theorem fid_set {G1 G2 : List SG} {g g' : SG} (hid : g'.s.tx.id = g.s.tx.id) (hp : g'.p = g.p) (id : Int) : (fid (G1 ++ g' :: G2) id).map adr = (fid (G1 ++ g :: G2) id).map adr := by
  unfold fid
  rw [List.find?_append, List.find?_append]
  cases G1.find? (fun g => decide (g.s.tx.id = id)) with
  | some x => rfl
  | none =>
    by_cases h : g.s.tx.id = id
    · rw [List.find?_cons_of_pos (by simpa [hid] using h), List.find?_cons_of_pos (by simpa using h)]
      simp [adr, hp]
    · rw [List.find?_cons_of_neg (by simpa [hid] using h), List.find?_cons_of_neg (by simpa using h)]
theorem fbz_set {G1 G2 : List SG} {g g' : SG} (hid : g'.s.tx.thread = g.s.tx.thread) (hp : g'.p = g.p) (h1 : g.s.stand ≠ 5) (h2 : g'.s.stand ≠ 5) (th : Int) : (fbz (G1 ++ g' :: G2) th).map adr = (fbz (G1 ++ g :: G2) th).map adr := by
  unfold fbz
  rw [List.find?_append, List.find?_append]
  cases G1.find? (fun g => decide (g.s.tx.thread = th ∧ g.s.stand ≠ 5)) with
  | some x => rfl
  | none =>
    by_cases h : g.s.tx.thread = th
    · rw [List.find?_cons_of_pos (by simp [hid, h, h2]), List.find?_cons_of_pos (by simp [h, h1])]
      simp [adr, hp]
    · rw [List.find?_cons_of_neg (by simp [hid, h]), List.find?_cons_of_neg (by simp [h])]
theorem fbz_del {G1 G2 : List SG} {g g' : SG} (hthr : ((G1 ++ g :: G2).map (·.s)).Pairwise (fun a b => a.stand ≠ 5 → b.stand ≠ 5 → a.tx.thread ≠ b.tx.thread)) (h1 : g.s.stand ≠ 5) (h2 : g'.s.stand = 5) (th : Int) : (fbz (G1 ++ g' :: G2) th).map adr = if g.s.tx.thread = th then none else (fbz (G1 ++ g :: G2) th).map adr := by
  rw [List.map_append, List.map_cons, List.pairwise_append, List.pairwise_cons] at hthr
  obtain ⟨_, ⟨b2, _⟩, b4⟩ := hthr
  have hno : ∀ x ∈ G1 ++ G2, x.s.tx.thread = g.s.tx.thread → x.s.stand = 5 := fun x hx he => Classical.byContradiction fun h5 => by
    rcases List.mem_append.1 hx with hx | hx
    · exact b4 x.s (List.mem_map_of_mem hx) g.s (by simp) h5 h1 he
    · exact b2 x.s (List.mem_map_of_mem hx) h1 h5 he.symm
  unfold fbz
  by_cases h : g.s.tx.thread = th
  · rw [if_pos h]
    have : (G1 ++ g' :: G2).find? (fun g => decide (g.s.tx.thread = th ∧ g.s.stand ≠ 5)) = none := by
      rw [List.find?_eq_none]
      intro x hx
      simp only [decide_eq_true_eq]
      rintro ⟨e1, e2⟩
      simp only [List.mem_append, List.mem_cons] at hx
      rcases hx with hx | rfl | hx
      · exact e2 (hno x (by simp [hx]) (e1.trans h.symm))
      · exact e2 h2
      · exact e2 (hno x (by simp [hx]) (e1.trans h.symm))
    rw [this]; rfl
  · rw [if_neg h, List.find?_append, List.find?_append, List.find?_cons_of_neg (by simp [h2]), List.find?_cons_of_neg (by simp [h])]
theorem fid_at {G : List SG} {id : Int} {g : SG} (h : fid G id = some g) : ∃ G1 G2, G = G1 ++ g :: G2 ∧ g.s.tx.id = id := by
  have h1 := List.mem_of_find?_eq_some h
  have h2 := List.find?_some h
  obtain ⟨S1, S2, rfl⟩ := List.append_of_mem h1
  exact ⟨S1, S2, rfl, by simpa using h2⟩
theorem x_ptrNeO {P : Program} {n : Sz} {F : Frm} {ro : Ro} {Kb : List Blk} {dst : Option Tmp} {ty : TypeId} {pos : String} {aft : Array Edge} {g : Option (Nat × Bool)} {t t' e : TypeId} {x y : Operand} {po : Option Addr} (ht : P.underlying t = some (.pointer e)) (hx : ev F x = some (.pointer po)) (hy : ev F y = some (.pointer none)) :
    Ex P n F ro Kb ⟨dst, .binOp .neq t x y t', ty, pos, aft, g⟩ (.bool po.isSome) :=
  fun a' w hf _ => by
    have h : ∀ d, (Op.equalIn (d + 1) t (.pointer po) (.pointer none)).run P w = .ok (!po.isSome) w := fun d => by cases po <;> simp [Op.equalIn, run_underlying ht]
    have h2 : (Op.equal t (.pointer po) (.pointer none)).run P w = .ok (!po.isSome) w := h 9999
    simp only [execOp, hf.ev hx, hf.ev hy, eqGuard, binOp]
    simp [h2]

end Go.Proofs.YtijafcilfefafaaDoor
