/- A graph in memory: a map of maps of maps: nodes, what each leads to, the kinds. -/
import Derived.Test.YtgkngljojfkkfaaGreatDoorU18
set_option linter.unusedVariables false
set_option linter.unusedSectionVars false
namespace Go.U
open Go
section
variable {κ ι β : Type} [DecidableEq κ] [DecidableEq ι]
/-- a map whose values are maps: its entries -/
def omg (G : List (κ × Nat × β)) : List (κ × Value) := G.map (fun g => (g.1, Value.map (some g.2.1)))
def lkg (G : List (κ × Nat × β)) (a : κ) : Option Nat := (G.find? (fun g => decide (g.1 = a))).map (·.2.1)
variable {G : List (κ × Nat × β)} {a : κ} {p : Nat} {M : β}
theorem omg_keys (G : List (κ × Nat × β)) : (omg G).map (·.1) = G.map (·.1) := by simp [omg]
theorem lkg_none : lkg G a = none ↔ a ∉ G.map (·.1) := by
  unfold lkg
  simp [List.find?_eq_none]
  exact ⟨fun h p M hm => h _ _ _ hm rfl, fun h a' p M hm e => by subst e; exact h _ _ hm⟩
theorem lkg_some (h : lkg G a = some p) : ∃ M, (a, p, M) ∈ G := by
  unfold lkg at h
  rw [Option.map_eq_some_iff] at h
  obtain ⟨⟨a', p', M⟩, h1, rfl⟩ := h
  have h2 := List.find?_some h1
  simp at h2
  subst h2
  exact ⟨M, List.mem_of_find?_eq_some h1⟩
theorem keyg_uniq (hn : (G.map (·.1)).Nodup) {p' : Nat} {M' : β} (h : (a, p, M) ∈ G) (h' : (a, p', M') ∈ G) : p = p' ∧ M = M' := by
  obtain ⟨i, hi, e⟩ := List.getElem_of_mem h
  obtain ⟨j, hj, e'⟩ := List.getElem_of_mem h'
  have := nodup_inj hn (i := i) (j := j) (x := a) (by rw [List.getElem?_map, List.getElem?_eq_getElem hi, e]; rfl) (by rw [List.getElem?_map, List.getElem?_eq_getElem hj, e']; rfl)
  subst this
  rw [e] at e'
  simpa using e'
theorem lkg_of (hn : (G.map (·.1)).Nodup) (h : (a, p, M) ∈ G) : lkg G a = some p := by
  cases hl : lkg G a with
  | none => exact absurd (List.mem_map.2 ⟨_, h, rfl⟩) (lkg_none.1 hl)
  | some p' =>
    obtain ⟨M', hm⟩ := lkg_some hl
    rw [(keyg_uniq hn h hm).1]
theorem mget_omg_some (hn : (G.map (·.1)).Nodup) (h : (a, p, M) ∈ G) : mget (omg G) a = some (.map (some p)) := by
  obtain ⟨j, hj, e⟩ := List.getElem_of_mem h
  refine mget_some (j := j) (by rw [omg, List.getElem?_map, List.getElem?_eq_getElem hj, e]; rfl) fun q hq r hr => ?_
  intro e2
  have h1 := nodup_inj hn (i := q) (j := j) (x := a) (by
    rw [omg, List.getElem?_map] at hr
    rw [List.getElem?_map]
    cases hG : G[q]? with
    | none => rw [hG] at hr; simp at hr
    | some g => rw [hG] at hr; simp at hr; subst hr; simp at e2; simp [e2]) (by rw [List.getElem?_map, List.getElem?_eq_getElem hj, e]; rfl)
  omega
theorem mget_omg (hn : (G.map (·.1)).Nodup) (a : κ) : (mget (omg G) a).getD (.map none) = .map (lkg G a) := by
  cases h : lkg G a with
  | none => rw [mget_none (by rw [omg_keys]; exact lkg_none.1 h)]; rfl
  | some p =>
    obtain ⟨M, hm⟩ := lkg_some h
    rw [mget_omg_some hn hm]; rfl
theorem mset_omg (h : a ∉ G.map (·.1)) (M : β) : mset (omg G) a (.map (some p)) = omg (G ++ [(a, p, M)]) := by
  unfold mset
  rw [omg_keys, if_neg h]
  simp [omg]
theorem omg_upd {G1 G2 : List (κ × Nat × β)} (M M' : β) : omg (G1 ++ (a, p, M) :: G2) = omg (G1 ++ (a, p, M') :: G2) := by simp [omg]
theorem next_omg {Gr : List (κ × Nat × β)} {rem rem' : List (κ × Value)} {k : κ} {v : Value} (h : rem.Perm (omg Gr)) (h' : rem.Perm ((k, v) :: rem')) : ∃ p M Gr', Gr.Perm ((k, p, M) :: Gr') ∧ v = .map (some p) ∧ rem'.Perm (omg Gr') := by
  have h1 : (omg Gr).Perm ((k, v) :: rem') := h.symm.trans h'
  have h2 : (k, v) ∈ omg Gr := h1.mem_iff.2 (by simp)
  obtain ⟨⟨a, p, M⟩, hg, e⟩ := List.mem_map.1 h2
  simp only [Prod.mk.injEq] at e
  obtain ⟨rfl, rfl⟩ := e
  obtain ⟨G1, G2, rfl⟩ := List.append_of_mem hg
  refine ⟨p, M, G1 ++ G2, List.perm_middle, rfl, ?_⟩
  have h3 : (omg (G1 ++ (a, p, M) :: G2)).Perm ((a, .map (some p)) :: omg (G1 ++ G2)) := by
    simp only [omg, List.map_append, List.map_cons]
    exact List.perm_middle
  exact List.Perm.cons_inv (h1.symm.trans h3)

/-- the maps of kinds behind a node -/
inductive InK (encI : ι → Value) : List (κ × Nat × List ι) → List Blk → Prop where
  | nil : InK encI [] []
  | cons {a : κ} {p : Nat} {ks : List ι} {G : List (κ × Nat × List ι)} {I : List Blk} {es : Array MapEntry} {clk : Nat} : MapE encI (im ks) es clk → InK encI G I → InK encI ((a, p, ks) :: G) ((p, .map es clk) :: I)
/-- the maps of what the nodes lead to -/
inductive InG (enc : κ → Value) (encI : ι → Value) : List (κ × Nat × List (κ × Nat × List ι)) → List Blk → Prop where
  | nil : InG enc encI [] []
  | cons {a : κ} {p : Nat} {M : List (κ × Nat × List ι)} {G : List (κ × Nat × List (κ × Nat × List ι))} {I I' : List Blk} {es : Array MapEntry} {clk : Nat} : MapE enc (omg M) es clk → InK encI M I → InG enc encI G I' → InG enc encI ((a, p, M) :: G) ((p, .map es clk) :: (I ++ I'))
variable {enc : κ → Value} {encI : ι → Value}
theorem InK.snoc {M : List (κ × Nat × List ι)} {I : List Blk} {ks : List ι} {es : Array MapEntry} {clk : Nat} (h : InK encI M I) (he : MapE encI (im ks) es clk) : InK encI (M ++ [(a, p, ks)]) (I ++ [(p, .map es clk)]) := by
  induction h with
  | nil => exact .cons he .nil
  | cons h1 _ ih => exact .cons h1 ih
theorem InK.split {M : List (κ × Nat × List ι)} {I : List Blk} {ks : List ι} (h : InK encI M I) (hm : (a, p, ks) ∈ M) : ∃ G1 G2 I1 I2 es clk, M = G1 ++ (a, p, ks) :: G2 ∧ I = I1 ++ (p, .map es clk) :: I2 ∧ MapE encI (im ks) es clk ∧ ∀ ks' es' clk', MapE encI (im ks') es' clk' → InK encI (G1 ++ (a, p, ks') :: G2) (I1 ++ (p, .map es' clk') :: I2) := by
  induction h with
  | nil => simp at hm
  | @cons a' p' ks' G I es clk h1 h2 ih =>
    rcases List.mem_cons.1 hm with e | hm
    · simp only [Prod.mk.injEq] at e
      obtain ⟨rfl, rfl, rfl⟩ := e
      exact ⟨[], G, [], I, es, clk, rfl, rfl, h1, fun _ _ _ h => .cons h h2⟩
    · obtain ⟨G1, G2, I1, I2, es2, clk2, e1, e2, h3, h4⟩ := ih hm
      exact ⟨_ :: G1, G2, _ :: I1, I2, es2, clk2, by rw [e1]; rfl, by rw [e2]; rfl, h3, fun _ _ _ h => .cons h1 (h4 _ _ _ h)⟩
theorem InG.snoc {G : List (κ × Nat × List (κ × Nat × List ι))} {I : List Blk} {es : Array MapEntry} {clk : Nat} (h : InG enc encI G I) (he : MapE enc ([] : List (κ × Value)) es clk) : InG enc encI (G ++ [(a, p, [])]) (I ++ [(p, .map es clk)]) := by
  induction h with
  | nil => exact .cons (M := []) (I := []) (I' := []) he .nil .nil
  | @cons a' p' M' G I I' es' clk' h1 h2 _ ih =>
    have := InG.cons (a := a') (p := p') h1 h2 ih
    simpa using this
theorem InG.split {G : List (κ × Nat × List (κ × Nat × List ι))} {I : List Blk} {M : List (κ × Nat × List ι)} (h : InG enc encI G I) (hm : (a, p, M) ∈ G) : ∃ G1 G2 I1 J I2 es clk, G = G1 ++ (a, p, M) :: G2 ∧ I = I1 ++ (p, .map es clk) :: (J ++ I2) ∧ MapE enc (omg M) es clk ∧ InK encI M J ∧ ∀ M' es' clk' J', MapE enc (omg M') es' clk' → InK encI M' J' → InG enc encI (G1 ++ (a, p, M') :: G2) (I1 ++ (p, .map es' clk') :: (J' ++ I2)) := by
  induction h with
  | nil => simp at hm
  | @cons a' p' M' G I I' es clk h1 h2 h3 ih =>
    rcases List.mem_cons.1 hm with e | hm
    · simp only [Prod.mk.injEq] at e
      obtain ⟨rfl, rfl, rfl⟩ := e
      exact ⟨[], G, [], I, I', es, clk, rfl, rfl, h1, h2, fun _ _ _ _ h k => .cons h k h3⟩
    · obtain ⟨G1, G2, I1, J, I2, es2, clk2, e1, e2, h4, h5, h6⟩ := ih hm
      refine ⟨_ :: G1, G2, (p', .map es clk) :: (I ++ I1), J, I2, es2, clk2, by rw [e1]; rfl, by rw [e2]; simp, h4, h5, fun M2 es3 clk3 J3 h k => ?_⟩
      have := InG.cons (a := a') (p := p') h1 h2 (h6 M2 es3 clk3 J3 h k)
      simpa using this
/-- the edges, the nodes -/
def edg (G : List (κ × Nat × List (κ × Nat × List ι))) : List (κ × κ × ι) := G.flatMap (fun g => g.2.2.flatMap (fun h => h.2.2.map (fun k => (g.1, h.1, k))))
def nds (G : List (κ × Nat × List (κ × Nat × List ι))) : List κ := G.map (·.1)
end
end Go.U
