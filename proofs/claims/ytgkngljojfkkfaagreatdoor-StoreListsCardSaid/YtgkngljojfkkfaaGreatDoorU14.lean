/- What the walks over relations ask of the maps. -/
import Derived.Test.YtgkngljojfkkfaaGreatDoorU13
namespace Go.U
open Go
set_option linter.unusedVariables false
set_option linter.unusedSectionVars false
section
variable {κ : Type} [DecidableEq κ] {enc : κ → Value} {ok : κ → Prop} {T : TypeId} {x mo : Nat} {es : Array MapEntry} {clk : Nat} {G : List (κ × Nat × List κ)} {I : List Blk} {a b : κ}
variable {P : Program} {n : Sz} {Q : Exit → Act → World → Prop} {K : Act → World → Prop} {F : Frm} {ro : Ro} {Kb : List Blk} {L : List (List Blk)} {d : Tmp} {dst : Option Tmp} {ty : TypeId} {pos : String} {aft : Array Edge} {g : Option (Nat × Bool)}
theorem x_lookupO {t kt et : TypeId} {y ix : Operand} {mb : Option Nat} {k : κ} {z v : Value} (ht : P.underlying t = some (.map kt et)) (hk : KEnc P kt enc) (hz : zeroOf P et = some z) (hx : ev F y = some (.map mb)) (hi : ev F ix = some (enc k))
    (hm : (mb = none ∧ v = z) ∨ ∃ r es clk m, mb = some r ∧ (r, Obj.map es clk) ∈ Kb ∧ MapE enc m es clk ∧ (mget m k).getD z = v) : Ex P n F ro Kb ⟨dst, .lookup t y ix false, ty, pos, aft, g⟩ v := by
  rcases hm with ⟨rfl, rfl⟩ | ⟨r, es, clk, m, rfl, hK, hE, hv⟩
  · exact x_lookupNil ht hk hz hx hi
  · exact x_lookupV ht hk hz hx hi hK hE hv
/-- the inner map's number -/
def lkp (G : List (κ × Nat × List κ)) (a : κ) : Option Nat := (G.find? (fun g => decide (g.1 = a))).map (·.2.1)
theorem lkp_none : lkp G a = none ↔ a ∉ G.map (·.1) := by
  unfold lkp
  simp [List.find?_eq_none]
  exact ⟨fun h p ks hm => h _ _ _ hm rfl, fun h a' p ks hm e => by subst e; exact h _ _ hm⟩
theorem lkp_some {p : Nat} (h : lkp G a = some p) : ∃ ks, (a, p, ks) ∈ G := by
  unfold lkp at h
  rw [Option.map_eq_some_iff] at h
  obtain ⟨⟨a', p', ks⟩, h1, rfl⟩ := h
  have h2 := List.find?_some h1
  simp at h2
  subst h2
  exact ⟨ks, List.mem_of_find?_eq_some h1⟩
theorem mget_om (hn : (G.map (·.1)).Nodup) (a : κ) : (mget (om G) a).getD (.map none) = .map (lkp G a) := by
  cases h : lkp G a with
  | none => rw [mget_om_none (lkp_none.1 h)]; rfl
  | some p =>
    obtain ⟨ks, hm⟩ := lkp_some h
    rw [mget_om_some hn hm]; rfl
theorem Ins.mem (h : Ins enc G I) {p : Nat} {ks : List κ} (hm : (a, p, ks) ∈ G) : ∃ es clk, (p, Obj.map es clk) ∈ I ∧ MapE enc (im ks) es clk := by
  obtain ⟨G1, G2, I1, I2, es, clk, rfl, rfl, h3, _⟩ := h.split hm
  exact ⟨es, clk, by simp, h3⟩
theorem RelA.cases (h : RelA enc ok T x G mo es clk I) (a : κ) : (lkp G a = none ∧ ∀ b, (a, b) ∉ prs G) ∨ ∃ p ks es' clk', lkp G a = some p ∧ (a, p, ks) ∈ G ∧ (p, Obj.map es' clk') ∈ I ∧ MapE enc (im ks) es' clk' ∧ ∀ b, (a, b) ∈ prs G ↔ b ∈ ks := by
  cases hl : lkp G a with
  | none =>
    refine .inl ⟨rfl, fun b hb => ?_⟩
    obtain ⟨p, ks, h1, _⟩ := mem_prs.1 hb
    exact lkp_none.1 hl (List.mem_map.2 ⟨_, h1, rfl⟩)
  | some p =>
    obtain ⟨ks, hm⟩ := lkp_some hl
    obtain ⟨es', clk', h1, h2⟩ := h.inner.mem hm
    exact .inr ⟨p, ks, es', clk', rfl, hm, h1, h2, fun b => prs_of h.nodup hm⟩
theorem RelA.look2 (h : RelA enc ok T x G mo es clk I) (hI : ∀ q ∈ I, q ∈ Kb) (a b : κ) : (lkp G a = none ∧ Value.bool (decide ((a, b) ∈ prs G)) = .bool false) ∨ ∃ r es clk m, lkp G a = some r ∧ (r, Obj.map es clk) ∈ Kb ∧ MapE enc m es clk ∧ (mget m b).getD (.bool false) = Value.bool (decide ((a, b) ∈ prs G)) := by
  rcases h.cases a with ⟨h1, h2⟩ | ⟨p, ks, es', clk', h1, h2, h3, h4, h5⟩
  · exact .inl ⟨h1, by simp [h2 b]⟩
  · refine .inr ⟨p, es', clk', im ks, h1, hI _ h3, h4, ?_⟩
    rw [mget_im (h.inner.nodup _ h2)]
    simp [h5 b]
/-- the blocks are there -/
theorem relB_root {R : List Blk} (hR : R = relB T x mo es clk I) (hL : R ∈ L) : (x, Obj.cells [.map (some mo)].toArray T (0, 0)) ∈ L.flatten := List.mem_flatten.2 ⟨R, hL, by rw [hR]; simp [relB]⟩
theorem relB_map {R : List Blk} (hR : R = relB T x mo es clk I) (hL : R ∈ L) : (mo, Obj.map es clk) ∈ L.flatten := List.mem_flatten.2 ⟨R, hL, by rw [hR]; simp [relB]⟩
theorem relB_in {R : List Blk} (hR : R = relB T x mo es clk I) (hL : R ∈ L) : ∀ q ∈ I, q ∈ L.flatten := fun q hq => List.mem_flatten.2 ⟨R, hL, by rw [hR]; simp [relB, hq]⟩
theorem next_om {Gr : List (κ × Nat × List κ)} {rem rem' : List (κ × Value)} {k : κ} {v : Value} (h : rem.Perm (om Gr)) (h' : rem.Perm ((k, v) :: rem')) : ∃ p ks Gr', Gr.Perm ((k, p, ks) :: Gr') ∧ v = .map (some p) ∧ rem'.Perm (om Gr') := by
  have h1 : (om Gr).Perm ((k, v) :: rem') := h.symm.trans h'
  have h2 : (k, v) ∈ om Gr := h1.mem_iff.2 (by simp)
  obtain ⟨⟨a, p, ks⟩, hg, e⟩ := List.mem_map.1 h2
  simp only [Prod.mk.injEq] at e
  obtain ⟨rfl, rfl⟩ := e
  obtain ⟨G1, G2, rfl⟩ := List.append_of_mem hg
  refine ⟨p, ks, G1 ++ G2, List.perm_middle, rfl, ?_⟩
  have h3 : (om (G1 ++ (a, p, ks) :: G2)).Perm ((a, .map (some p)) :: om (G1 ++ G2)) := by
    simp only [om, List.map_append, List.map_cons]
    exact List.perm_middle
  exact List.Perm.cons_inv (h1.symm.trans h3)
theorem prs_perm {G G' : List (κ × Nat × List κ)} (h : G.Perm G') : (prs G).Perm (prs G') := h.flatMap_right _
theorem prs_cons (g : κ × Nat × List κ) (G : List (κ × Nat × List κ)) : prs (g :: G) = g.2.2.map (fun k => (g.1, k)) ++ prs G := rfl
theorem prs_app (G G' : List (κ × Nat × List κ)) : prs (G ++ G') = prs G ++ prs G' := by simp [prs]
theorem addP_perm {S S' : List (κ × κ)} (h : S.Perm S') (q : κ × κ) : (addP S q).Perm (addP S' q) := by
  unfold addP
  by_cases hq : q ∈ S
  · rw [if_pos hq, if_pos (h.mem_iff.1 hq)]; exact h
  · rw [if_neg hq, if_neg (fun h' => hq (h.mem_iff.2 h'))]; exact h.cons _
theorem mem_addP {S : List (κ × κ)} {q r : κ × κ} : r ∈ addP S q ↔ r = q ∨ r ∈ S := by
  unfold addP
  split <;> simp <;> grind
end
end Go.U
