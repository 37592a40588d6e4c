/- A relation in memory: a map of maps of what stands behind each thing. -/
import Derived.Test.YtgkngljojfkkfaaGreatDoorU12
namespace Go.U
open Go
set_option linter.unusedVariables false
set_option linter.unusedSectionVars false

section
variable {P : Program} {n : Sz} {Q : Exit → Act → World → Prop} {K : Act → World → Prop} {F : Frm} {ro : Ro} {Kb : List Blk} {L : List (List Blk)} {d : Tmp} {dst : Option Tmp} {ty : TypeId} {pos : String} {aft : Array Edge} {g : Option (Nat × Bool)}
theorem x_mapNil {t t' kt et : TypeId} {x y : Operand} {mb : Option Nat} (ht : P.underlying t = some (.map kt et)) (hx : ev F x = some (.map mb)) (hy : ev F y = some (.map none)) :
    Ex P n F ro Kb ⟨dst, .binOp .eql t x y t', ty, pos, aft, g⟩ (.bool (mb == none)) :=
  fun a w hf _ => by
    have h : ∀ d, (Op.equalIn (d + 1) t (.map mb) (.map none)).run P w = .ok (mb == none) w := fun d => by cases mb <;> simp [Op.equalIn, run_underlying ht]
    have h2 : (Op.equal t (.map mb) (.map none)).run P w = .ok (mb == none) w := h 9999
    simp only [execOp, hf.ev hx, hf.ev hy, eqGuard, binOp]
    simp [h2]
theorem split2 {S : List Blk} {b1 b2 : Blk} (h : WQ n K F ro ([b2] :: (b1 :: S) :: L)) : WQ n K F ro ((b1 :: b2 :: S) :: L) := subL _ ⟨_, (List.Perm.swap b1 b2 _), .refl _⟩ h
theorem splitI {I1 I2 S : List Blk} {b1 : Blk} (h : WQ n K F ro ([b1] :: (S ++ (I1 ++ I2)) :: L)) : WQ n K F ro ((S ++ (I1 ++ b1 :: I2)) :: L) := subL _ ⟨_, by
    simp only [List.flatten_cons, List.append_assoc, List.cons_append, List.nil_append]
    have := (List.perm_middle (a := b1) (l₁ := S ++ I1) (l₂ := I2 ++ L.flatten)).symm
    simpa [List.append_assoc] using this, .refl _⟩ h
theorem x_lookupV {κ : Type} [DecidableEq κ] {enc : κ → Value} {m : List (κ × Value)} {es : Array MapEntry} {clk : Nat} {t kt et : TypeId} {x ix : Operand} {r : Nat} {k : κ} {z v : Value} (ht : P.underlying t = some (.map kt et)) (hk : KEnc P kt enc) (hz : zeroOf P et = some z) (hx : ev F x = some (.map (some r))) (hi : ev F ix = some (enc k))
    (hK : (r, Obj.map es clk) ∈ Kb) (hE : MapE enc m es clk) (hv : (mget m k).getD z = v) : Ex P n F ro Kb ⟨dst, .lookup t x ix false, ty, pos, aft, g⟩ v := hv ▸ x_lookup ht hk hz hx hi hK hE
end

section
variable {κ : Type} [DecidableEq κ]
/-- an inner map's entries, an outer one's -/
def im (ks : List κ) : List (κ × Value) := ks.map (fun k => (k, Value.bool true))
def om (G : List (κ × Nat × List κ)) : List (κ × Value) := G.map (fun g => (g.1, Value.map (some g.2.1)))
def prs (G : List (κ × Nat × List κ)) : List (κ × κ) := G.flatMap (fun g => g.2.2.map (fun k => (g.1, k)))
inductive Ins (enc : κ → Value) : List (κ × Nat × List κ) → List Blk → Prop where
  | nil : Ins enc [] []
  | cons {a : κ} {p : Nat} {ks : List κ} {G : List (κ × Nat × List κ)} {I : List Blk} {es : Array MapEntry} {clk : Nat} : MapE enc (im ks) es clk → Ins enc G I → Ins enc ((a, p, ks) :: G) ((p, .map es clk) :: I)
variable {enc : κ → Value} {G : List (κ × Nat × List κ)} {I : List Blk} {a b : κ} {p : Nat} {ks : List κ}
theorem Ins.snoc {es : Array MapEntry} {clk : Nat} (h : Ins enc G I) (he : MapE enc (im ks) es clk) : Ins enc (G ++ [(a, p, ks)]) (I ++ [(p, .map es clk)]) := by
  induction h with
  | nil => exact .cons he .nil
  | cons h1 _ ih => exact .cons h1 ih
theorem Ins.split (h : Ins enc G I) (hm : (a, p, ks) ∈ G) : ∃ G1 G2 I1 I2 es clk, G = G1 ++ (a, p, ks) :: G2 ∧ I = I1 ++ (p, .map es clk) :: I2 ∧ MapE enc (im ks) es clk ∧ ∀ ks' es' clk', MapE enc (im ks') es' clk' → Ins enc (G1 ++ (a, p, ks') :: G2) (I1 ++ (p, .map es' clk') :: I2) := by
  induction h with
  | nil => simp at hm
  | @cons a' p' ks' G I es clk h1 h2 ih =>
    rcases List.mem_cons.1 hm with e | hm
    · simp only [Prod.mk.injEq] at e
      obtain ⟨rfl, rfl, rfl⟩ := e
      exact ⟨[], G, [], I, es, clk, rfl, rfl, h1, fun _ _ _ h => .cons h h2⟩
    · obtain ⟨G1, G2, I1, I2, es2, clk2, e1, e2, h3, h4⟩ := ih hm
      exact ⟨_ :: G1, G2, _ :: I1, I2, es2, clk2, by rw [e1]; rfl, by rw [e2]; rfl, h3, fun _ _ _ h => .cons h1 (h4 _ _ _ h)⟩
theorem mem_prs : (a, b) ∈ prs G ↔ ∃ p ks, (a, p, ks) ∈ G ∧ b ∈ ks := by
  unfold prs
  rw [List.mem_flatMap]
  constructor
  · rintro ⟨⟨a', p, ks⟩, hg, hm⟩
    obtain ⟨k, hk, e⟩ := List.mem_map.1 hm
    cases e
    exact ⟨p, ks, hg, hk⟩
  · rintro ⟨p, ks, hg, hk⟩
    exact ⟨_, hg, List.mem_map.2 ⟨b, hk, rfl⟩⟩
theorem om_keys (G : List (κ × Nat × List κ)) : (om G).map (·.1) = G.map (·.1) := by simp [om]
theorem im_keys (ks : List κ) : (im ks).map (·.1) = ks := by simp [im, Function.comp_def]
theorem prs_upd {G1 G2 : List (κ × Nat × List κ)} : (prs (G1 ++ (a, p, ks ++ [b]) :: G2)).Perm ((a, b) :: prs (G1 ++ (a, p, ks) :: G2)) := by
  simp only [prs, List.flatMap_append, List.flatMap_cons, List.map_append, List.map_cons, List.map_nil, List.append_assoc, List.cons_append, List.nil_append]
  have := List.perm_middle (a := (a, b)) (l₁ := List.flatMap (fun g => List.map (fun k => (g.1, k)) g.2.2) G1 ++ List.map (fun k => (a, k)) ks) (l₂ := List.flatMap (fun g => List.map (fun k => (g.1, k)) g.2.2) G2)
  simpa [List.append_assoc] using this
theorem prs_new : prs (G ++ [(a, p, [])]) = prs G := by simp [prs]
theorem key_uniq (hn : (G.map (·.1)).Nodup) {p' : Nat} {ks' : List κ} (h : (a, p, ks) ∈ G) (h' : (a, p', ks') ∈ G) : p = p' ∧ ks = ks' := by
  obtain ⟨i, hi, e⟩ := List.getElem_of_mem h
  obtain ⟨j, hj, e'⟩ := List.getElem_of_mem h'
  have := nodup_inj hn (i := i) (j := j) (x := a) (by rw [List.getElem?_map, List.getElem?_eq_getElem hi, e]; rfl) (by rw [List.getElem?_map, List.getElem?_eq_getElem hj, e']; rfl)
  subst this
  rw [e] at e'
  simpa using e'
theorem prs_of (hn : (G.map (·.1)).Nodup) (h : (a, p, ks) ∈ G) : (a, b) ∈ prs G ↔ b ∈ ks := by
  rw [mem_prs]
  constructor
  · rintro ⟨p', ks', h', hb⟩
    rw [(key_uniq hn h h').2]; exact hb
  · exact fun hb => ⟨p, ks, h, hb⟩
theorem mget_om_some (hn : (G.map (·.1)).Nodup) (h : (a, p, ks) ∈ G) : mget (om G) a = some (.map (some p)) := by
  obtain ⟨j, hj, e⟩ := List.getElem_of_mem h
  refine mget_some (j := j) (by rw [om, List.getElem?_map, List.getElem?_eq_getElem hj, e]; rfl) fun q hq r hr => ?_
  intro e2
  have h1 := nodup_inj hn (i := q) (j := j) (x := a) (by
    rw [om, List.getElem?_map] at hr
    rw [List.getElem?_map]
    cases hG : G[q]? with
    | none => rw [hG] at hr; simp at hr
    | some g => rw [hG] at hr; simp at hr; subst hr; simp at e2; simp [e2]) (by rw [List.getElem?_map, List.getElem?_eq_getElem hj, e]; rfl)
  omega
theorem mget_om_none (h : a ∉ G.map (·.1)) : mget (om G) a = none := mget_none (by rw [om_keys]; exact h)
theorem mget_im (hn : ks.Nodup) : (mget (im ks) b).getD (.bool false) = .bool (decide (b ∈ ks)) := by
  by_cases h : b ∈ ks
  · obtain ⟨j, hj, e⟩ := List.getElem_of_mem h
    rw [mget_some (j := j) (v := .bool true) (by rw [im, List.getElem?_map, List.getElem?_eq_getElem hj, e]; rfl) fun q hq r hr e2 => ?_]
    · simp [h]
    · have h1 := nodup_inj hn (i := q) (j := j) (x := b) (by
        rw [im, List.getElem?_map] at hr
        cases hG : ks[q]? with
        | none => rw [hG] at hr; simp at hr
        | some g => rw [hG] at hr; simp at hr; subst hr; simp at e2; simp [e2]) (by rw [List.getElem?_eq_getElem hj, e])
      omega
  · rw [mget_none (by rw [im_keys]; exact h)]
    simp [h]
theorem mset_im (b : κ) : mset (im ks) b (.bool true) = im (if b ∈ ks then ks else ks ++ [b]) := by
  unfold mset
  rw [im_keys]
  by_cases h : b ∈ ks
  · rw [if_pos h, if_pos h]
    have : ∀ p ∈ im ks, (if p.1 = b then (p.1, Value.bool true) else p) = p := fun p hp => by
      obtain ⟨k, _, rfl⟩ := List.mem_map.1 hp
      split <;> rfl
    rw [List.map_congr_left this, List.map_id']
  · rw [if_neg h, if_neg h]; simp [im]
theorem mset_om (h : a ∉ G.map (·.1)) : mset (om G) a (.map (some p)) = om (G ++ [(a, p, [])]) := by
  unfold mset
  rw [om_keys, if_neg h]
  simp [om]

/-- the blocks of a relation -/
structure RelA (enc : κ → Value) (ok : κ → Prop) (T : TypeId) (x : Nat) (G : List (κ × Nat × List κ)) (mo : Nat) (es : Array MapEntry) (clk : Nat) (I : List Blk) : Prop where
  outer : MapE enc (om G) es clk
  inner : Ins enc G I
  okk : ∀ g ∈ G, ok g.1 ∧ ∀ k ∈ g.2.2, ok k
def relB (T : TypeId) (x mo : Nat) (es : Array MapEntry) (clk : Nat) (I : List Blk) : List Blk := (x, .cells [.map (some mo)].toArray T (0, 0)) :: (mo, .map es clk) :: I
def RelP (enc : κ → Value) (ok : κ → Prop) (T : TypeId) (x : Nat) (S : List (κ × κ)) (R : List Blk) : Prop := ∃ G mo es clk I, R = relB T x mo es clk I ∧ RelA enc ok T x G mo es clk I ∧ S.Perm (prs G) ∧ G.length ≤ S.length
theorem RelP.perm {ok : κ → Prop} {T : TypeId} {x : Nat} {S S' : List (κ × κ)} {R : List Blk} (h : RelP enc ok T x S R) (hp : S'.Perm S) : RelP enc ok T x S' R := by
  obtain ⟨G, mo, es, clk, I, h1, h2, h3, h4⟩ := h
  exact ⟨G, mo, es, clk, I, h1, h2, hp.trans h3, by rw [hp.length_eq]; exact h4⟩
theorem RelA.nodup {ok : κ → Prop} {T : TypeId} {x mo : Nat} {es : Array MapEntry} {clk : Nat} (h : RelA enc ok T x G mo es clk I) : (G.map (·.1)).Nodup := by
  have := h.outer.nodup
  rwa [om_keys] at this
theorem Ins.nodup (h : Ins enc G I) : ∀ g ∈ G, g.2.2.Nodup := by
  induction h with
  | nil => simp
  | cons h1 _ ih =>
    intro g hg
    rcases List.mem_cons.1 hg with rfl | hg
    · have := h1.nodup; rwa [im_keys] at this
    · exact ih g hg
theorem prs_nodup {G : List (κ × Nat × List κ)} (hn : (G.map (·.1)).Nodup) (hi : ∀ g ∈ G, g.2.2.Nodup) : (prs G).Nodup := by
  induction G with
  | nil => simp [prs]
  | cons g G ih =>
    rw [List.map_cons, List.nodup_cons] at hn
    have e : prs (g :: G) = g.2.2.map (fun k => (g.1, k)) ++ prs G := rfl
    rw [e, List.nodup_append]
    refine ⟨?_, ih hn.2 (fun g hg => hi g (by simp [hg])), fun x hx y hy e2 => ?_⟩
    · rw [List.Nodup, List.pairwise_map]
      exact (hi g (by simp)).imp (fun h e => h (by simpa using e))
    · obtain ⟨k, hk, rfl⟩ := List.mem_map.1 hx
      subst e2
      obtain ⟨p, ks, h1, h2⟩ := mem_prs.1 hy
      exact hn.1 (List.mem_map.2 ⟨_, h1, rfl⟩)
theorem RelP.nodup {ok : κ → Prop} {T : TypeId} {x : Nat} {S : List (κ × κ)} {R : List Blk} (h : RelP enc ok T x S R) : S.Nodup := by
  obtain ⟨G, mo, es, clk, I, h1, h2, h3, _⟩ := h
  exact h3.nodup_iff.2 (prs_nodup h2.nodup h2.inner.nodup)
def addP (S : List (κ × κ)) (q : κ × κ) : List (κ × κ) := if q ∈ S then S else q :: S
end
end Go.U
