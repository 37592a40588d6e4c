/- What the walks over graphs ask of the maps. -/
import Derived.Test.YtgkngljojfkkfaaGreatDoorU19
set_option linter.unusedVariables false
set_option linter.unusedSectionVars false
namespace Go.U
open Go
section
variable {κ ι : Type} [DecidableEq κ] [DecidableEq ι] {enc : κ → Value} {encI : ι → Value}
abbrev GrT (κ ι : Type) := List (κ × Nat × List (κ × Nat × List ι))
theorem mem_edg {G : GrT κ ι} {a b : κ} {c : ι} : (a, b, c) ∈ edg G ↔ ∃ p M q ks, (a, p, M) ∈ G ∧ (b, q, ks) ∈ M ∧ c ∈ ks := by
  unfold edg
  rw [List.mem_flatMap]
  constructor
  · rintro ⟨⟨a', p, M⟩, hg, hm⟩
    obtain ⟨⟨b', q, ks⟩, hh, hk⟩ := List.mem_flatMap.1 hm
    obtain ⟨c', hc, e⟩ := List.mem_map.1 hk
    cases e
    exact ⟨p, M, q, ks, hg, hh, hc⟩
  · rintro ⟨p, M, q, ks, hg, hh, hc⟩
    exact ⟨_, hg, List.mem_flatMap.2 ⟨_, hh, List.mem_map.2 ⟨c, hc, rfl⟩⟩⟩
structure GrA (enc : κ → Value) (encI : ι → Value) (ok : κ → Prop) (okI : ι → Prop) (G : GrT κ ι) (es : Array MapEntry) (clk : Nat) (I : List Blk) : Prop where
  outer : MapE enc (omg G) es clk
  inner : InG enc encI G I
  okk : ∀ g ∈ G, ok g.1 ∧ ∀ h ∈ g.2.2, ok h.1 ∧ ∀ k ∈ h.2.2, okI k
variable {ok : κ → Prop} {okI : ι → Prop} {G : GrT κ ι} {es : Array MapEntry} {clk : Nat} {I : List Blk}
theorem GrA.nodup (h : GrA enc encI ok okI G es clk I) : (G.map (·.1)).Nodup := by
  have := h.outer.nodup
  rwa [omg_keys] at this
theorem InK.mem {M : List (κ × Nat × List ι)} {J : List Blk} {b : κ} {q : Nat} {ks : List ι} (h : InK encI M J) (hm : (b, q, ks) ∈ M) : ∃ es clk, (q, Obj.map es clk) ∈ J ∧ MapE encI (im ks) es clk := by
  obtain ⟨G1, G2, I1, I2, es, clk, rfl, rfl, h3, _⟩ := h.split hm
  exact ⟨es, clk, by simp, h3⟩
theorem InG.mem {a : κ} {p : Nat} {M : List (κ × Nat × List ι)} (h : InG enc encI G I) (hm : (a, p, M) ∈ G) : ∃ es clk J, (p, Obj.map es clk) ∈ I ∧ MapE enc (omg M) es clk ∧ InK encI M J ∧ ∀ q ∈ J, q ∈ I := by
  obtain ⟨G1, G2, I1, J, I2, es, clk, rfl, rfl, h3, h4, _⟩ := h.split hm
  exact ⟨es, clk, J, by simp, h3, h4, fun q hq => by simp [hq]⟩
theorem InK.knodup {M : List (κ × Nat × List ι)} {J : List Blk} (h : InK encI M J) : ∀ g ∈ M, g.2.2.Nodup := by
  induction h with
  | nil => simp
  | cons h1 _ ih =>
    intro g hg
    rcases List.mem_cons.1 hg with rfl | hg
    · have := h1.nodup; rwa [im_keys] at this
    · exact ih g hg
theorem InG.mnodup (h : InG enc encI G I) : ∀ g ∈ G, (g.2.2.map (·.1)).Nodup ∧ ∀ k ∈ g.2.2, k.2.2.Nodup := by
  induction h with
  | nil => simp
  | cons h1 h2 _ ih =>
    intro g hg
    rcases List.mem_cons.1 hg with rfl | hg
    · refine ⟨?_, h2.knodup⟩
      have := h1.nodup; rwa [omg_keys] at this
    · exact ih g hg
/-- what stands behind a node -/
theorem GrA.cases (h : GrA enc encI ok okI G es clk I) (a : κ) : (lkg G a = none ∧ a ∉ nds G ∧ ∀ b c, (a, b, c) ∉ edg G) ∨
    ∃ p M es' clk' J, lkg G a = some p ∧ (a, p, M) ∈ G ∧ (p, Obj.map es' clk') ∈ I ∧ MapE enc (omg M) es' clk' ∧ InK encI M J ∧ (∀ q ∈ J, q ∈ I) ∧ ∀ b c, (a, b, c) ∈ edg G ↔ ∃ q ks, (b, q, ks) ∈ M ∧ c ∈ ks := by
  cases hl : lkg G a with
  | none =>
    refine .inl ⟨rfl, lkg_none.1 hl, fun b c hm => ?_⟩
    obtain ⟨p, M, q, ks, h1, _⟩ := mem_edg.1 hm
    exact lkg_none.1 hl (List.mem_map.2 ⟨_, h1, rfl⟩)
  | some p =>
    obtain ⟨M, hm⟩ := lkg_some hl
    obtain ⟨es', clk', J, h1, h2, h3, h4⟩ := h.inner.mem hm
    refine .inr ⟨p, M, es', clk', J, rfl, hm, h1, h2, h3, h4, fun b c => ?_⟩
    rw [mem_edg]
    constructor
    · rintro ⟨p', M', q, ks, h5, h6, h7⟩
      obtain ⟨_, rfl⟩ := keyg_uniq h.nodup hm h5
      exact ⟨q, ks, h6, h7⟩
    · rintro ⟨q, ks, h6, h7⟩
      exact ⟨p, M, q, ks, hm, h6, h7⟩
/-- the number of the map of kinds -/
def lk2 (G : GrT κ ι) (a b : κ) : Option Nat := match G.find? (fun g => decide (g.1 = a)) with
  | some g => lkg g.2.2 b
  | none => none
theorem lk2_none {a : κ} (h : lkg G a = none) (b : κ) : lk2 G a b = none := by
  unfold lk2
  unfold lkg at h
  rw [Option.map_eq_none_iff] at h
  rw [h]
theorem lk2_of (hn : (G.map (·.1)).Nodup) {a : κ} {p : Nat} {M : List (κ × Nat × List ι)} (h : (a, p, M) ∈ G) (b : κ) : lk2 G a b = lkg M b := by
  unfold lk2
  have h1 := lkg_of hn h
  unfold lkg at h1
  rw [Option.map_eq_some_iff] at h1
  obtain ⟨⟨a', p', M'⟩, h2, rfl⟩ := h1
  have h3 := List.find?_some h2
  simp at h3
  subst h3
  rw [h2]
  obtain ⟨_, rfl⟩ := keyg_uniq hn h (List.mem_of_find?_eq_some h2)
  rfl
variable {Kb : List Blk}
theorem GrA.look2 (h : GrA enc encI ok okI G es clk I) (hI : ∀ q ∈ I, q ∈ Kb) (a b : κ) : (lkg G a = none ∧ Value.map (lk2 G a b) = .map none) ∨ ∃ r es clk m, lkg G a = some r ∧ (r, Obj.map es clk) ∈ Kb ∧ MapE enc m es clk ∧ (mget m b).getD (.map none) = Value.map (lk2 G a b) := by
  rcases h.cases a with ⟨h1, _, _⟩ | ⟨p, M, es', clk', J, h1, h2, h3, h4, h5, h6, h7⟩
  · exact .inl ⟨h1, by rw [lk2_none h1]⟩
  · refine .inr ⟨p, es', clk', omg M, h1, hI _ h3, h4, ?_⟩
    rw [mget_omg (h.inner.mnodup _ h2).1, lk2_of h.nodup h2]
theorem GrA.kinds (h : GrA enc encI ok okI G es clk I) (hI : ∀ q ∈ I, q ∈ Kb) (a b : κ) : ∃ ks : List ι, ((lk2 G a b = none ∧ ks = []) ∨ ∃ r es clk, lk2 G a b = some r ∧ (r, Obj.map es clk) ∈ Kb ∧ MapE encI (im ks) es clk) ∧ (∀ c, (a, b, c) ∈ edg G ↔ c ∈ ks) ∧ ks.Nodup ∧ ∀ c ∈ ks, okI c := by
  rcases h.cases a with ⟨h1, _, h2⟩ | ⟨p, M, es', clk', J, h1, h2, h3, h4, h5, h6, h7⟩
  · exact ⟨[], .inl ⟨lk2_none h1 b, rfl⟩, fun c => by simp [h2 b c], by simp, by simp⟩
  · have hM := h.inner.mnodup _ h2
    cases hl : lkg M b with
    | none =>
      refine ⟨[], .inl ⟨by rw [lk2_of h.nodup h2, hl], rfl⟩, fun c => ?_, by simp, by simp⟩
      rw [h7]
      constructor
      · rintro ⟨q, ks, h8, _⟩
        exact absurd (List.mem_map.2 ⟨_, h8, rfl⟩) (lkg_none.1 hl)
      · simp
    | some q =>
      obtain ⟨ks, hm⟩ := lkg_some hl
      obtain ⟨es2, clk2, h8, h9⟩ := h5.mem hm
      refine ⟨ks, .inr ⟨q, es2, clk2, by rw [lk2_of h.nodup h2, hl], hI _ (h6 _ h8), h9⟩, fun c => ?_, hM.2 _ hm, ((h.okk _ h2).2 _ hm).2⟩
      rw [h7]
      constructor
      · rintro ⟨q', ks', h10, h11⟩
        rw [(keyg_uniq hM.1 hm h10).2]; exact h11
      · exact fun hc => ⟨q, ks, hm, hc⟩
theorem mget_imI {ks : List ι} {c : ι} (hn : ks.Nodup) : (mget (im ks) c).getD (.bool false) = .bool (decide (c ∈ ks)) := mget_im hn
theorem GrA.look3 (h : GrA enc encI ok okI G es clk I) (hI : ∀ q ∈ I, q ∈ Kb) (a b : κ) (c : ι) : (lk2 G a b = none ∧ Value.bool (decide ((a, b, c) ∈ edg G)) = .bool false) ∨ ∃ r es clk m, lk2 G a b = some r ∧ (r, Obj.map es clk) ∈ Kb ∧ MapE encI m es clk ∧ (mget m c).getD (.bool false) = Value.bool (decide ((a, b, c) ∈ edg G)) := by
  obtain ⟨ks, h1, h2, h3, _⟩ := h.kinds hI a b
  have e : decide ((a, b, c) ∈ edg G) = decide (c ∈ ks) := decide_eq_decide.2 (h2 c)
  rcases h1 with ⟨h1, rfl⟩ | ⟨r, es, clk, h4, h5, h6⟩
  · exact .inl ⟨h1, by rw [e]; simp⟩
  · exact .inr ⟨r, es, clk, im ks, h4, h5, h6, by rw [e]; exact mget_imI h3⟩
end
end Go.U
namespace Go.U
open Go
theorem x_mapNeNil {P : Program} {n : Sz} {F : Frm} {ro : Ro} {Kb : List Blk} {dst : Option Tmp} {ty : TypeId} {pos : String} {aft : Array Edge} {g : Option (Nat × Bool)} {t t' kt et : TypeId} {x y : Operand} {mb : Option Nat} (ht : P.underlying t = some (.map kt et)) (hx : ev F x = some (.map mb)) (hy : ev F y = some (.map none)) :
    Ex P n F ro Kb ⟨dst, .binOp .neq t x y t', ty, pos, aft, g⟩ (.bool (!(mb == none))) :=
  fun a w hf _ => by
    have h : ∀ d, (Op.equalIn (d + 1) t (.map mb) (.map none)).run P w = .ok (mb == none) w := fun d => by cases mb <;> simp [Op.equalIn, run_underlying ht]
    have h2 : (Op.equal t (.map mb) (.map none)).run P w = .ok (mb == none) w := h 9999
    simp only [execOp, hf.ev hx, hf.ev hy, eqGuard, binOp]
    simp [h2]
end Go.U
