/- The walk of the statement on Reach, Cycle, Topo and Parts of any graph. -/
import Derived.Test.YtlmeblhcipkgmaaG24
namespace Go.Proofs.Ytlmeblhcipkgmaa
open Go Go.U
set_option maxRecDepth 20000
set_option linter.unusedSimpArgs false
set_option linter.unusedVariables false

open Go.RowKit
/-- where a node stands -/
def Pl (l : List Int) (n : Int) (i : Int) : Prop := (i = -1 ∧ n ∉ l) ∨ ∃ k : Nat, i = k ∧ l[k]? = some n ∧ ∀ j : Nat, j < k → l[j]? ≠ some n
theorem Pl.of {l : List Int} (hn : l.Nodup) {n i : Int} (h : Pl l n i) {k : Nat} (hk : l[k]? = some n) : i = k := by
  rcases h with ⟨_, h⟩ | ⟨q, rfl, h1, _⟩
  · exact absurd (List.mem_of_getElem? hk) h
  · rw [nodup_get hn h1 hk]
theorem Pl.ge {l : List Int} {n i : Int} (h : Pl l n i) (hm : n ∈ l) : 0 ≤ i := by
  rcases h with ⟨_, h⟩ | ⟨q, rfl, h1, _⟩
  · exact absurd hm h
  · omega
theorem Pl.iff {l : List Int} {n i : Int} (h : Pl l n i) : 0 ≤ i ↔ n ∈ l := by
  rcases h with ⟨rfl, h⟩ | ⟨q, rfl, h1, _⟩
  · exact ⟨fun h => by omega, fun h2 => absurd h2 h⟩
  · exact ⟨fun _ => List.mem_of_getElem? h1, fun _ => by omega⟩
def PPl (l : List Int) (n : Int) (ro : Ro) (L : List (List Blk)) : Value → Ro → List (List Blk) → Prop := fun v ro' L' => ∃ i : Int, v = .int .i64 i ∧ Pl l n i ∧ ro = ro' ∧ L = L'
theorem InS.sl {ps : List (List Int)} {vs : List Value} {RI : List Blk} (h : InS ps vs RI) {ro' : Ro} (hR : ∀ q ∈ RI, ro'.cells q.1 = some q.2) {i : Nat} {p : List Int} (hp : ps[i]? = some p) : ∃ A, vs[i]? = some (.slice A p.length p.length) ∧ Sl ro' 1 encInt A p.length p := by
  obtain ⟨T, rfl, rfl, rfl, h4⟩ := h
  rw [List.getElem?_map, Option.map_eq_some_iff] at hp
  obtain ⟨t, ht, rfl⟩ := hp
  have htm := List.mem_of_getElem? ht
  exact ⟨t.2.1, by rw [List.getElem?_map, ht]; rfl, OwnS.sl (h4 t htm) (fun _ _ => rfl) (fun q hq => hR q (List.mem_flatMap.2 ⟨t, htm, hq⟩))⟩
theorem OwnS.vals {e : Nat} {A : Option Addr} {m cap : Nat} {vs : List Value} {R : List Blk} (h : OwnS e 1 A m cap vs R) (hl : vs.length = m) {ro' : Ro} (hR : ∀ q ∈ R, ro'.cells q.1 = some q.2) : Sl ro' 1 (fun v : Value => [v]) A cap vs := by
  subst hl
  exact OwnS.sl (enc := fun v : Value => [v]) (by rw [flatMap_one, List.map_id']; exact h) (fun _ _ => rfl) hR
theorem kinds_nil {E : List Ed} {a b : Int} : (kindsR E a b).length = 0 ↔ b ∉ Ob E a := by
  rw [mem_Ob]
  constructor
  · rintro h ⟨c, hc⟩
    have h1 := ((kindsR_spec E a b).2 c).2 hc
    rw [List.eq_nil_of_length_eq_zero h] at h1; cases h1
  · intro h
    cases hk : kindsR E a b with
    | nil => rfl
    | cons c l => exact absurd ⟨c, ((kindsR_spec E a b).2 c).1 (by rw [hk]; simp)⟩ h
theorem al_step {E : List Ed} {ps : List (List Int)} {i : Nat} {p : List Int} (hp : ps[i]? = some p) : (∀ q ∈ ps.take (i + 1), alone (Ob E) q) ↔ (∀ q ∈ ps.take i, alone (Ob E) q) ∧ alone (Ob E) p := by
  rw [take_snoc' hp]
  constructor
  · intro h
    exact ⟨fun q hq => h q (List.mem_append_left _ hq), h p (List.mem_append_right _ (List.mem_singleton.2 rfl))⟩
  · rintro ⟨h1, h2⟩ q hq
    rcases List.mem_append.1 hq with hq | hq
    · exact h1 q hq
    · rw [List.mem_singleton.1 hq]; exact h2

theorem GraphFinds_c (l : List Ed) (A : Option Addr) (cap : Nat) (o : List Int) (B : Option Addr) (capo : Nat) (a : Int) (ro : Ro) (L : List (List Blk)) (hl : Sl ro 3 encEdge A cap l) (ho : Sl ro 1 encInt B capo o) (h64 : ∀ e ∈ l, I64 e.1 ∧ I64 e.2.1 ∧ I64 e.2.2) (ho64 : ∀ e ∈ o, I64 e) :
    CT Try.prog 12 [.slice A l.length cap, .slice B o.length capo, .int .i64 a].toArray ro L (PV (.bool true) L) := by
  have hcap : l.length ≤ 9223372036854775807 := by have := hl.1; have := hl.2.1; unfold maxLen at this; omega
  have hcapo : o.length ≤ 9223372036854775807 := by have := ho.1; have := ho.2.1; unfold maxLen at this; omega
  refine enter Try.func12 rfl Try.ntmps12 rfl ?_
  refine seq ?_
  refine region ?_
  refine op (y (x_assign rfl) rfl ?_)
  refine nil ?_
  refine n_then ?_
  refine seq ?_
  refine region ?_
  refine op (e_call rfl fn_44 rfl rfl (GFirst_c _ _) fun v21 ro21 L21 hle21 hp21 => ?_)
  obtain ⟨rfl, rfl⟩ := hp21
  have hl1 := hl.mono hle21
  have ho1 := ho.mono hle21
  refine op (y (x_assign rfl) rfl ?_)
  refine nil ?_
  refine n_then ?_
  refine seq ?_
  refine seq ?_
  refine region ?_
  refine op (y (x_move rfl) rfl ?_)
  refine op (y (x_not rfl) rfl ?_)
  refine nil ?_
  refine n_then ?_
  refine condF rfl ?_
  refine skip ?_
  refine n_then ?_
  refine seq ?_
  refine seq ?_
  refine region ?_
  refine op (y (x_move rfl) rfl ?_)
  refine op (y (x_lenSl sz_59 rfl) rfl ?_)
  refine op (y (x_gtr rfl rfl) rfl ?_)
  refine op (y (x_move rfl) rfl ?_)
  refine bsplit 27 rfl (fun g27 => ?_) (fun g27 => ?_)
  · try simp only [decide_eq_true_eq, decide_eq_false_iff_not, beq_iff_eq, bne_iff_ne, ne_eq, beq_eq_false_iff_ne, bne_eq_false_iff_eq, Bool.not_eq_true', Bool.not_eq_false', Bool.not_eq_true, Bool.not_eq_false, Decidable.not_not, Int.not_lt, Int.not_le] at g27
    refine opN rfl rfl rfl rfl ?_
    refine opN rfl rfl rfl rfl ?_
    refine opN rfl rfl rfl rfl ?_
    refine op (y (x_pickT rfl rfl) rfl ?_)
    refine op (y (x_move rfl) rfl ?_)
    refine opN rfl rfl rfl rfl ?_
    refine opN rfl rfl rfl rfl ?_
    refine op (y (x_pickT rfl rfl) rfl ?_)
    refine nil ?_
    refine n_then ?_
    refine condT rfl ?_
    refine seq ?_
    refine region ?_
    refine op (y (x_move rfl) rfl ?_)
    refine op (y (x_assign rfl) rfl ?_)
    refine nil ?_
    refine n_then ?_
    refine ret ?_
    refine r_then ?_
    exact done rfl (.tmp rfl (.nil)) (hle21) (L) (⟨_, .refl _, .refl _⟩) (⟨rfl, rfl⟩)
  · try simp only [decide_eq_true_eq, decide_eq_false_iff_not, beq_iff_eq, bne_iff_ne, ne_eq, beq_eq_false_iff_ne, bne_eq_false_iff_eq, Bool.not_eq_true', Bool.not_eq_false', Bool.not_eq_true, Bool.not_eq_false, Decidable.not_not, Int.not_lt, Int.not_le] at g27
    refine opG rfl rfl (y (x_move rfl) rfl ?_)
    refine opG rfl rfl (y (x_lenSl sz_23 rfl) rfl ?_)
    refine opG rfl rfl (y (x_gtr rfl rfl) rfl ?_)
    refine op (y (x_pickF rfl rfl) rfl ?_)
    refine op (y (x_move rfl) rfl ?_)
    refine bsplit 32 rfl (fun g32 => ?_) (fun g32 => ?_)
    · try simp only [decide_eq_true_eq, decide_eq_false_iff_not, beq_iff_eq, bne_iff_ne, ne_eq, beq_eq_false_iff_ne, bne_eq_false_iff_eq, Bool.not_eq_true', Bool.not_eq_false', Bool.not_eq_true, Bool.not_eq_false, Decidable.not_not, Int.not_lt, Int.not_le] at g32
      refine opN rfl rfl rfl rfl ?_
      refine opN rfl rfl rfl rfl ?_
      refine op (y (x_pickT rfl rfl) rfl ?_)
      refine nil ?_
      refine n_then ?_
      refine condT rfl ?_
      refine seq ?_
      refine region ?_
      refine op (y (x_move rfl) rfl ?_)
      refine op (y (x_assign rfl) rfl ?_)
      refine nil ?_
      refine n_then ?_
      refine ret ?_
      refine r_then ?_
      exact done rfl (.tmp rfl (.nil)) (hle21) (L) (⟨_, .refl _, .refl _⟩) (⟨rfl, rfl⟩)
    · try simp only [decide_eq_true_eq, decide_eq_false_iff_not, beq_iff_eq, bne_iff_ne, ne_eq, beq_eq_false_iff_ne, bne_eq_false_iff_eq, Bool.not_eq_true', Bool.not_eq_false', Bool.not_eq_true, Bool.not_eq_false, Decidable.not_not, Int.not_lt, Int.not_le] at g32
      refine opG rfl rfl (y (x_move rfl) rfl ?_)
      refine opG rfl rfl (y (x_not rfl) rfl ?_)
      refine op (y (x_pickF rfl rfl) rfl ?_)
      refine nil ?_
      refine n_then ?_
      refine condF rfl ?_
      refine skip ?_
      refine n_then ?_
      refine seq ?_
      refine region ?_
      refine op (y (x_move rfl) rfl ?_)
      refine op (y (x_move rfl) rfl ?_)
      refine op (e_call rfl fn_45 rfl rfl (GMade_c l _ _ o _ _ _ _ hl1 ho1 (by omega) (by omega) h64 ho64) fun v40 ro40 L40 hle40 hp40 => ?_)
      obtain ⟨x, R, A2, cap2, B2, cap3, rfl, hR, hA2, hB2, hLL⟩ := hp40
      subst hLL
      obtain ⟨hs1, hs2, hs3⟩ := mkE_spec l l.length (Nat.le_refl _)
      rw [List.take_length] at hs1 hs2 hs3
      obtain ⟨hq1, hq2, hq3⟩ := mkN_spec l o o.length (Nat.le_refl _)
      rw [List.take_length] at hq1 hq2 hq3
      have hNO : ∀ u w, w ∈ Ob (mkE l) u → u ∈ mkN l o := fun u w h => by
        obtain ⟨c, hc⟩ := mem_Ob.1 h
        exact (hq3 u).2 (.inr ⟨_, (hs3 _).1 hc, .inl rfl⟩)
      have hNO2 : ∀ u w, w ∈ Ob (mkE l) u → w ∈ mkN l o := fun u w h => by
        obtain ⟨c, hc⟩ := mem_Ob.1 h
        exact (hq3 w).2 (.inr ⟨_, (hs3 _).1 hc, .inr rfl⟩)
      have hl2 := hl1.mono hle40
      have ho2 := ho1.mono hle40
      generalize mkN l o = N at *
      generalize mkE l = E at *
      have hNn := nodup_lt hq1
      refine op (y (x_move rfl) rfl ?_)
      refine op (y (x_extract rfl rfl) rfl ?_)
      refine op (y (x_extract rfl rfl) rfl ?_)
      refine op (e_alloc rfl zc_63 rfl fun b9 => ?_)
      refine op (y (x_assign rfl) rfl ?_)
      first | refine op (e_store 0 rfl rfl ts_63 rfl rfl rfl rfl rfl rfl ?_) | refine op (e_store 1 rfl rfl ts_63 rfl rfl rfl rfl rfl rfl ?_) | refine op (e_store 2 rfl rfl ts_63 rfl rfl rfl rfl rfl rfl ?_) | refine op (e_store 3 rfl rfl ts_63 rfl rfl rfl rfl rfl rfl ?_) | refine op (e_store 4 rfl rfl ts_63 rfl rfl rfl rfl rfl rfl ?_) | refine op (e_store 5 rfl rfl ts_63 rfl rfl rfl rfl rfl rfl ?_)
      refine nil ?_
      refine n_then ?_
      refine seq ?_
      refine seq ?_
      refine region ?_
      refine op (y (x_move rfl) rfl ?_)
      refine op (y (x_ptrEqNil Try.underlying60 rfl rfl) rfl ?_)
      refine nil ?_
      refine n_then ?_
      refine condF rfl ?_
      refine skip ?_
      refine n_then ?_
      refine seq ?_
      refine drawL (by kernel_rfl) ?_
      refine d_take 0 rfl (by kernel_rfl) (by kernel_rfl) (by kernel_rfl) (fun _ _ _ h => h) rfl (.inl rfl) (x_move rfl) (fun w hi => J.of_le (by first | exact Ro.le.refl _ | assumption) (fun x hx => hx) hi) ?_
      refine d_take 1 rfl (by kernel_rfl) (by kernel_rfl) (by kernel_rfl) (fun _ _ _ h => h) rfl (.inl rfl) (x_move rfl) (fun w hi => J.of_le (by first | exact Ro.le.refl _ | assumption) (fun x hx => hx) hi) ?_
      refine d_take 3 rfl (by kernel_rfl) (by kernel_rfl) (by kernel_rfl) (fun _ _ _ h => h) rfl (.inl rfl) (x_loadOwn 0 [.slice A2 N.length cap2, .slice B2 E.length cap3] ag_63 rfl rfl rfl rfl) (fun w hi => J.of_le (by first | exact Ro.le.refl _ | assumption) (fun x hx => hx) hi) ?_
      refine d_take 4 rfl (by kernel_rfl) (by kernel_rfl) (by kernel_rfl) (fun _ _ _ h => h) rfl (.inl rfl) (x_move rfl) (fun w hi => J.of_le (by first | exact Ro.le.refl _ | assumption) (fun x hx => hx) hi) ?_
      refine d_one 2 rfl (by kernel_rfl) (.inl rfl) (e_call rfl fn_53 rfl rfl (GrReach_c x N E R _ _ hR (by simp) (by omega) (by omega) a) fun v47 ro47 L47 hle47 hp47 => ?_)
      obtain ⟨to, hRS, A47, cap47, R47, rfl, hO47, rfl, rfl⟩ := hp47
      refine ufreeze fun ro47x hle47x hR47 => ?_
      have hS47 := OwnS.sl hO47 (fun _ _ => rfl) hR47
      have hA3 := hA2.mono hle47x
      have hB3 := hB2.mono hle47x
      refine d_next (fun w hi => J.of_le (by first | exact Ro.le.refl _ | assumption) (fun x hx => hx) hi) ?_
      refine d_one 5 rfl (by kernel_rfl) (.inl rfl) (e_call rfl fn_66 rfl rfl (GReach_c N E A2 cap2 B2 cap3 _ _ hA3 hB3 a (by omega)) fun v50 ro50 L50 hle50 hp50 => ?_)
      obtain ⟨to2, hRS2, A50, cap50, rfl, hS50, hLL50⟩ := hp50
      subst hLL50
      have hq50 := hle47x.trans hle50
      obtain rfl : to = to2 := sorted_ext hRS.1 hRS2.1 (fun z => (hRS.2 z).trans (hRS2.2 z).symm)
      have hA4 := hA3.mono hle50
      have hB4 := hB3.mono hle50
      refine d_next (fun w hi => J.of_le (by first | exact Ro.le.refl _ | assumption) (fun x hx => hx) hi) ?_
      refine d_one 6 rfl (by kernel_rfl) (.inl rfl) (e_call rfl fn_39 rfl rfl (SameInts_c (to) A47 cap47 (to) A50 cap50 _ _ (hS47.mono hle50) hS50) fun v51 ro51 L51 hle51 hp51 => ?_)
      obtain ⟨hv51, hr51, hLL51⟩ := hp51
      subst hr51
      subst hLL51
      obtain rfl : v51 = .bool true := hv51.trans (by simp)
      refine d_next (fun w hi => J.of_le (by first | exact Ro.le.refl _ | assumption) (fun x hx => hx) hi) ?_
      refine d_take 7 rfl (by kernel_rfl) (by kernel_rfl) (by kernel_rfl) (fun _ _ _ h => h) rfl (.inl rfl) (x_assign rfl) (fun w hi => J.of_le (by first | exact Ro.le.refl _ | assumption) (fun x hx => hx) hi) ?_
      refine d_end (by kernel_rfl) ?_
      refine n_then ?_
      refine seq ?_
      refine drawL (by kernel_rfl) ?_
      refine d_take 0 rfl (by kernel_rfl) (by kernel_rfl) (by kernel_rfl) (fun _ _ _ h => h) rfl (.inl rfl) (x_move rfl) (fun w hi => J.of_le (by first | exact Ro.le.refl _ | assumption) (fun x hx => hx) hi) ?_
      refine d_take 2 rfl (by kernel_rfl) (by kernel_rfl) (by kernel_rfl) (fun _ _ _ h => h) rfl (.inl rfl) (x_loadOwn 0 [.slice A2 N.length cap2, .slice B2 E.length cap3] ag_63 rfl rfl rfl rfl) (fun w hi => J.of_le (by first | exact Ro.le.refl _ | assumption) (fun x hx => hx) hi) ?_
      refine d_one 1 rfl (by kernel_rfl) (.inl rfl) (e_call rfl fn_47 rfl rfl (GrCycle_c x N E R _ _ hR (by simp) hq1 (by omega) (by omega)) fun v53 ro53 L53 hle53 hp53 => ?_)
      obtain ⟨A53, cap53, R53, rfl, hO53, hLL53⟩ := hp53
      subst hLL53
      refine ufreeze fun ro53x hle53x hR53 => ?_
      have hS53 := OwnS.sl hO53 (fun _ _ => rfl) hR53
      have hA5 := (hA4.mono hle53).mono hle53x
      have hB5 := (hB4.mono hle53).mono hle53x
      have hq53 := hle53.trans hle53x
      refine d_next (fun w hi => J.of_le (by first | exact Ro.le.refl _ | assumption) (fun x hx => hx) hi) ?_
      refine d_one 3 rfl (by kernel_rfl) (.inl rfl) (e_call rfl fn_67 rfl rfl (GCycle_c N E A2 cap2 B2 cap3 _ _ hA5 hB5 (by omega) (by omega) hNn hNO hq1 hNO2) fun v55 ro55 L55 hle55 hp55 => ?_)
      obtain ⟨A55, cap55, R55, rfl, hO55, hLL55⟩ := hp55
      subst hLL55
      refine ufreeze fun ro55x hle55x hR55 => ?_
      have hS55 := OwnS.sl hO55 (fun _ _ => rfl) hR55
      have hA6 := (hA5.mono hle55).mono hle55x
      have hB6 := (hB5.mono hle55).mono hle55x
      have hq55 := hq53.trans (hle55.trans hle55x)
      refine d_next (fun w hi => J.of_le (by first | exact Ro.le.refl _ | assumption) (fun x hx => hx) hi) ?_
      refine d_one 4 rfl (by kernel_rfl) (.inl rfl) (e_call rfl fn_39 rfl rfl (SameInts_c (cycR (Ob E) N) A53 cap53 (cycR (Ob E) N) A55 cap55 _ _ ((hS53.mono hle55).mono hle55x) hS55) fun v56 ro56 L56 hle56 hp56 => ?_)
      obtain ⟨hv56, hr56, hLL56⟩ := hp56
      subst hr56
      subst hLL56
      obtain rfl : v56 = .bool true := hv56.trans (by simp)
      refine d_next (fun w hi => J.of_le (by first | exact Ro.le.refl _ | assumption) (fun x hx => hx) hi) ?_
      refine d_take 5 rfl (by kernel_rfl) (by kernel_rfl) (by kernel_rfl) (fun _ _ _ h => h) rfl (.inl rfl) (x_assign rfl) (fun w hi => J.of_le (by first | exact Ro.le.refl _ | assumption) (fun x hx => hx) hi) ?_
      refine d_end (by kernel_rfl) ?_
      refine n_then ?_
      refine seq ?_
      refine region ?_
      refine op (y (x_move rfl) rfl ?_)
      refine op (e_call rfl fn_46 rfl rfl (GrTopo_c x N E R _ _ hR (by simp) hq1 (by omega) (by omega)) fun v59 ro59 L59 hle59 hp59 => ?_)
      obtain ⟨A59, cap59, R59, hLL, hc59⟩ := hp59
      subst hLL
      obtain ⟨tl, od, rfl, hO59, hod⟩ : ∃ (tl : List Int) (od : Bool), v59 = .tuple #[.slice A59 tl.length cap59, .bool od] ∧ OwnS 3 1 A59 tl.length cap59 (tl.flatMap encInt) R59 ∧ ((od = true ∧ topoR (Ob E) N = some tl ∧ tl.length = N.length) ∨ (od = false ∧ topoR (Ob E) N = none ∧ tl = [])) := by
        rcases hc59 with ⟨h1, h2, h3⟩ | ⟨tl, h1, h2, h3, h4⟩
        · exact ⟨[], false, h2, h3, .inr ⟨rfl, h1, rfl⟩⟩
        · exact ⟨tl, true, h3, h4, .inl ⟨rfl, h1, h2⟩⟩
      have htl : tl.length ≤ 1000 := by
        rcases hod with ⟨_, _, h⟩ | ⟨_, _, rfl⟩
        · omega
        · simp
      refine ufreeze fun ro59x hle59x hR59x => ?_
      have hTl := OwnS.sl hO59 (fun _ _ => rfl) hR59x
      have hA7 := (hA6.mono hle59).mono hle59x
      have hB7 := (hB6.mono hle59).mono hle59x
      refine op (y (x_move rfl) rfl ?_)
      refine op (y (x_extract rfl rfl) rfl ?_)
      refine op (y (x_extract rfl rfl) rfl ?_)
      refine op (y (x_assign rfl) rfl ?_)
      refine op (y (x_assign rfl) rfl ?_)
      refine nil ?_
      refine n_then ?_
      refine seq ?_
      refine region ?_
      refine op (y (x_loadOwn 0 [.slice A2 N.length cap2, .slice B2 E.length cap3] ag_63 rfl rfl rfl rfl) rfl ?_)
      refine op (e_call rfl fn_68 rfl rfl (GTopo_c N E A2 cap2 B2 cap3 _ _ hA7 hB7 (by omega) (by omega) hNO) fun v64 ro64 L64 hle64 hp64 => ?_)
      obtain ⟨A64, cap64, R64, hLL64, hc64⟩ := hp64
      subst hLL64
      obtain ⟨rfl, hO64⟩ : v64 = .tuple #[.slice A64 tl.length cap64, .bool od] ∧ OwnS 3 1 A64 tl.length cap64 (tl.flatMap encInt) R64 := by
        rcases hod with ⟨rfl, h1, _⟩ | ⟨rfl, h1, rfl⟩
        · rcases hc64 with ⟨h2, _⟩ | ⟨t2, h2, _, h3, h4⟩
          · rw [h1] at h2; cases h2
          · rw [h1] at h2; cases h2; exact ⟨h3, h4⟩
        · rcases hc64 with ⟨h2, h3, h4⟩ | ⟨t2, h2, _⟩
          · exact ⟨h3, h4⟩
          · rw [h1] at h2; cases h2
      refine ufreeze fun ro64x hle64x hR64 => ?_
      have hS64 := OwnS.sl hO64 (fun _ _ => rfl) hR64
      have hA8 := (hA7.mono hle64).mono hle64x
      have hB8 := (hB7.mono hle64).mono hle64x
      refine op (y (x_move rfl) rfl ?_)
      refine op (y (x_extract rfl rfl) rfl ?_)
      refine op (y (x_extract rfl rfl) rfl ?_)
      refine op (y (x_assign rfl) rfl ?_)
      refine op (y (x_assign rfl) rfl ?_)
      refine nil ?_
      refine n_then ?_
      refine seq ?_
      refine region ?_
      refine op (y (x_move rfl) rfl ?_)
      refine op (y (x_move rfl) rfl ?_)
      refine op (e_call rfl fn_39 rfl rfl (SameInts_c (tl) A59 cap59 (tl) A64 cap64 _ _ ((hTl.mono hle64).mono hle64x) hS64) fun v69 ro69 L69 hle69 hp69 => ?_)
      obtain ⟨hv69, hr69, hLL69⟩ := hp69
      subst hr69
      subst hLL69
      obtain rfl : v69 = .bool true := hv69.trans (by simp)
      refine op (y (x_assign rfl) rfl ?_)
      refine nil ?_
      refine n_then ?_
      refine seq ?_
      refine region ?_
      refine op (y (x_move rfl) rfl ?_)
      refine op (e_call rfl fn_48 rfl rfl (GrParts_c x N E R _ _ hR (by simp) hq1 (by omega) (by omega)) fun v71 ro71 L71 hle71 hp71 => ?_)
      obtain ⟨ps, vs, A71, cap71, R71, RI71, rfl, hO71, hIn, hps, hLL⟩ := hp71
      subst hLL
      have hvl := InS.len hIn
      refine ufreeze fun ro71x hle71x hR71x => ?_
      have hSv := OwnS.vals hO71 hvl hR71x
      refine ufreeze fun ro71y hle71y hR71y => ?_
      have hSp := hSv.mono hle71y
      have hIs : ∀ {i : Nat} {p : List Int}, ps[i]? = some p → ∃ A, vs[i]? = some (.slice A p.length p.length) ∧ Sl ro71y 1 encInt A p.length p := fun h => InS.sl hIn hR71y h
      have hpl : ps.length ≤ 9223372036854775807 := by
        have h1 := OwnS.capLe hO71
        obtain ⟨_, ⟨_, h2, h3, _⟩ | ⟨_, _, _, _, _, h2, _, _⟩⟩ := hO71 <;> omega
      have hA9 := ((hA8.mono hle71).mono hle71x).mono hle71y
      have hB9 := ((hB8.mono hle71).mono hle71x).mono hle71y
      refine op (y (x_assign rfl) rfl ?_)
      refine nil ?_
      refine n_then ?_
      refine seq ?_
      refine region ?_
      refine op (y (x_loadOwn 0 [.slice A2 N.length cap2, .slice B2 E.length cap3] ag_63 rfl rfl rfl rfl) rfl ?_)
      refine op (e_call rfl fn_69 rfl rfl (GParts_c N E A2 cap2 B2 cap3 _ _ hA9 hB9 (by omega) (by omega) hNn hNO) fun v73 ro73 L73 hle73 hp73 => ?_)
      obtain ⟨ps2, vs2, A73, cap73, R73, RI73, rfl, hO73, hIn2, hps2, hLL73⟩ := hp73
      subst hLL73
      obtain rfl : ps = ps2 := hps.trans hps2.symm
      have hvl2 := InC.len hIn2
      refine ufreeze fun ro73x hle73x hR73 => ?_
      have hSw := OwnS.vals hO73 hvl2 hR73
      refine ufreeze fun ro73y hle73y hR73y => ?_
      have hSq := hSw.mono hle73y
      have hIs2 : ∀ {i : Nat} {p : List Int}, ps[i]? = some p → ∃ A cap, vs2[i]? = some (.slice A p.length cap) ∧ Sl ro73y 1 encInt A cap p := fun h => InC.sl hIn2 hR73y h
      have hSpz := ((hSp.mono hle73).mono hle73x).mono hle73y
      have hAz := ((hA9.mono hle73).mono hle73x).mono hle73y
      have hBz := ((hB9.mono hle73).mono hle73x).mono hle73y
      refine op (y (x_assign rfl) rfl ?_)
      refine nil ?_
      refine n_then ?_
      refine seq ?_
      refine seq ?_
      refine region ?_
      refine op (y (x_move rfl) rfl ?_)
      refine op (y ((x_not rfl).as (v' := .bool false) rfl) rfl ?_)
      refine op (y (x_move rfl) rfl ?_)
      refine opG rfl rfl (y (x_move rfl) rfl ?_)
      refine opG rfl rfl (y ((x_not rfl).as (v' := .bool false) rfl) rfl ?_)
      refine op (y (x_pickF rfl rfl) rfl ?_)
      refine op (y (x_move rfl) rfl ?_)
      refine opG rfl rfl (y (x_move rfl) rfl ?_)
      refine opG rfl rfl (y ((x_not rfl).as (v' := .bool false) rfl) rfl ?_)
      refine op (y (x_pickF rfl rfl) rfl ?_)
      refine op (y (x_move rfl) rfl ?_)
      refine opG rfl rfl (y (x_move rfl) rfl ?_)
      refine opG rfl rfl (y (x_move rfl) rfl ?_)
      refine opG rfl rfl (y ((x_bneq Try.underlying4 rfl rfl).as (v' := .bool false) (by simp)) rfl ?_)
      refine op (y (x_pickF rfl rfl) rfl ?_)
      refine op (y (x_move rfl) rfl ?_)
      refine opG rfl rfl (y (x_move rfl) rfl ?_)
      refine opG rfl rfl (y (x_lenSl sz_69 rfl) rfl ?_)
      refine opG rfl rfl (y (x_move rfl) rfl ?_)
      refine opG rfl rfl (y (x_lenSl sz_69 rfl) rfl ?_)
      refine opG rfl rfl (y ((x_neq rfl rfl).as (v' := .bool false) (by simp)) rfl ?_)
      refine op (y (x_pickF rfl rfl) rfl ?_)
      refine nil ?_
      refine n_then ?_
      refine condF rfl ?_
      refine skip ?_
      refine n_then ?_
      refine seq ?_
      refine seq ?_
      refine region ?_
      refine op (y (x_assign rfl) rfl ?_)
      refine nil ?_
      refine n_then ?_
      refine block ?_
      refine loop (fun m F ro' L' => ∃ (i : Nat), (m = ps.length - i) ∧ (F = [(8, .pointer (some ⟨x, 0, none⟩)), (9, .pointer (some ⟨b9, 0, none⟩)), (17, .slice A71 ps.length cap71), (18, .slice A73 ps.length cap73), (19, .int .i64 (i : Nat))]) ∧ (ro73y = ro') ∧ (L' = [(b9, .cells [.slice A2 N.length cap2, .slice B2 E.length cap3].toArray 63 (0, 0))] :: R :: L) ∧ (i ≤ ps.length)) (ps.length - 0) [(8, .pointer (some ⟨x, 0, none⟩)), (9, .pointer (some ⟨b9, 0, none⟩)), (17, .slice A71 ps.length cap71), (18, .slice A73 ps.length cap73), (19, .int .i64 (0 : Nat))] ⟨rfl, rfl, rfl, rfl, rfl, trivial⟩ ⟨0, rfl, rfl, rfl, rfl, by omega⟩ ?_
      rintro m F ro' L' ⟨i, rfl, rfl, rfl, rfl, hi⟩
      refine seq ?_
      refine seq ?_
      refine region ?_
      refine op (y (x_move rfl) rfl ?_)
      refine op (y (x_move rfl) rfl ?_)
      refine op (y (x_lenSl sz_69 rfl) rfl ?_)
      refine op (y (x_lss rfl rfl) rfl ?_)
      refine nil ?_
      refine n_then ?_
      refine cond rfl (fun h19 => ?_) (fun h19 => ?_)
      · try simp only [decide_eq_true_eq, decide_eq_false_iff_not, beq_iff_eq, bne_iff_ne, ne_eq, beq_eq_false_iff_ne, bne_eq_false_iff_eq, Bool.not_eq_true', Bool.not_eq_false', Bool.not_eq_true, Bool.not_eq_false, Decidable.not_not, Int.not_lt, Int.not_le] at h19
        refine skip ?_
        refine n_then ?_
        refine seq ?_
        refine block ?_
        refine seq ?_
        have hil : i < vs.length := by omega
        have hil2 : i < vs2.length := by omega
        have hpx := List.getElem?_eq_getElem (show i < ps.length by omega)
        have hp1 := hIs hpx
        have hp2 := hIs2 hpx
        generalize ps[i] = pq at *
        obtain ⟨Aq, hvq, hSq1⟩ := hp1
        obtain ⟨Aq2, capq2, hvq2, hSq2⟩ := hp2
        have hSq1z := ((hSq1.mono hle73).mono hle73x).mono hle73y
        obtain ⟨bbp, offp, rfl, hcp⟩ := hSpz.at_ hil
        have cp0 := hcp i _ hvq 0 _ rfl
        obtain ⟨bbq, offq, rfl, hcq⟩ := hSq.at_ hil2
        have cq0 := hcq i _ hvq2 0 _ rfl
        refine drawL (by kernel_rfl) ?_
        refine d_take 0 rfl (by kernel_rfl) (by kernel_rfl) (by kernel_rfl) (fun _ _ _ h => h) rfl (.inl rfl) (x_move rfl) (fun w hi => J.of_le (by first | exact Ro.le.refl _ | assumption) (fun x hx => hx) hi) ?_
        refine d_take 1 rfl (by kernel_rfl) (by kernel_rfl) (by kernel_rfl) (fun _ _ _ h => h) rfl (.inl rfl) (x_move rfl) (fun w hi => J.of_le (by first | exact Ro.le.refl _ | assumption) (fun x hx => hx) hi) ?_
        refine d_take 2 rfl (by kernel_rfl) (by kernel_rfl) (by kernel_rfl) (fun _ _ _ h => h) rfl (.inl rfl) (x_indexNat sz_69 rfl rfl (by omega)) (fun w hi => J.of_le (by first | exact Ro.le.refl _ | assumption) (fun x hx => hx) hi) ?_
        refine d_take 3 rfl (by kernel_rfl) (by kernel_rfl) (by kernel_rfl) (fun _ _ _ h => h) rfl (.inl rfl) (x_load1 ag_23 rfl (by first | assumption | exact Cell.own 0 rfl rfl | exact Cell.own 1 rfl rfl | exact Cell.own 2 rfl rfl | exact Cell.own 3 rfl rfl | exact Cell.own 4 rfl rfl | exact Cell.own 5 rfl rfl | exact Cell.ofRo (by assumption))) (fun w hi => J.of_le (by first | exact Ro.le.refl _ | assumption) (fun x hx => hx) hi) ?_
        refine d_take 4 rfl (by kernel_rfl) (by kernel_rfl) (by kernel_rfl) (fun _ _ _ h => h) rfl (.inl rfl) (x_move rfl) (fun w hi => J.of_le (by first | exact Ro.le.refl _ | assumption) (fun x hx => hx) hi) ?_
        refine d_take 5 rfl (by kernel_rfl) (by kernel_rfl) (by kernel_rfl) (fun _ _ _ h => h) rfl (.inl rfl) (x_move rfl) (fun w hi => J.of_le (by first | exact Ro.le.refl _ | assumption) (fun x hx => hx) hi) ?_
        refine d_take 6 rfl (by kernel_rfl) (by kernel_rfl) (by kernel_rfl) (fun _ _ _ h => h) rfl (.inl rfl) (x_indexNat sz_69 rfl rfl (by omega)) (fun w hi => J.of_le (by first | exact Ro.le.refl _ | assumption) (fun x hx => hx) hi) ?_
        refine d_take 7 rfl (by kernel_rfl) (by kernel_rfl) (by kernel_rfl) (fun _ _ _ h => h) rfl (.inl rfl) (x_load1 ag_23 rfl (by first | assumption | exact Cell.own 0 rfl rfl | exact Cell.own 1 rfl rfl | exact Cell.own 2 rfl rfl | exact Cell.own 3 rfl rfl | exact Cell.own 4 rfl rfl | exact Cell.own 5 rfl rfl | exact Cell.ofRo (by assumption))) (fun w hi => J.of_le (by first | exact Ro.le.refl _ | assumption) (fun x hx => hx) hi) ?_
        refine d_one 8 rfl (by kernel_rfl) (.inl rfl) (e_call rfl fn_39 rfl rfl (SameInts_c (pq) Aq pq.length (pq) Aq2 capq2 _ _ hSq1z hSq2) fun v110 ro110 L110 hle110 hp110 => ?_)
        obtain ⟨hv110, hr110, hLL110⟩ := hp110
        subst hr110
        subst hLL110
        obtain rfl : v110 = .bool true := hv110.trans (by simp)
        refine d_next (fun w hi => J.of_le (by first | exact Ro.le.refl _ | assumption) (fun x hx => hx) hi) ?_
        refine d_take 9 rfl (by kernel_rfl) (by kernel_rfl) (by kernel_rfl) (fun _ _ _ h => h) rfl (.inl rfl) (x_assign rfl) (fun w hi => J.of_le (by first | exact Ro.le.refl _ | assumption) (fun x hx => hx) hi) ?_
        refine d_end (by kernel_rfl) ?_
        refine n_then ?_
        refine seq ?_
        refine region ?_
        refine op (y (x_move rfl) rfl ?_)
        refine op (y ((x_not rfl).as (v' := .bool false) rfl) rfl ?_)
        refine nil ?_
        refine n_then ?_
        refine condF rfl ?_
        refine skip ?_
        refine n_in ?_
        refine n_then ?_
        refine region ?_
        refine op (y (x_move rfl) rfl ?_)
        refine op (y (x_add rfl rfl _ (wr (by omega) (by omega))) rfl ?_)
        refine op (y (x_assign rfl) rfl ?_)
        refine nil ?_
        exact round (ps.length - (i + 1)) [(8, .pointer (some ⟨x, 0, none⟩)), (9, .pointer (some ⟨b9, 0, none⟩)), (17, .slice _ ps.length cap71), (18, .slice _ ps.length cap73), (19, .int .i64 ((i + 1) : Nat))] (by omega) ⟨rfl, rfl, rfl, rfl, rfl, trivial⟩ ⟨i + 1, rfl, rfl, rfl, rfl, by omega⟩
      · try simp only [decide_eq_true_eq, decide_eq_false_iff_not, beq_iff_eq, bne_iff_ne, ne_eq, beq_eq_false_iff_ne, bne_eq_false_iff_eq, Bool.not_eq_true', Bool.not_eq_false', Bool.not_eq_true, Bool.not_eq_false, Decidable.not_not, Int.not_lt, Int.not_le] at h19
        refine exit ?_
        refine e_then ?_
        refine e_then ?_
        refine e_in ?_
        refine n_then ?_
        refine seq ?_
        refine region ?_
        refine op (y (x_move rfl) rfl ?_)
        refine op (y (x_loadOwn 0 [.slice A2 N.length cap2, .slice B2 E.length cap3] ag_63 rfl rfl rfl rfl) rfl ?_)
        refine op (e_call rfl fn_65 rfl rfl (GIs_c x N E R A2 cap2 B2 cap3 _ _ hR (by simp) hq1 hs1 hAz hBz (by omega) (by omega)) fun v115 ro115 L115 hle115 hp115 => ?_)
        obtain ⟨rfl, hLL115⟩ := hp115
        subst hLL115
        refine op (y (x_assign rfl) rfl ?_)
        refine nil ?_
        refine n_then ?_
        refine ret ?_
        refine drop0 ?_
        refine drop0 ?_
        exact done rfl (.tmp rfl (.nil)) (((((((((((((((((((hle21).trans hle40).trans hle47x).trans hle50).trans hle53).trans hle53x).trans hle55).trans hle55x).trans hle59).trans hle59x).trans hle64).trans hle64x).trans hle71).trans hle71x).trans hle71y).trans hle73).trans hle73x).trans hle73y).trans hle115) (L) (⟨_, .refl _, .refl _⟩) (⟨rfl, rfl⟩)

end Go.Proofs.Ytlmeblhcipkgmaa
