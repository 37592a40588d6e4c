/- The walk of the statement that lists and graphs that are answered are new memory. -/
import Derived.Test.YtlmeblhcipkgmaaG26
import Derived.Test.YtlmeblhcipkgmaaU25
namespace Go.Proofs.Ytlmeblhcipkgmaa
open Go Go.U
set_option maxRecDepth 20000
set_option linter.unusedSimpArgs false
set_option linter.unusedVariables false

open Go.RowKit
/-- where a node stands -/
def Pl (l : List Int) (n : Int) (i : Int) : Prop := (i = -1 ∧ n ∉ l) ∨ ∃ k : Nat, i = k ∧ l[k]? = some n ∧ ∀ j : Nat, j < k → l[j]? ≠ some n
theorem Pl.of {l : List Int} (hn : l.Nodup) {n i : Int} (h : Pl l n i) {k : Nat} (hk : l[k]? = some n) : i = k := by
  rcases h with ⟨_, h⟩ | ⟨q, rfl, h1, _⟩
  · exact absurd (List.mem_of_getElem? hk) h
  · rw [nodup_get hn h1 hk]
theorem Pl.ge {l : List Int} {n i : Int} (h : Pl l n i) (hm : n ∈ l) : 0 ≤ i := by
  rcases h with ⟨_, h⟩ | ⟨q, rfl, h1, _⟩
  · exact absurd hm h
  · omega
theorem Pl.iff {l : List Int} {n i : Int} (h : Pl l n i) : 0 ≤ i ↔ n ∈ l := by
  rcases h with ⟨rfl, h⟩ | ⟨q, rfl, h1, _⟩
  · exact ⟨fun h => by omega, fun h2 => absurd h2 h⟩
  · exact ⟨fun _ => List.mem_of_getElem? h1, fun _ => by omega⟩
def PPl (l : List Int) (n : Int) (ro : Ro) (L : List (List Blk)) : Value → Ro → List (List Blk) → Prop := fun v ro' L' => ∃ i : Int, v = .int .i64 i ∧ Pl l n i ∧ ro = ro' ∧ L = L'
theorem InS.sl {ps : List (List Int)} {vs : List Value} {RI : List Blk} (h : InS ps vs RI) {ro' : Ro} (hR : ∀ q ∈ RI, ro'.cells q.1 = some q.2) {i : Nat} {p : List Int} (hp : ps[i]? = some p) : ∃ A, vs[i]? = some (.slice A p.length p.length) ∧ Sl ro' 1 encInt A p.length p := by
  obtain ⟨T, rfl, rfl, rfl, h4⟩ := h
  rw [List.getElem?_map, Option.map_eq_some_iff] at hp
  obtain ⟨t, ht, rfl⟩ := hp
  have htm := List.mem_of_getElem? ht
  exact ⟨t.2.1, by rw [List.getElem?_map, ht]; rfl, OwnS.sl (h4 t htm) (fun _ _ => rfl) (fun q hq => hR q (List.mem_flatMap.2 ⟨t, htm, hq⟩))⟩
theorem OwnS.vals {e : Nat} {A : Option Addr} {m cap : Nat} {vs : List Value} {R : List Blk} (h : OwnS e 1 A m cap vs R) (hl : vs.length = m) {ro' : Ro} (hR : ∀ q ∈ R, ro'.cells q.1 = some q.2) : Sl ro' 1 (fun v : Value => [v]) A cap vs := by
  subst hl
  exact OwnS.sl (enc := fun v : Value => [v]) (by rw [flatMap_one, List.map_id']; exact h) (fun _ _ => rfl) hR
theorem kinds_nil {E : List Ed} {a b : Int} : (kindsR E a b).length = 0 ↔ b ∉ Ob E a := by
  rw [mem_Ob]
  constructor
  · rintro h ⟨c, hc⟩
    have h1 := ((kindsR_spec E a b).2 c).2 hc
    rw [List.eq_nil_of_length_eq_zero h] at h1; cases h1
  · intro h
    cases hk : kindsR E a b with
    | nil => rfl
    | cons c l => exact absurd ⟨c, ((kindsR_spec E a b).2 c).1 (by rw [hk]; simp)⟩ h
theorem al_step {E : List Ed} {ps : List (List Int)} {i : Nat} {p : List Int} (hp : ps[i]? = some p) : (∀ q ∈ ps.take (i + 1), alone (Ob E) q) ↔ (∀ q ∈ ps.take i, alone (Ob E) q) ∧ alone (Ob E) p := by
  rw [take_snoc' hp]
  constructor
  · intro h
    exact ⟨fun q hq => h q (List.mem_append_left _ hq), h p (List.mem_append_right _ (List.mem_singleton.2 rfl))⟩
  · rintro ⟨h1, h2⟩ q hq
    rcases List.mem_append.1 hq with hq | hq
    · exact h1 q hq
    · rw [List.mem_singleton.1 hq]; exact h2

theorem OwnS.lenLe {e k : Nat} {A : Option Addr} {m cap : Nat} {xs : List Value} {R : List Blk} (h : OwnS e k A m cap xs R) : m ≤ 9223372036854775807 := by
  have h1 := OwnS.capLe h
  obtain ⟨_, ⟨_, h2, h3, _⟩ | ⟨_, _, _, _, _, h2, _, _⟩⟩ := h <;> omega
def InW (vs : List Value) (RI : List Blk) : Prop := ∃ T : List (Nat × Option Addr × Nat × List Value × List Blk), vs = T.map (fun t => Value.slice t.2.1 t.1 t.2.2.1) ∧ RI = T.flatMap (·.2.2.2.2) ∧ ∀ t ∈ T, OwnS 3 1 t.2.1 t.1 t.2.2.1 t.2.2.2.1 t.2.2.2.2
theorem InS.w {ps : List (List Int)} {vs : List Value} {RI : List Blk} (h : InS ps vs RI) : InW vs RI := by
  obtain ⟨T, rfl, rfl, rfl, h4⟩ := h
  refine ⟨T.map (fun t => (t.1.length, t.2.1, t.1.length, t.1.flatMap encInt, t.2.2)), by simp [List.map_map, Function.comp_def], by simp [List.flatMap_map], fun t ht => ?_⟩
  obtain ⟨u, hu, rfl⟩ := List.mem_map.1 ht
  exact h4 u hu
theorem InS.bd {ps : List (List Int)} {vs : List Value} {RI : List Blk} (h : InS ps vs RI) {n : Nat} (hb : ∀ p ∈ ps, p.length ≤ n) : ∀ (j : Nat) (A : Option Addr) (m cap : Nat), vs[j]? = some (.slice A m cap) → m ≤ n := fun j A m cap hj => by
  obtain ⟨T, rfl, rfl, rfl, h4⟩ := h
  rw [List.getElem?_map, Option.map_eq_some_iff] at hj
  obtain ⟨t, ht, e⟩ := hj
  simp only [Value.slice.injEq] at e
  rw [← e.2.1]
  exact hb _ (List.mem_map.2 ⟨t, List.mem_of_getElem? ht, rfl⟩)
theorem InW.split {vs : List Value} {RI : List Blk} (h : InW vs RI) {i : Nat} (hi : i < vs.length) : ∃ m A cap xs R1 Ri R2, vs[i]? = some (.slice A m cap) ∧ RI = R1 ++ (Ri ++ R2) ∧ OwnS 3 1 A m cap xs Ri ∧ ∀ m' A' cap' xs' R', OwnS 3 1 A' m' cap' xs' R' → InW (vs.set i (.slice A' m' cap')) (R1 ++ (R' ++ R2)) := by
  obtain ⟨T, rfl, rfl, h4⟩ := h
  rw [List.length_map] at hi
  have hs : T = T.take i ++ T[i] :: T.drop (i + 1) := by simp
  refine ⟨T[i].1, T[i].2.1, T[i].2.2.1, T[i].2.2.2.1, (T.take i).flatMap (·.2.2.2.2), T[i].2.2.2.2, (T.drop (i + 1)).flatMap (·.2.2.2.2), by rw [List.getElem?_map, List.getElem?_eq_getElem hi]; rfl, ?_, h4 _ (List.getElem_mem hi), fun m' A' cap' xs' R' ho => ⟨T.take i ++ (m', A', cap', xs', R') :: T.drop (i + 1), ?_, ?_, fun t ht => ?_⟩⟩
  · conv => lhs; rw [hs, List.flatMap_append, List.flatMap_cons]
  · rw [List.set_eq_take_append_cons_drop, if_pos (by simpa using hi)]
    simp
  · simp
  · rcases List.mem_append.1 ht with ht | ht
    · exact h4 t (List.mem_of_mem_take ht)
    · rcases List.mem_cons.1 ht with rfl | ht
      · exact ho
      · exact h4 t (List.mem_of_mem_drop ht)

theorem Spoil_c (A : Option Addr) (m0 cap : Nat) (xs : List Value) (R : List Blk) (ro : Ro) (L : List (List Blk)) (hO : OwnS 3 1 A m0 cap xs R) :
    CT Try.prog 77 [.slice A m0 cap].toArray ro (R :: L) (fun v ro' L' => v = .tuple #[] ∧ ro = ro' ∧ ∃ R' xs', OwnS 3 1 A m0 cap xs' R' ∧ L' = R' :: L) := by
  refine enter Try.func77 rfl Try.ntmps77 rfl ?_
  have hml := OwnS.lenLe hO
  refine seq ?_
  refine region ?_
  refine op (y (x_assign rfl) rfl ?_)
  refine nil ?_
  refine n_then ?_
  refine block ?_
  refine loop (fun m F ro' L' => ∃ (i : Nat) (xs : List Value) (R : List Blk), (m = m0 - i) ∧ (F = [(0, .slice A m0 cap), (2, .int .i64 (i : Nat))]) ∧ (ro = ro') ∧ (L' = R :: L) ∧ (i ≤ m0) ∧ (OwnS 3 1 A m0 cap xs R)) (m0 - 0) [(0, .slice A m0 cap), (2, .int .i64 (0 : Nat))] ⟨rfl, rfl, trivial⟩ ⟨0, xs, R, rfl, rfl, rfl, rfl, by omega, hO⟩ ?_
  rintro m F ro' L' ⟨i, xs, R, rfl, rfl, rfl, rfl, hi, hO⟩
  refine seq ?_
  refine seq ?_
  refine region ?_
  refine op (y (x_move rfl) rfl ?_)
  refine op (y (x_move rfl) rfl ?_)
  refine op (y (x_lenSl sz_23 rfl) rfl ?_)
  refine op (y (x_lss rfl rfl) rfl ?_)
  refine nil ?_
  refine n_then ?_
  refine cond rfl (fun h1 => ?_) (fun h1 => ?_)
  · try simp only [decide_eq_true_eq, decide_eq_false_iff_not, beq_iff_eq, bne_iff_ne, ne_eq, beq_eq_false_iff_ne, bne_eq_false_iff_eq, Bool.not_eq_true', Bool.not_eq_false', Bool.not_eq_true, Bool.not_eq_false, Decidable.not_not, Int.not_lt, Int.not_le] at h1
    refine skip ?_
    refine n_then ?_
    refine seq ?_
    refine block ?_
    have hil : i < m0 := by omega
    have hO2 := hO
    obtain ⟨b5, off5, cur5, rfl, rfl, _, _⟩ := OwnS.at_ hO (by omega)
    refine region ?_
    refine op (y (x_move rfl) rfl ?_)
    refine op (y (x_move rfl) rfl ?_)
    refine op (y (x_indexNat sz_23 rfl rfl (by omega)) rfl ?_)
    refine op (e_storeS 0 rfl rfl ts_3 rfl rfl rfl rfl hO2 (by simp; omega) (fun _ => rfl) fun R11 hO11 => ?_)
    refine nil ?_
    refine n_in ?_
    refine n_then ?_
    refine region ?_
    refine op (y (x_move rfl) rfl ?_)
    refine op (y (x_add rfl rfl _ (wr (by omega) (by omega))) rfl ?_)
    refine op (y (x_assign rfl) rfl ?_)
    refine nil ?_
    exact round (m0 - (i + 1)) [(0, .slice _ m0 cap), (2, .int .i64 ((i + 1) : Nat))] (by omega) ⟨rfl, rfl, trivial⟩ ⟨i + 1, _, _, rfl, rfl, rfl, rfl, by omega, hO11⟩
  · try simp only [decide_eq_true_eq, decide_eq_false_iff_not, beq_iff_eq, bne_iff_ne, ne_eq, beq_eq_false_iff_ne, bne_eq_false_iff_eq, Bool.not_eq_true', Bool.not_eq_false', Bool.not_eq_true, Bool.not_eq_false, Decidable.not_not, Int.not_lt, Int.not_le] at h1
    refine exit ?_
    refine e_then ?_
    refine e_then ?_
    refine e_in ?_
    exact done' rfl (.nil) (Ro.le.refl _) (_) (⟨_, .refl _, .refl _⟩) (⟨rfl, rfl, R, xs, hO, rfl⟩)

theorem GraphOwn_c (l : List Ed) (A : Option Addr) (cap : Nat) (o : List Int) (B : Option Addr) (capo : Nat) (a b : Int) (ro : Ro) (L : List (List Blk)) (hl : Sl ro 3 encEdge A cap l) (ho : Sl ro 1 encInt B capo o) (h64 : ∀ e ∈ l, I64 e.1 ∧ I64 e.2.1 ∧ I64 e.2.2) (ho64 : ∀ e ∈ o, I64 e) (ha : I64 a) (hb : I64 b) :
    CT Try.prog 14 [.slice A l.length cap, .slice B o.length capo, .int .i64 a, .int .i64 b].toArray ro L (PV (.bool true) L) := by
  have hcap : l.length ≤ 9223372036854775807 := by have := hl.1; have := hl.2.1; unfold maxLen at this; omega
  have hcapo : o.length ≤ 9223372036854775807 := by have := ho.1; have := ho.2.1; unfold maxLen at this; omega
  refine enter Try.func14 rfl Try.ntmps14 rfl ?_
  refine seq ?_
  refine region ?_
  refine op (y (x_assign rfl) rfl ?_)
  refine nil ?_
  refine n_then ?_
  refine seq ?_
  refine region ?_
  refine op (e_call rfl fn_44 rfl rfl (GFirst_c _ _) fun v29 ro29 L29 hle29 hp29 => ?_)
  obtain ⟨rfl, rfl⟩ := hp29
  have hl1 := hl.mono hle29
  have ho1 := ho.mono hle29
  refine op (y (x_assign rfl) rfl ?_)
  refine nil ?_
  refine n_then ?_
  refine seq ?_
  refine seq ?_
  refine region ?_
  refine op (y (x_move rfl) rfl ?_)
  refine op (y (x_not rfl) rfl ?_)
  refine nil ?_
  refine n_then ?_
  refine condF rfl ?_
  refine skip ?_
  refine n_then ?_
  refine seq ?_
  refine seq ?_
  refine region ?_
  refine op (y (x_move rfl) rfl ?_)
  refine op (y (x_lenSl sz_59 rfl) rfl ?_)
  refine op (y (x_gtr rfl rfl) rfl ?_)
  refine op (y (x_move rfl) rfl ?_)
  refine bsplit 35 rfl (fun g35 => ?_) (fun g35 => ?_)
  · try simp only [decide_eq_true_eq, decide_eq_false_iff_not, beq_iff_eq, bne_iff_ne, ne_eq, beq_eq_false_iff_ne, bne_eq_false_iff_eq, Bool.not_eq_true', Bool.not_eq_false', Bool.not_eq_true, Bool.not_eq_false, Decidable.not_not, Int.not_lt, Int.not_le] at g35
    refine opN rfl rfl rfl rfl ?_
    refine opN rfl rfl rfl rfl ?_
    refine opN rfl rfl rfl rfl ?_
    refine op (y (x_pickT rfl rfl) rfl ?_)
    refine op (y (x_move rfl) rfl ?_)
    refine opN rfl rfl rfl rfl ?_
    refine opN rfl rfl rfl rfl ?_
    refine op (y (x_pickT rfl rfl) rfl ?_)
    refine nil ?_
    refine n_then ?_
    refine condT rfl ?_
    refine seq ?_
    refine region ?_
    refine op (y (x_move rfl) rfl ?_)
    refine op (y (x_assign rfl) rfl ?_)
    refine nil ?_
    refine n_then ?_
    refine ret ?_
    refine r_then ?_
    exact done rfl (.tmp rfl (.nil)) (hle29) (L) (⟨_, .refl _, .refl _⟩) (⟨rfl, rfl⟩)
  · try simp only [decide_eq_true_eq, decide_eq_false_iff_not, beq_iff_eq, bne_iff_ne, ne_eq, beq_eq_false_iff_ne, bne_eq_false_iff_eq, Bool.not_eq_true', Bool.not_eq_false', Bool.not_eq_true, Bool.not_eq_false, Decidable.not_not, Int.not_lt, Int.not_le] at g35
    refine opG rfl rfl (y (x_move rfl) rfl ?_)
    refine opG rfl rfl (y (x_lenSl sz_23 rfl) rfl ?_)
    refine opG rfl rfl (y (x_gtr rfl rfl) rfl ?_)
    refine op (y (x_pickF rfl rfl) rfl ?_)
    refine op (y (x_move rfl) rfl ?_)
    refine bsplit 40 rfl (fun g40 => ?_) (fun g40 => ?_)
    · try simp only [decide_eq_true_eq, decide_eq_false_iff_not, beq_iff_eq, bne_iff_ne, ne_eq, beq_eq_false_iff_ne, bne_eq_false_iff_eq, Bool.not_eq_true', Bool.not_eq_false', Bool.not_eq_true, Bool.not_eq_false, Decidable.not_not, Int.not_lt, Int.not_le] at g40
      refine opN rfl rfl rfl rfl ?_
      refine opN rfl rfl rfl rfl ?_
      refine op (y (x_pickT rfl rfl) rfl ?_)
      refine nil ?_
      refine n_then ?_
      refine condT rfl ?_
      refine seq ?_
      refine region ?_
      refine op (y (x_move rfl) rfl ?_)
      refine op (y (x_assign rfl) rfl ?_)
      refine nil ?_
      refine n_then ?_
      refine ret ?_
      refine r_then ?_
      exact done rfl (.tmp rfl (.nil)) (hle29) (L) (⟨_, .refl _, .refl _⟩) (⟨rfl, rfl⟩)
    · try simp only [decide_eq_true_eq, decide_eq_false_iff_not, beq_iff_eq, bne_iff_ne, ne_eq, beq_eq_false_iff_ne, bne_eq_false_iff_eq, Bool.not_eq_true', Bool.not_eq_false', Bool.not_eq_true, Bool.not_eq_false, Decidable.not_not, Int.not_lt, Int.not_le] at g40
      refine opG rfl rfl (y (x_move rfl) rfl ?_)
      refine opG rfl rfl (y (x_not rfl) rfl ?_)
      refine op (y (x_pickF rfl rfl) rfl ?_)
      refine nil ?_
      refine n_then ?_
      refine condF rfl ?_
      refine skip ?_
      refine n_then ?_
      refine seq ?_
      refine region ?_
      refine op (y (x_move rfl) rfl ?_)
      refine op (y (x_move rfl) rfl ?_)
      refine op (e_call rfl fn_45 rfl rfl (GMade_c l _ _ o _ _ _ _ hl1 ho1 (by omega) (by omega) h64 ho64) fun v48 ro48 L48 hle48 hp48 => ?_)
      obtain ⟨x, R, A2, cap2, B2, cap3, rfl, hR, hA2, hB2, hLL⟩ := hp48
      subst hLL
      obtain ⟨hs1, hs2, hs3⟩ := mkE_spec l l.length (Nat.le_refl _)
      rw [List.take_length] at hs1 hs2 hs3
      obtain ⟨hq1, hq2, hq3⟩ := mkN_spec l o o.length (Nat.le_refl _)
      rw [List.take_length] at hq1 hq2 hq3
      have hNO : ∀ u w, w ∈ Ob (mkE l) u → u ∈ mkN l o := fun u w h => by
        obtain ⟨c, hc⟩ := mem_Ob.1 h
        exact (hq3 u).2 (.inr ⟨_, (hs3 _).1 hc, .inl rfl⟩)
      have hNO2 : ∀ u w, w ∈ Ob (mkE l) u → w ∈ mkN l o := fun u w h => by
        obtain ⟨c, hc⟩ := mem_Ob.1 h
        exact (hq3 w).2 (.inr ⟨_, (hs3 _).1 hc, .inr rfl⟩)
      have hl2 := hl1.mono hle48
      have ho2 := ho1.mono hle48
      generalize mkN l o = N at *
      generalize mkE l = E at *
      have hNn := nodup_lt hq1
      have hE2 : ∀ e ∈ E, e.2.1 ∈ N := fun e he => hNO2 e.1 e.2.1 (mem_Ob.2 ⟨e.2.2, he⟩)
      refine op (y (x_move rfl) rfl ?_)
      refine op (y (x_extract rfl rfl) rfl ?_)
      refine op (y (x_extract rfl rfl) rfl ?_)
      refine op (e_alloc rfl zc_63 rfl fun b11 => ?_)
      refine op (y (x_assign rfl) rfl ?_)
      first | refine op (e_store 0 rfl rfl ts_63 rfl rfl rfl rfl rfl rfl ?_) | refine op (e_store 1 rfl rfl ts_63 rfl rfl rfl rfl rfl rfl ?_) | refine op (e_store 2 rfl rfl ts_63 rfl rfl rfl rfl rfl rfl ?_) | refine op (e_store 3 rfl rfl ts_63 rfl rfl rfl rfl rfl rfl ?_) | refine op (e_store 4 rfl rfl ts_63 rfl rfl rfl rfl rfl rfl ?_) | refine op (e_store 5 rfl rfl ts_63 rfl rfl rfl rfl rfl rfl ?_)
      refine nil ?_
      refine n_then ?_
      refine seq ?_
      refine seq ?_
      refine region ?_
      refine op (y (x_move rfl) rfl ?_)
      refine op (y (x_ptrEqNil Try.underlying60 rfl rfl) rfl ?_)
      refine nil ?_
      refine n_then ?_
      refine condF rfl ?_
      refine skip ?_
      refine n_then ?_
      refine seq ?_
      refine region ?_
      refine op (y (x_move rfl) rfl ?_)
      refine emp ?_
      refine op (e_call rfl fn_70 rfl rfl (GrMap_c x N E R _ _ hR (by simp) hq1 (by omega) (by omega) hE2 75 fn_75 [] (fun a => a) (fun _ RS => RS = []) [] rfl (Ident_cb N) (fun u hu => RelG.i64N hR hu)) fun v54 ro54 L54 hle54 hp54 => ?_)
      obtain ⟨x3, R3, RS3, rfl, hm3, hRS3, hLL54⟩ := hp54
      subst hLL54
      have hR3 := hm3 N E ⟨hNn, hR.nodupE, fun z => by simp, fun z => by simp⟩
      refine op (y (x_assign rfl) rfl ?_)
      refine nil ?_
      refine n_then ?_
      refine seq ?_
      refine seq ?_
      refine region ?_
      refine op (y (x_move rfl) rfl ?_)
      refine op (y (x_ptrEqNil Try.underlying60 rfl rfl) rfl ?_)
      refine nil ?_
      refine n_then ?_
      refine condF rfl ?_
      refine skip ?_
      refine n_then ?_
      refine seq ?_
      refine region ?_
      refine op (y (x_move rfl) rfl ?_)
      refine op (y (x_move rfl) rfl ?_)
      refine op (y (x_move rfl) rfl ?_)
      refine op (e_call rfl fn_58 rfl rfl (GrEdge_c x3 N E R3 _ _ hR3 a b 99 ha hb (by simp [I64])) fun v60 ro60 L60 hle60 hp60 => ?_)
      obtain ⟨_, R4, _, rfl, rfl⟩ := hp60
      refine drop0 ?_
      refine drop0 ?_
      refine nil ?_
      refine n_then ?_
      refine seq ?_
      refine seq ?_
      refine region ?_
      refine op (y (x_assign rfl) rfl ?_)
      refine nil ?_
      refine n_then ?_
      refine block ?_
      refine loop (fun m F ro' L' => ∃ (rd : Nat), (m = 2 - rd) ∧ (F = [(2, .int .i64 a), (10, .pointer (some ⟨x, 0, none⟩)), (11, .pointer (some ⟨b11, 0, none⟩)), (13, .int .i64 (rd : Nat))]) ∧ (L' = [(b11, .cells [.slice A2 N.length cap2, .slice B2 E.length cap3].toArray 63 (0, 0))] :: R :: L) ∧ (rd ≤ 2) ∧ (ro.le ro') ∧ (Sl ro' 1 encInt A2 cap2 N) ∧ (Sl ro' 3 encEdge B2 cap3 E)) (2 - 0) [(2, .int .i64 a), (10, .pointer (some ⟨x, 0, none⟩)), (11, .pointer (some ⟨b11, 0, none⟩)), (13, .int .i64 (0 : Nat))] ⟨rfl, rfl, rfl, rfl, trivial⟩ ⟨0, rfl, rfl, rfl, by omega, (hle29.trans hle48).trans hle54, hA2.mono hle54, hB2.mono hle54⟩ ?_
      rintro m F ro' L' ⟨rd, rfl, rfl, rfl, hrd, hle, hA3, hB3⟩
      refine seq ?_
      refine seq ?_
      refine region ?_
      refine op (y (x_move rfl) rfl ?_)
      refine op (y (x_lss rfl rfl) rfl ?_)
      refine nil ?_
      refine n_then ?_
      refine cond rfl (fun h14 => ?_) (fun h14 => ?_)
      · try simp only [decide_eq_true_eq, decide_eq_false_iff_not, beq_iff_eq, bne_iff_ne, ne_eq, beq_eq_false_iff_ne, bne_eq_false_iff_eq, Bool.not_eq_true', Bool.not_eq_false', Bool.not_eq_true, Bool.not_eq_false, Decidable.not_not, Int.not_lt, Int.not_le] at h14
        refine skip ?_
        refine n_then ?_
        refine seq ?_
        refine block ?_
        refine seq ?_
        refine region ?_
        refine op (y (x_move rfl) rfl ?_)
        refine op (e_call rfl fn_50 rfl rfl (GrNodes_c x N E R _ _ hR (by simp) (by omega) (by omega)) fun v66 ro66 L66 hle66 hp66 => ?_)
        obtain ⟨A14, cap14, Rn, rfl, hOn, rfl, rfl⟩ := hp66
        have hn14 : (srt N).length ≤ 2000 := by rw [srt_length]; omega
        generalize hxs14 : (srt N).flatMap encInt = xs14 at *
        generalize hns14 : (srt N).length = n14 at *
        refine op (y (x_assign rfl) rfl ?_)
        refine nil ?_
        refine n_then ?_
        refine seq ?_
        refine region ?_
        refine op (y (x_move rfl) rfl ?_)
        refine op (e_call rfl fn_76 rfl rfl (GrEdges_c x N E R _ _ hR (by simp) (by omega) (by omega)) fun v68 ro68 L68 hle68 hp68 => ?_)
        obtain ⟨pl, hps, hpp, A15, cap15, Re, rfl, hOe, hLL68⟩ := hp68
        subst hLL68
        have hn15 : pl.length ≤ 2000 := by rw [hpp.length_eq]; omega
        generalize hxs15 : pl.flatMap encEdge = xs15 at *
        generalize hns15 : pl.length = n15 at *
        refine op (y (x_assign rfl) rfl ?_)
        refine nil ?_
        refine n_then ?_
        refine seq ?_
        refine region ?_
        refine op (y (x_move rfl) rfl ?_)
        refine op (y (x_move rfl) rfl ?_)
        refine op (e_call rfl fn_54 rfl rfl (GrOut_c x N E R _ _ hR (by simp) (by omega) (by omega) a) fun v71 ro71 L71 hle71 hp71 => ?_)
        obtain ⟨A16, cap16, Ro_, rfl, hO16, rfl, rfl⟩ := hp71
        generalize hxs16 : (BehindR (prE E) a).flatMap encInt = xs16 at *
        generalize hns16 : (BehindR (prE E) a).length = n16 at *
        refine op (y (x_assign rfl) rfl ?_)
        refine nil ?_
        refine n_then ?_
        refine seq ?_
        refine region ?_
        refine op (y (x_move rfl) rfl ?_)
        refine op (y (x_move rfl) rfl ?_)
        refine op (e_call rfl fn_53 rfl rfl (GrReach_c x N E R _ _ hR (by simp) (by omega) (by omega) a) fun v74 ro74 L74 hle74 hp74 => ?_)
        obtain ⟨to, _, A17, cap17, Rr, rfl, hO17, rfl, rfl⟩ := hp74
        generalize hxs17 : to.flatMap encInt = xs17 at *
        generalize hns17 : to.length = n17 at *
        refine op (y (x_assign rfl) rfl ?_)
        refine nil ?_
        refine n_then ?_
        refine seq ?_
        refine region ?_
        refine op (y (x_move rfl) rfl ?_)
        refine op (e_call rfl fn_47 rfl rfl (GrCycle_c x N E R _ _ hR (by simp) hq1 (by omega) (by omega)) fun v76 ro76 L76 hle76 hp76 => ?_)
        obtain ⟨A18, cap18, Rc, rfl, hO18, hLL76⟩ := hp76
        subst hLL76
        generalize hxs18 : (cycR (Ob E) N).flatMap encInt = xs18 at *
        generalize hns18 : (cycR (Ob E) N).length = n18 at *
        refine op (y (x_assign rfl) rfl ?_)
        refine nil ?_
        refine n_then ?_
        refine seq ?_
        refine region ?_
        refine op (y (x_move rfl) rfl ?_)
        refine op (e_call rfl fn_46 rfl rfl (GrTopo_c x N E R _ _ hR (by simp) hq1 (by omega) (by omega)) fun v79 ro79 L79 hle79 hp79 => ?_)
        obtain ⟨A19, cap19, Rt, hLL79, hc79⟩ := hp79
        subst hLL79
        obtain ⟨n19, xs19, od19, rfl, hO19⟩ : ∃ (n19 : Nat) (xs19 : List Value) (od : Bool), v79 = .tuple #[.slice A19 n19 cap19, .bool od] ∧ OwnS 3 1 A19 n19 cap19 xs19 Rt := by
          rcases hc79 with ⟨h1, h2, h3⟩ | ⟨tl, h1, h2, h3, h4⟩
          · exact ⟨0, [], false, h2, h3⟩
          · exact ⟨_, _, true, h3, h4⟩
        refine op (y (x_move rfl) rfl ?_)
        refine op (y (x_extract rfl rfl) rfl ?_)
        refine op (y (x_extract rfl rfl) rfl ?_)
        refine op (y (x_assign rfl) rfl ?_)
        refine op (y (x_assign rfl) rfl ?_)
        refine nil ?_
        refine n_then ?_
        refine seq ?_
        refine region ?_
        refine op (y (x_move rfl) rfl ?_)
        refine op (e_call rfl fn_48 rfl rfl (GrParts_c x N E R _ _ hR (by simp) hq1 (by omega) (by omega)) fun v83 ro83 L83 hle83 hp83 => ?_)
        obtain ⟨ps, vs0, A21, cap21, Rp0, RI0, rfl, hO21, hIn, hps, hLL83⟩ := hp83
        subst hLL83
        have hbd := InS.bd hIn (n := 1000) (fun p hp => by
          rw [hps] at hp
          obtain ⟨u, _, rfl⟩ := parts_spec.1 p hp
          have := List.length_filter_le (mutu (Ob E) N u) N
          omega)
        have hiw := InS.w hIn
        have hpl := OwnS.lenLe hO21
        generalize hns21 : ps.length = n21 at *
        have hle83' := ((hle.trans hle68).trans hle76).trans (hle79.trans hle83)
        have hA4 := (((hA3.mono hle68).mono hle76).mono hle79).mono hle83
        have hB4 := (((hB3.mono hle68).mono hle76).mono hle79).mono hle83
        refine pull 7 rfl rfl ?_
        refine op (y (x_assign rfl) rfl ?_)
        refine nil ?_
        refine n_then ?_
        refine seq ?_
        refine region ?_
        refine op (y (x_move rfl) rfl ?_)
        refine op (e_call rfl fn_77 rfl rfl (Spoil_c A14 n14 cap14 xs14 Rn _ _ hOn) fun v85 ro85 L85 hle85 hp85 => ?_)
        obtain ⟨_, rfl, Rn2, xn2, hOn2, rfl⟩ := hp85
        refine pull 6 rfl rfl ?_
        refine nil ?_
        refine n_then ?_
        refine seq ?_
        refine region ?_
        refine op (y (x_move rfl) rfl ?_)
        refine op (e_call rfl fn_77 rfl rfl (Spoil_c A16 n16 cap16 xs16 Ro_ _ _ hO16) fun v87 ro87 L87 hle87 hp87 => ?_)
        obtain ⟨_, rfl, Ro2, xo2, hOo2, rfl⟩ := hp87
        refine drop0 ?_
        refine pull 5 rfl rfl ?_
        refine nil ?_
        refine n_then ?_
        refine seq ?_
        refine region ?_
        refine op (y (x_move rfl) rfl ?_)
        refine op (e_call rfl fn_77 rfl rfl (Spoil_c A17 n17 cap17 xs17 Rr _ _ hO17) fun v89 ro89 L89 hle89 hp89 => ?_)
        obtain ⟨_, rfl, Rr2, xr2, hOr2, rfl⟩ := hp89
        refine drop0 ?_
        refine pull 4 rfl rfl ?_
        refine nil ?_
        refine n_then ?_
        refine seq ?_
        refine region ?_
        refine op (y (x_move rfl) rfl ?_)
        refine op (e_call rfl fn_77 rfl rfl (Spoil_c A18 n18 cap18 xs18 Rc _ _ hO18) fun v91 ro91 L91 hle91 hp91 => ?_)
        obtain ⟨_, rfl, Rc2, xc2, hOc2, rfl⟩ := hp91
        refine drop0 ?_
        refine pull 3 rfl rfl ?_
        refine nil ?_
        refine n_then ?_
        refine seq ?_
        refine region ?_
        refine op (y (x_move rfl) rfl ?_)
        refine op (e_call rfl fn_77 rfl rfl (Spoil_c A19 n19 cap19 xs19 Rt _ _ hO19) fun v93 ro93 L93 hle93 hp93 => ?_)
        obtain ⟨_, rfl, Rt2, xt2, hOt2, rfl⟩ := hp93
        refine drop0 ?_
        refine pull 2 rfl rfl ?_
        refine pull 2 rfl rfl ?_
        obtain ⟨Rn, hRn⟩ : ∃ z, z = Rn2 := ⟨_, rfl⟩
        subst hRn
        refine nil ?_
        refine n_then ?_
        refine seq ?_
        refine seq ?_
        refine region ?_
        refine op (y (x_assign rfl) rfl ?_)
        refine nil ?_
        refine n_then ?_
        refine block ?_
        refine loop (fun m F rob' Lb' => ∃ (i : Nat) (vs : List Value) (Rp : List Blk) (RI : List Blk), (m = n21 - i) ∧ (F = [(2, .int .i64 a), (10, .pointer (some ⟨x, 0, none⟩)), (11, .pointer (some ⟨b11, 0, none⟩)), (13, .int .i64 (rd : Nat)), (14, .slice A14 n14 cap14), (15, .slice A15 n15 cap15), (21, .slice A21 n21 cap21), (22, .int .i64 (i : Nat))]) ∧ (ro83 = rob') ∧ (Lb' = Rp :: RI :: Rn :: Re :: [(b11, .cells [.slice A2 N.length cap2, .slice B2 E.length cap3].toArray 63 (0, 0))] :: R :: L) ∧ (i ≤ n21) ∧ (OwnS 23 1 A21 n21 cap21 vs Rp) ∧ (InW vs RI) ∧ (∀ j : Nat, i ≤ j → ∀ A m cap, vs[j]? = some (.slice A m cap) → m ≤ 1000)) (n21 - 0) [(2, .int .i64 a), (10, .pointer (some ⟨x, 0, none⟩)), (11, .pointer (some ⟨b11, 0, none⟩)), (13, .int .i64 (rd : Nat)), (14, .slice A14 n14 cap14), (15, .slice A15 n15 cap15), (21, .slice A21 n21 cap21), (22, .int .i64 (0 : Nat))] ⟨rfl, rfl, rfl, rfl, rfl, rfl, rfl, rfl, trivial⟩ ⟨0, _, _, _, rfl, rfl, rfl, rfl, by omega, hO21, hiw, fun j _ => hbd j⟩ ?_
        rintro m F rob' Lb' ⟨i, vs, Rp, RI, rfl, rfl, rfl, rfl, hi, hOp, hIw, hvb⟩
        refine seq ?_
        refine seq ?_
        refine region ?_
        refine op (y (x_move rfl) rfl ?_)
        refine op (y (x_move rfl) rfl ?_)
        refine op (y (x_lenSl sz_69 rfl) rfl ?_)
        refine op (y (x_lss rfl rfl) rfl ?_)
        refine nil ?_
        refine n_then ?_
        refine cond rfl (fun h29 => ?_) (fun h29 => ?_)
        · try simp only [decide_eq_true_eq, decide_eq_false_iff_not, beq_iff_eq, bne_iff_ne, ne_eq, beq_eq_false_iff_ne, bne_eq_false_iff_eq, Bool.not_eq_true', Bool.not_eq_false', Bool.not_eq_true, Bool.not_eq_false, Decidable.not_not, Int.not_lt, Int.not_le] at h29
          refine skip ?_
          refine n_then ?_
          refine seq ?_
          refine block ?_
          refine seq ?_
          have hil : i < n21 := by omega
          have hvl : vs.length = n21 := by rw [hOp.1]; omega
          obtain ⟨mi, Ai, capi, xi, R1, Ri, R2, hvi, rfl, hOi, hIw2⟩ := InW.split hIw (i := i) (by omega)
          have hmi := hvb i (Nat.le_refl _) _ _ _ hvi
          have hOp2 := hOp
          obtain ⟨bp, offp, curp, rfl, rfl, _, hcp⟩ := OwnS.at_ hOp (by omega)
          have hci : curp[offp + i * 1]? = some (.slice Ai mi capi) := by rw [Nat.mul_one]; exact hcp i _ hvi
          refine subL (Ri :: [(bp, .cells curp 23 (0, 0))] :: (R1 ++ R2) :: Rn :: Re :: [(b11, .cells [.slice A2 N.length cap2, .slice B2 E.length cap3].toArray 63 (0, 0))] :: R :: L) ⟨_, by
            simp only [List.flatten_cons, List.append_assoc]
            exact ((List.perm_append_comm_assoc R1 Ri _).append_left _ |>.trans (List.perm_append_comm_assoc _ Ri _)).symm, .refl _⟩ ?_
          refine region ?_
          refine op (y (x_move rfl) rfl ?_)
          refine op (y (x_move rfl) rfl ?_)
          refine op (y (x_indexNat sz_69 rfl rfl (by omega)) rfl ?_)
          refine op (y (x_load1 ag_23 rfl (Cell.own 1 rfl hci)) rfl ?_)
          refine op (e_call rfl fn_77 rfl rfl (Spoil_c Ai mi capi xi Ri _ _ hOi) fun v104 ro104 L104 hle104 hp104 => ?_)
          obtain ⟨_, rfl, Ri2, xi2, hOi2, rfl⟩ := hp104
          refine nil ?_
          refine n_then ?_
          refine region ?_
          refine op (y (x_move rfl) rfl ?_)
          refine op (y (x_move rfl) rfl ?_)
          refine op (y (x_move rfl) rfl ?_)
          refine op (y (x_move rfl) rfl ?_)
          refine op (y (x_indexNat sz_69 rfl rfl (by omega)) rfl ?_)
          refine op (y (x_load1 ag_23 rfl (Cell.own 1 rfl hci)) rfl ?_)
          refine op (e_slice1 rfl Try.underlying23 ti_3 rfl rfl (by decide) (by decide) rfl rfl rfl fun b111 => ?_)
          refine op (e_append1 0 rfl st_23 rfl rfl rfl hOi2 rfl rfl (by omega) (by omega) (fun _ => rfl) fun A112 cap112 R112 hO112 => ?_)
          refine op (y (x_indexNat sz_69 rfl rfl (by omega)) rfl ?_)
          refine op (e_storeS 1 rfl rfl ts_23 rfl rfl rfl rfl hOp2 (by simp; omega) (fun _ => rfl) fun Rp2 hOp3 => ?_)
          simp only [Nat.mul_one, List.length_singleton] at hOp3
          have hset : vs.take i ++ [Value.slice A112 (mi + 1) cap112] ++ vs.drop (i + 1) = vs.set i (.slice A112 (mi + 1) cap112) := by rw [List.set_eq_take_append_cons_drop, if_pos (by omega)]; simp
          rw [hset] at hOp3
          refine subL (Rp2 :: (R1 ++ (R112 ++ R2)) :: Rn :: Re :: [(b11, .cells [.slice A2 N.length cap2, .slice B2 E.length cap3].toArray 63 (0, 0))] :: R :: L) ⟨_, by
            simp only [List.flatten_cons, List.append_assoc]
            exact (List.perm_append_comm_assoc R1 R112 _).append_left _ |>.trans (List.perm_append_comm_assoc _ R112 _), .refl _⟩ ?_
          refine nil ?_
          refine n_in ?_
          refine n_then ?_
          refine region ?_
          refine op (y (x_move rfl) rfl ?_)
          refine op (y (x_add rfl rfl _ (wr (by omega) (by omega))) rfl ?_)
          refine op (y (x_assign rfl) rfl ?_)
          refine nil ?_
          exact round (n21 - (i + 1)) [(2, .int .i64 a), (10, .pointer (some ⟨x, 0, none⟩)), (11, .pointer (some ⟨b11, 0, none⟩)), (13, .int .i64 (rd : Nat)), (14, .slice A14 n14 cap14), (15, .slice A15 n15 cap15), (21, .slice _ n21 cap21), (22, .int .i64 ((i + 1) : Nat))] (by omega) ⟨rfl, rfl, rfl, rfl, rfl, rfl, rfl, rfl, trivial⟩ ⟨i + 1, _, _, _, rfl, rfl, rfl, rfl, by omega, hOp3, hIw2 _ _ _ _ _ hO112, fun j hj A m cap hjv => by
              rw [List.getElem?_set, if_neg (by omega)] at hjv
              exact hvb j (by omega) A m cap hjv⟩
        · try simp only [decide_eq_true_eq, decide_eq_false_iff_not, beq_iff_eq, bne_iff_ne, ne_eq, beq_eq_false_iff_ne, bne_eq_false_iff_eq, Bool.not_eq_true', Bool.not_eq_false', Bool.not_eq_true, Bool.not_eq_false, Decidable.not_not, Int.not_lt, Int.not_le] at h29
          refine exit ?_
          refine e_then ?_
          refine e_then ?_
          refine e_in ?_
          refine n_then ?_
          refine seq ?_
          refine seq ?_
          refine region ?_
          refine op (y (x_assign rfl) rfl ?_)
          refine nil ?_
          refine n_then ?_
          refine block ?_
          refine drop0 ?_
          refine drop0 ?_
          refine loop (fun m F rob' Lb' => ∃ (i : Nat) (xe : List Value) (Re : List Blk), (m = n15 - i) ∧ (F = [(2, .int .i64 a), (10, .pointer (some ⟨x, 0, none⟩)), (11, .pointer (some ⟨b11, 0, none⟩)), (13, .int .i64 (rd : Nat)), (14, .slice A14 n14 cap14), (15, .slice A15 n15 cap15), (23, .int .i64 (i : Nat))]) ∧ (ro83 = rob') ∧ (Lb' = Rn :: Re :: [(b11, .cells [.slice A2 N.length cap2, .slice B2 E.length cap3].toArray 63 (0, 0))] :: R :: L) ∧ (i ≤ n15) ∧ (OwnS 96 3 A15 n15 cap15 xe Re)) (n15 - 0) [(2, .int .i64 a), (10, .pointer (some ⟨x, 0, none⟩)), (11, .pointer (some ⟨b11, 0, none⟩)), (13, .int .i64 (rd : Nat)), (14, .slice A14 n14 cap14), (15, .slice A15 n15 cap15), (23, .int .i64 (0 : Nat))] ⟨rfl, rfl, rfl, rfl, rfl, rfl, rfl, trivial⟩ ⟨0, _, _, rfl, rfl, rfl, rfl, by omega, hOe⟩ ?_
          rintro m F rob' Lb' ⟨i, xe, Re, rfl, rfl, rfl, rfl, hi, hOe⟩
          refine seq ?_
          refine seq ?_
          refine region ?_
          refine op (y (x_move rfl) rfl ?_)
          refine op (y (x_move rfl) rfl ?_)
          refine op (y (x_lenSl sz_93 rfl) rfl ?_)
          refine op (y (x_lss rfl rfl) rfl ?_)
          refine nil ?_
          refine n_then ?_
          refine cond rfl (fun h34 => ?_) (fun h34 => ?_)
          · try simp only [decide_eq_true_eq, decide_eq_false_iff_not, beq_iff_eq, bne_iff_ne, ne_eq, beq_eq_false_iff_ne, bne_eq_false_iff_eq, Bool.not_eq_true', Bool.not_eq_false', Bool.not_eq_true, Bool.not_eq_false, Decidable.not_not, Int.not_lt, Int.not_le] at h34
            refine skip ?_
            refine n_then ?_
            refine seq ?_
            refine block ?_
            have hil : i < n15 := by omega
            have hOe2 := hOe
            obtain ⟨be, offe, cure, rfl, rfl, _, _⟩ := OwnS.at_ hOe (by omega)
            refine region ?_
            refine op (y (x_move rfl) rfl ?_)
            refine op (y (x_move rfl) rfl ?_)
            refine op (y (x_indexNat sz_93 rfl rfl (by omega)) rfl ?_)
            refine op (y (x_fieldAddr fo_96_2 rfl) rfl ?_)
            refine op (e_storeS 1 (q := i * 3 + 2) rfl rfl ts_3 rfl rfl rfl rfl hOe2 (by simp; omega) (fun _ => rfl) fun Re2 hOe3 => ?_)
            refine nil ?_
            refine n_in ?_
            refine n_then ?_
            refine region ?_
            refine op (y (x_move rfl) rfl ?_)
            refine op (y (x_add rfl rfl _ (wr (by omega) (by omega))) rfl ?_)
            refine op (y (x_assign rfl) rfl ?_)
            refine nil ?_
            exact round (n15 - (i + 1)) [(2, .int .i64 a), (10, .pointer (some ⟨x, 0, none⟩)), (11, .pointer (some ⟨b11, 0, none⟩)), (13, .int .i64 (rd : Nat)), (14, .slice A14 n14 cap14), (15, .slice _ n15 cap15), (23, .int .i64 ((i + 1) : Nat))] (by omega) ⟨rfl, rfl, rfl, rfl, rfl, rfl, rfl, trivial⟩ ⟨i + 1, _, _, rfl, rfl, rfl, rfl, by omega, hOe3⟩
          · try simp only [decide_eq_true_eq, decide_eq_false_iff_not, beq_iff_eq, bne_iff_ne, ne_eq, beq_eq_false_iff_ne, bne_eq_false_iff_eq, Bool.not_eq_true', Bool.not_eq_false', Bool.not_eq_true, Bool.not_eq_false, Decidable.not_not, Int.not_lt, Int.not_le] at h34
            refine exit ?_
            refine e_then ?_
            refine e_then ?_
            refine e_in ?_
            refine n_then ?_
            refine seq ?_
            refine region ?_
            refine op (y (x_move rfl) rfl ?_)
            refine op (e_slice1 rfl Try.underlying23 ti_3 rfl rfl (by decide) (by decide) rfl rfl rfl fun b125 => ?_)
            refine op (e_append1 0 rfl st_23 rfl rfl rfl hOn2 rfl rfl (by omega) (by omega) (fun _ => rfl) fun A126 cap126 R126 hO126 => ?_)
            refine op (y (x_assign rfl) rfl ?_)
            refine nil ?_
            refine n_then ?_
            refine seq ?_
            refine region ?_
            refine op (y (x_move rfl) rfl ?_)
            refine op (y (x_build bu_96 rfl rfl) rfl ?_)
            refine op (e_slice1 rfl Try.underlying93 ti_96 rfl rfl (by decide) (by decide) rfl rfl rfl fun b129 => ?_)
            refine op (e_append1 1 rfl st_93 rfl rfl rfl hOe rfl rfl (by omega) (by omega) (fun _ => rfl) fun A130 cap130 R130 hO130 => ?_)
            refine op (y (x_assign rfl) rfl ?_)
            refine nil ?_
            refine n_then ?_
            refine seq ?_
            have hxn : xn2.length = n14 := by have := hOn2.1; omega
            have hxe : xe.length = n15 * 3 := hOe.1
            obtain ⟨bn, offn, curn, rfl, rfl, _, hcn'⟩ := OwnS.at_ hO126 (by omega)
            obtain ⟨bv, offv, curv, rfl, rfl, _, hcv'⟩ := OwnS.at_ hO130 (by omega)
            have hcn : curn[offn + n14 * 1]? = some (.int .i64 1) := by rw [Nat.mul_one]; exact hcn' n14 _ (by rw [List.getElem?_append_right (by omega), hxn]; simp)
            have hcv : curv[offv + n15 * 3 + 2]? = some (.int .i64 1) := by
              rw [show offv + n15 * 3 + 2 = offv + (n15 * 3 + 2) by omega]
              exact hcv' _ _ (by rw [List.getElem?_append_right (by omega), hxe, show n15 * 3 + 2 - n15 * 3 = 2 by omega]; rfl)
            refine region ?_
            refine op (y (x_move rfl) rfl ?_)
            refine op (y (x_move rfl) rfl ?_)
            refine op (y (x_lenSl sz_23 rfl) rfl ?_)
            refine op (y (x_sub rfl rfl (n14 : Nat) (by rw [wr (by omega) (by omega)]; omega)) rfl ?_)
            refine op (y (x_indexNat sz_23 rfl rfl (by omega)) rfl ?_)
            refine op (y (x_load1 ag_3 rfl (Cell.own 0 rfl hcn)) rfl ?_)
            refine op (y ((x_neq rfl rfl).as (v' := .bool false) rfl) rfl ?_)
            refine op (y (x_move rfl) rfl ?_)
            refine opG rfl rfl (y (x_move rfl) rfl ?_)
            refine opG rfl rfl (y (x_move rfl) rfl ?_)
            refine opG rfl rfl (y (x_lenSl sz_93 rfl) rfl ?_)
            refine opG rfl rfl (y (x_sub rfl rfl (n15 : Nat) (by rw [wr (by omega) (by omega)]; omega)) rfl ?_)
            refine opG rfl rfl (y (x_indexNat sz_93 rfl rfl (by omega)) rfl ?_)
            refine opG rfl rfl (y (x_fieldAddr fo_96_2 rfl) rfl ?_)
            refine opG rfl rfl (y (x_load1 ag_3 rfl (Cell.own 1 rfl hcv)) rfl ?_)
            refine opG rfl rfl (y ((x_neq rfl rfl).as (v' := .bool false) rfl) rfl ?_)
            refine op (y (x_pickF rfl rfl) rfl ?_)
            refine nil ?_
            refine n_then ?_
            refine condF rfl ?_
            refine skip ?_
            refine n_in ?_
            refine n_then ?_
            refine region ?_
            refine op (y (x_move rfl) rfl ?_)
            refine op (y (x_add rfl rfl _ (wr (by omega) (by omega))) rfl ?_)
            refine op (y (x_assign rfl) rfl ?_)
            refine nil ?_
            refine drop0 ?_
            refine drop0 ?_
            exact round (2 - (rd + 1)) [(2, .int .i64 a), (10, .pointer (some ⟨x, 0, none⟩)), (11, .pointer (some ⟨b11, 0, none⟩)), (13, .int .i64 ((rd + 1) : Nat))] (by omega) ⟨rfl, rfl, rfl, rfl, trivial⟩ ⟨rd + 1, rfl, rfl, rfl, by omega, hle83', hA4, hB4⟩
      · try simp only [decide_eq_true_eq, decide_eq_false_iff_not, beq_iff_eq, bne_iff_ne, ne_eq, beq_eq_false_iff_ne, bne_eq_false_iff_eq, Bool.not_eq_true', Bool.not_eq_false', Bool.not_eq_true, Bool.not_eq_false, Decidable.not_not, Int.not_lt, Int.not_le] at h14
        refine exit ?_
        refine e_then ?_
        refine e_then ?_
        refine e_in ?_
        refine n_then ?_
        refine seq ?_
        refine region ?_
        refine op (y (x_move rfl) rfl ?_)
        refine op (e_call rfl fn_46 rfl rfl (GrTopo_c x N E R _ _ hR (by simp) hq1 (by omega) (by omega)) fun v150 ro150 L150 hle150 hp150 => ?_)
        obtain ⟨A150, cap150, R150, hLL, hc150⟩ := hp150
        subst hLL
        obtain ⟨tl, od, rfl, hO150, hod⟩ : ∃ (tl : List Int) (od : Bool), v150 = .tuple #[.slice A150 tl.length cap150, .bool od] ∧ OwnS 3 1 A150 tl.length cap150 (tl.flatMap encInt) R150 ∧ ((od = true ∧ topoR (Ob E) N = some tl ∧ tl.length = N.length) ∨ (od = false ∧ topoR (Ob E) N = none ∧ tl = [])) := by
          rcases hc150 with ⟨h1, h2, h3⟩ | ⟨tl, h1, h2, h3, h4⟩
          · exact ⟨[], false, h2, h3, .inr ⟨rfl, h1, rfl⟩⟩
          · exact ⟨tl, true, h3, h4, .inl ⟨rfl, h1, h2⟩⟩
        have htl : tl.length ≤ 1000 := by
          rcases hod with ⟨_, _, h⟩ | ⟨_, _, rfl⟩
          · omega
          · simp
        refine ufreeze fun ro150x hle150x hR150x => ?_
        have hTl := OwnS.sl hO150 (fun _ _ => rfl) hR150x
        have hA5 := (hA3.mono hle150).mono hle150x
        have hB5 := (hB3.mono hle150).mono hle150x
        refine op (y (x_move rfl) rfl ?_)
        refine op (y (x_extract rfl rfl) rfl ?_)
        refine op (y (x_extract rfl rfl) rfl ?_)
        refine op (y (x_assign rfl) rfl ?_)
        refine op (y (x_assign rfl) rfl ?_)
        refine nil ?_
        refine n_then ?_
        refine seq ?_
        refine region ?_
        refine op (y (x_loadOwn 0 [.slice A2 N.length cap2, .slice B2 E.length cap3] ag_63 rfl rfl rfl rfl) rfl ?_)
        refine op (e_call rfl fn_68 rfl rfl (GTopo_c N E A2 cap2 B2 cap3 _ _ hA5 hB5 (by omega) (by omega) hNO) fun v155 ro155 L155 hle155 hp155 => ?_)
        obtain ⟨A64, cap64, R64, hLL64, hc64⟩ := hp155
        subst hLL64
        obtain ⟨rfl, hO64⟩ : v155 = .tuple #[.slice A64 tl.length cap64, .bool od] ∧ OwnS 3 1 A64 tl.length cap64 (tl.flatMap encInt) R64 := by
          rcases hod with ⟨rfl, h1, _⟩ | ⟨rfl, h1, rfl⟩
          · rcases hc64 with ⟨h2, _⟩ | ⟨t2, h2, _, h3, h4⟩
            · rw [h1] at h2; cases h2
            · rw [h1] at h2; cases h2; exact ⟨h3, h4⟩
          · rcases hc64 with ⟨h2, h3, h4⟩ | ⟨t2, h2, _⟩
            · exact ⟨h3, h4⟩
            · rw [h1] at h2; cases h2
        refine ufreeze fun ro64x hle64x hR64 => ?_
        have hS64 := OwnS.sl hO64 (fun _ _ => rfl) hR64
        have hA8 := (hA5.mono hle155).mono hle64x
        have hB8 := (hB5.mono hle155).mono hle64x
        refine op (y (x_move rfl) rfl ?_)
        refine op (y (x_extract rfl rfl) rfl ?_)
        refine op (y (x_extract rfl rfl) rfl ?_)
        refine op (y (x_assign rfl) rfl ?_)
        refine op (y (x_assign rfl) rfl ?_)
        refine nil ?_
        refine n_then ?_
        refine seq ?_
        refine region ?_
        refine op (y (x_move rfl) rfl ?_)
        refine op (y (x_move rfl) rfl ?_)
        refine op (e_call rfl fn_39 rfl rfl (SameInts_c tl A150 cap150 tl A64 cap64 _ _ ((hTl.mono hle155).mono hle64x) hS64) fun v160 ro160 L160 hle160 hp160 => ?_)
        obtain ⟨hv160, hr160, hLL160⟩ := hp160
        subst hr160
        subst hLL160
        obtain rfl : v160 = .bool true := hv160.trans (by simp)
        refine op (y (x_assign rfl) rfl ?_)
        refine nil ?_
        refine n_then ?_
        refine seq ?_
        refine region ?_
        refine op (y (x_move rfl) rfl ?_)
        refine op (y (x_loadOwn 0 [.slice A2 N.length cap2, .slice B2 E.length cap3] ag_63 rfl rfl rfl rfl) rfl ?_)
        refine op (e_call rfl fn_65 rfl rfl (GIs_c x N E R A2 cap2 B2 cap3 _ _ hR (by simp) hq1 hs1 hA8 hB8 (by omega) (by omega)) fun v163 ro163 L163 hle163 hp163 => ?_)
        obtain ⟨rfl, hLL163⟩ := hp163
        subst hLL163
        refine op (y (x_move rfl) rfl ?_)
        refine opG rfl rfl (y (x_move rfl) rfl ?_)
        refine op (y (x_pickT rfl rfl) rfl ?_)
        refine op (y (x_move rfl) rfl ?_)
        refine opG rfl rfl (y (x_move rfl) rfl ?_)
        refine opG rfl rfl (y (x_move rfl) rfl ?_)
        refine opG rfl rfl (y ((x_beql Try.underlying4 rfl rfl).as (v' := .bool true) (by simp)) rfl ?_)
        refine op (y (x_pickT rfl rfl) rfl ?_)
        refine op (y (x_assign rfl) rfl ?_)
        refine nil ?_
        refine n_then ?_
        refine ret ?_
        refine drop0 ?_
        refine drop0 ?_
        exact done rfl (.tmp rfl (.nil)) ((((((hle).trans hle150).trans hle150x).trans hle155).trans hle64x).trans hle163) (L) (⟨_, .refl _, .refl _⟩) (⟨rfl, rfl⟩)

end Go.Proofs.Ytlmeblhcipkgmaa
