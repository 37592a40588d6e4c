/- Histories that are cut, in plain words: what is left is well-formed. -/
import Derived.Test.YtijafcilfefafaaDoorV20
namespace Go.Proofs.YtijafcilfefafaaDoor
open Go Go.U
set_option maxRecDepth 20000
set_option linter.unusedSimpArgs false
set_option linter.unusedVariables false

inductive F2 (R : St → St → Prop) : List St → List St → Prop where
  | nil : F2 R [] []
  | cons {a b : St} {l m : List St} : R a b → F2 R l m → F2 R (a :: l) (b :: m)
theorem F2.append {R : St → St → Prop} {a b c d : List St} (h : F2 R a b) (g : F2 R c d) : F2 R (a ++ c) (b ++ d) := by
  induction h with
  | nil => exact g
  | cons h1 _ ih => exact .cons h1 ih
theorem F2.split {R : St → St → Prop} : ∀ {A B : List St} {a : St} {m : List St}, F2 R (A ++ a :: B) m → ∃ A' a' B', m = A' ++ a' :: B' ∧ F2 R A A' ∧ R a a' ∧ F2 R B B'
  | [], B, a, m, h => by
    cases h with
    | cons h1 h2 => exact ⟨[], _, _, rfl, .nil, h1, h2⟩
  | x :: A, B, a, m, h => by
    cases h with
    | cons h1 h2 =>
      obtain ⟨A', a', B', rfl, k1, k2, k3⟩ := F2.split h2
      exact ⟨_ :: A', a', B', rfl, .cons h1 k1, k2, k3⟩
theorem F2.right {R : St → St → Prop} {l m : List St} (h : F2 R l m) : ∀ t ∈ m, ∃ s ∈ l, R s t := by
  induction h with
  | nil => intro t ht; cases ht
  | cons h1 _ ih =>
    intro t ht
    rcases List.mem_cons.1 ht with rfl | ht
    · exact ⟨_, by simp, h1⟩
    · obtain ⟨s, hs, hr⟩ := ih t ht
      exact ⟨s, by simp [hs], hr⟩
theorem F2.map_eq {R : St → St → Prop} {α : Type} {g : St → α} (hg : ∀ s t, R s t → g s = g t) {l m : List St} (h : F2 R l m) : l.map g = m.map g := by
  induction h with
  | nil => rfl
  | cons h1 _ ih => rw [List.map_cons, List.map_cons, hg _ _ h1, ih]
theorem F2.len {R : St → St → Prop} {l m : List St} (h : F2 R l m) : l.length = m.length := by
  induction h with
  | nil => rfl
  | cons _ _ ih => simp [ih]
theorem F2.at_ {R : St → St → Prop} {l m : List St} (h : F2 R l m) : ∀ (i : Nat) (s : St), l[i]? = some s → ∃ t, m[i]? = some t ∧ R s t := by
  induction h with
  | nil => intro i s hs; simp at hs
  | cons h1 _ ih =>
    intro i s hs
    cases i with
    | zero => simp at hs; subst hs; exact ⟨_, by simp, h1⟩
    | succ i => exact ih i s (by simpa using hs)
theorem F2.mono {R R' : St → St → Prop} {l m : List St} (h : F2 R l m) (hr : ∀ s ∈ l, ∀ t, R s t → R' s t) : F2 R' l m := by
  induction h with
  | nil => exact .nil
  | cons h1 _ ih => exact .cons (hr _ (by simp) _ h1) (ih (fun s hs => hr s (by simp [hs])))
theorem F2.refl {R : St → St → Prop} : ∀ {l : List St}, (∀ s ∈ l, R s s) → F2 R l l
  | [], _ => .nil
  | a :: l, h => .cons (h a (by simp)) (F2.refl (fun s hs => h s (by simp [hs])))
def ops (s : St) : List Int := s.tx.ds.map (·.op)
structure Alike (s t : St) : Prop where
  id : s.tx.id = t.tx.id
  th : s.tx.thread = t.tx.thread
  st : s.tx.status = t.tx.status
  sd : s.stand = t.stand
  op : ops s = ops t
theorem Alike.refl (s : St) : Alike s s := ⟨rfl, rfl, rfl, rfl, rfl⟩
def newS (e : Ev) (n : Nat) : St := ⟨⟨e.tx, e.thread, 1, n, -1, -1, []⟩, 1⟩
theorem feedM_beg' {os : List Ob} {n : Nat} {sts : List St} {e : Ev} (hn : n ≠ 400) (hok : EvOk e) (hin : EvIn os e) (hk : e.kind = 1) : feedM os n sts e = if (∃ s ∈ sts, s.tx.id = e.tx) ∨ (∃ s ∈ sts, s.tx.thread = e.thread ∧ s.stand ≠ 5) then none else some (sts ++ [newS e n]) := feedM_beg hn hok hin hk
theorem feedM_at' {os : List Ob} {n : Nat} {S1 S2 : List St} {s : St} {e : Ev} (hp : (S1 ++ s :: S2).Pairwise (fun a b => a.tx.id ≠ b.tx.id)) (hn : n ≠ 400) (hok : EvOk e) (hin : EvIn os e) (hk : e.kind ≠ 1) (hid : s.tx.id = e.tx) : feedM os n (S1 ++ s :: S2) e = if s.stand ∈ fromM e.kind then (moveM s e n).map (fun s' => S1 ++ s' :: S2) else none := by
  rw [feedM_oth hn hok hin hk, ← hid, find_at hp]
  simp only
  congr 1
  congr 1
  funext s'
  exact map_at hp
theorem feed_ok {os : List Ob} {n : Nat} {sts sts2 : List St} {e : Ev} (h : feedM os n sts e = some sts2) : n ≠ 400 ∧ EvOk e ∧ EvIn os e := by
  by_cases hg : n = 400 ∨ ¬ EvOk e ∨ ¬ EvIn os e
  · rw [feedM_many hg] at h; cases h
  · exact ⟨fun x => hg (.inl x), Classical.byContradiction fun x => hg (.inr (.inl x)), Classical.byContradiction fun x => hg (.inr (.inr x))⟩
/-- what an accepted event does -/
theorem feed_cases {os : List Ob} {n : Nat} {sts sts2 : List St} {e : Ev} (hI : sts.Pairwise (fun a b => a.tx.id ≠ b.tx.id)) (h : feedM os n sts e = some sts2) :
    (e.kind = 1 ∧ (∀ s ∈ sts, s.tx.id ≠ e.tx) ∧ (∀ s ∈ sts, s.stand ≠ 5 → s.tx.thread ≠ e.thread) ∧ sts2 = sts ++ [newS e n]) ∨
    (e.kind ≠ 1 ∧ ∃ S1 s S2 s2, sts = S1 ++ s :: S2 ∧ s.tx.id = e.tx ∧ s.stand ∈ fromM e.kind ∧ moveM s e n = some s2 ∧ sts2 = S1 ++ s2 :: S2) := by
  obtain ⟨hn, hok, hin⟩ := feed_ok h
  by_cases hk : e.kind = 1
  · rw [feedM_beg' hn hok hin hk] at h
    split at h
    · cases h
    · rename_i hno
      cases h
      exact .inl ⟨hk, fun s hs he => hno (.inl ⟨s, hs, he⟩), fun s hs hl he => hno (.inr ⟨s, hs, he, hl⟩), rfl⟩
  · cases hf : sts.find? (fun s => decide (s.tx.id = e.tx)) with
    | none => rw [feedM_oth hn hok hin hk, hf] at h; cases h
    | some s =>
      obtain ⟨S1, S2, rfl, hid⟩ := find_split hf
      rw [feedM_at' hI hn hok hin hk hid] at h
      split at h
      · rename_i hst
        cases hm : moveM s e n with
        | none => rw [hm] at h; cases h
        | some s2 => rw [hm] at h; cases h; exact .inr ⟨hk, S1, s, S2, s2, rfl, hid, hst, hm, rfl⟩
      · cases h
structure Rel (R : St → St → Prop) : Prop where
  id : ∀ s t, R s t → s.tx.id = t.tx.id
  th : ∀ s t, R s t → s.tx.thread = t.tx.thread
  lv : ∀ s t, R s t → t.stand ≠ 5 → s.stand ≠ 5
theorem ids_stay {os : List Ob} {n : Nat} {sts sts2 : List St} {e : Ev} (hI : sts.Pairwise (fun a b => a.tx.id ≠ b.tx.id)) (h : feedM os n sts e = some sts2) {i : Int} (hi : ∃ s ∈ sts, s.tx.id = i) : ∃ s ∈ sts2, s.tx.id = i := by
  obtain ⟨s, hs, rfl⟩ := hi
  rcases feed_cases hI h with ⟨_, _, _, rfl⟩ | ⟨_, S1, s0, S2, s2, rfl, _, _, hm, rfl⟩
  · exact ⟨s, by simp [hs], rfl⟩
  · simp only [List.mem_append, List.mem_cons] at hs
    rcases hs with hs | rfl | hs
    · exact ⟨s, by simp [hs], rfl⟩
    · exact ⟨s2, by simp, (moveM_facts hm).1⟩
    · exact ⟨s, by simp [hs], rfl⟩
/-- an event that both take alike -/
def Steps1 (R : St → St → Prop) (e : Ev) : Prop := ∀ (s t s2 : St) (n n' : Int), R s t → s.tx.id = e.tx → s.stand ∈ fromM e.kind → moveM s e n = some s2 → t.stand ∈ fromM e.kind ∧ ∃ t2, moveM t e n' = some t2 ∧ R s2 t2
theorem pw_ids {R : St → St → Prop} (hR : Rel R) {l m : List St} (h : F2 R l m) (hp : l.Pairwise (fun a b => a.tx.id ≠ b.tx.id)) : m.Pairwise (fun a b => a.tx.id ≠ b.tx.id) := by
  have e := h.map_eq (g := fun s => s.tx.id) hR.id
  have h1 : (l.map (fun s => s.tx.id)).Pairwise (· ≠ ·) := List.pairwise_map.2 hp
  rw [e] at h1
  exact List.pairwise_map.1 h1
theorem feed_sim {R : St → St → Prop} (hR : Rel R) (q : Int → Bool) {os : List Ob} {n n' : Nat} {sts sts2 sts' : List St} {e : Ev} (hI : sts.Pairwise (fun a b => a.tx.id ≠ b.tx.id)) (h : feedM os n sts e = some sts2) (hn' : n' ≠ 400) (hF : F2 R (sts.filter (fun s => q s.tx.id)) sts') (hq : q e.tx = true) (Kn : List Int) (hK : ∀ i ∈ Kn, ∃ s ∈ sts, s.tx.id = i) (hnew : ∀ (e : Ev) (n n' : Nat), e.tx ∉ Kn → R (newS e n) (newS e n')) (hs : e.kind ≠ 1 → Steps1 R e) :
    ∃ sts2', feedM os n' sts' e = some sts2' ∧ F2 R (sts2.filter (fun s => q s.tx.id)) sts2' := by
  obtain ⟨_, hok, hin⟩ := feed_ok h
  have hp := pw_ids hR hF (hI.filter _)
  rcases feed_cases hI h with ⟨hk, h1, h2, rfl⟩ | ⟨hk, S1, s, S2, s2, rfl, hid, hst, hm, rfl⟩
  · refine ⟨sts' ++ [newS e n'], ?_, ?_⟩
    · rw [feedM_beg' hn' hok hin hk, if_neg]
      rintro (⟨t, ht, he⟩ | ⟨t, ht, he, hl⟩)
      · obtain ⟨s, hs1, hr⟩ := hF.right t ht
        exact h1 s (List.mem_filter.1 hs1).1 ((hR.id _ _ hr).trans he)
      · obtain ⟨s, hs1, hr⟩ := hF.right t ht
        exact h2 s (List.mem_filter.1 hs1).1 (hR.lv _ _ hr hl) ((hR.th _ _ hr).trans he)
    · rw [List.filter_append]
      refine hF.append ?_
      have : q (newS e n).tx.id = true := hq
      rw [List.filter_cons_of_pos (by simpa using this)]
      exact .cons (hnew e n n' (fun hx => by obtain ⟨s, hs1, he⟩ := hK _ hx; exact h1 s hs1 he)) .nil
  · have hqs : q s.tx.id = true := by rw [hid]; exact hq
    have hq2 : q s2.tx.id = true := by rw [(moveM_facts hm).1]; exact hqs
    rw [List.filter_append, List.filter_cons_of_pos (p := fun s : St => q s.tx.id) hqs] at hF
    obtain ⟨A', t, B', rfl, k1, k2, k3⟩ := hF.split
    obtain ⟨ht, t2, hm2, hr2⟩ := hs hk s t s2 n n' k2 hid hst hm
    refine ⟨A' ++ t2 :: B', ?_, ?_⟩
    · rw [feedM_at' hp hn' hok hin hk ((hR.id _ _ k2).symm.trans hid), if_pos ht, hm2]; rfl
    · rw [List.filter_append, List.filter_cons_of_pos (p := fun s : St => q s.tx.id) hq2]
      exact k1.append (.cons hr2 k3)
theorem feed_drop {R : St → St → Prop} (q : Int → Bool) {os : List Ob} {n : Nat} {sts sts2 sts' : List St} {e : Ev} (hI : sts.Pairwise (fun a b => a.tx.id ≠ b.tx.id)) (h : feedM os n sts e = some sts2) (hF : F2 R (sts.filter (fun s => q s.tx.id)) sts') (hq : q e.tx = false) : F2 R (sts2.filter (fun s => q s.tx.id)) sts' := by
  rcases feed_cases hI h with ⟨hk, h1, h2, rfl⟩ | ⟨hk, S1, s, S2, s2, rfl, hid, hst, hm, rfl⟩
  · rw [List.filter_append]
    have : ¬ q (newS e n).tx.id = true := by show ¬ q e.tx = true; rw [hq]; simp
    rw [List.filter_cons_of_neg (by simpa using this), List.filter_nil, List.append_nil]
    exact hF
  · have hqs : ¬ q s.tx.id = true := by rw [hid, hq]; simp
    have hq2 : ¬ q s2.tx.id = true := by rw [(moveM_facts hm).1]; exact hqs
    rw [List.filter_append, List.filter_cons_of_neg (p := fun s : St => q s.tx.id) hqs] at hF
    rw [List.filter_append, List.filter_cons_of_neg (p := fun s : St => q s.tx.id) hq2]
    exact hF
theorem run_sim {R : St → St → Prop} (hR : Rel R) (q : Int → Bool) (Kn : List Int) (hnew : ∀ (e : Ev) (n n' : Nat), e.tx ∉ Kn → R (newS e n) (newS e n')) {os : List Ob} : ∀ (es : List Ev) (n n' : Nat) (sts stf sts' : List St), Inv n sts → runM os n sts es = some stf → n' ≤ n → n + es.length ≤ 400 → F2 R (sts.filter (fun s => q s.tx.id)) sts' → (∀ i ∈ Kn, ∃ s ∈ sts, s.tx.id = i) → (∀ e ∈ es, q e.tx = true → e.kind ≠ 1 → Steps1 R e) →
    ∃ stf', runM os n' sts' (es.filter (fun e => q e.tx)) = some stf' ∧ F2 R (stf.filter (fun s => q s.tx.id)) stf'
  | [], n, n', sts, stf, sts', _, h, _, _, hF, _, _ => by
    simp only [runM, Option.some.injEq] at h
    subst h
    exact ⟨sts', rfl, hF⟩
  | e :: es, n, n', sts, stf, sts', hI, h, hle, hlen, hF, hK, hs => by
    simp only [List.length_cons] at hlen
    simp only [runM] at h
    cases hf : feedM os n sts e with
    | none => rw [hf] at h; cases h
    | some sts2 =>
      rw [hf] at h
      simp only at h
      by_cases hq : q e.tx = true
      · obtain ⟨sts2', h1, h2⟩ := feed_sim hR q hI.ids hf (n' := n') (by omega) hF hq Kn hK hnew (hs e (by simp) hq)
        obtain ⟨stf', k1, k2⟩ := run_sim hR q Kn hnew es (n + 1) (n' + 1) sts2 stf sts2' (hI.feed hf) h (by omega) (by omega) h2 (fun i hi => ids_stay hI.ids hf (hK i hi)) (fun x hx => hs x (by simp [hx]))
        refine ⟨stf', ?_, k2⟩
        rw [List.filter_cons_of_pos (by simpa using hq)]
        simp only [runM, h1]
        exact k1
      · have hq' : q e.tx = false := by simpa using hq
        have h2 := feed_drop q hI.ids hf hF hq'
        obtain ⟨stf', k1, k2⟩ := run_sim hR q Kn hnew es (n + 1) n' sts2 stf sts' (hI.feed hf) h (by omega) (by omega) h2 (fun i hi => ids_stay hI.ids hf (hK i hi)) (fun x hx => hs x (by simp [hx]))
        refine ⟨stf', ?_, k2⟩
        rw [List.filter_cons_of_neg (by simpa using hq)]
        exact k1
/-! ### some transactions alone -/
theorem ops_last {l : List De} {d d2 : De} (h : l.getLast? = some d) (ho : d2.op = d.op) : (l.dropLast ++ [d2]).map (·.op) = l.map (·.op) := by
  obtain ⟨ini, rfl⟩ : ∃ ini, l = ini ++ [d] := by
    rw [List.getLast?_eq_some_iff] at h
    exact h
  simp [ho]
theorem last_op {l m : List De} {d : De} (h : l.getLast? = some d) (ho : l.map (·.op) = m.map (·.op)) : ∃ d2, m.getLast? = some d2 ∧ d2.op = d.op := by
  have e : (l.map (·.op)).getLast? = (m.map (·.op)).getLast? := by rw [ho]
  rw [List.getLast?_map, List.getLast?_map, h] at e
  cases hm : m.getLast? with
  | none => rw [hm] at e; cases e
  | some d2 => rw [hm] at e; simp at e; exact ⟨d2, rfl, e.symm⟩
theorem alike_step (e : Ev) : Steps1 Alike e := by
  intro s t s2 n n' hA hid hst hm
  refine ⟨by rw [← hA.sd]; exact hst, ?_⟩
  unfold moveM at hm ⊢
  split at hm
  · rename_i hk
    rw [if_pos hk]
    cases hm
    exact ⟨_, rfl, hA.id, hA.th, hA.st, rfl, by simp [ops]; exact hA.op⟩
  · rename_i hk
    rw [if_neg hk]
    split at hm
    · rename_i hk3
      rw [if_pos hk3]
      split at hm
      · cases hm
      · rename_i d hd
        split at hm
        · rename_i hft
          cases hm
          obtain ⟨d2, hd2, ho⟩ := last_op hd hA.op
          rw [hd2]
          simp only
          rw [ho, if_pos hft]
          exact ⟨_, rfl, hA.id, hA.th, hA.st, rfl, (ops_last (d2 := { d with ret := e.ret, got := e.val, back := n }) hd rfl).trans (hA.op.trans (ops_last (d2 := { d2 with op := d.op, ret := e.ret, got := e.val, back := n' }) hd2 ho.symm).symm)⟩
        · cases hm
    · rename_i hk3
      rw [if_neg hk3]
      split at hm
      · rename_i h4; rw [if_pos h4]; cases hm; exact ⟨_, rfl, hA.id, hA.th, rfl, rfl, hA.op⟩
      · rename_i h4; rw [if_neg h4]
        split at hm
        · rename_i h7; rw [if_pos h7]; cases hm; exact ⟨_, rfl, hA.id, hA.th, hA.st, rfl, hA.op⟩
        · rename_i h7; rw [if_neg h7]
          split at hm
          · rename_i h5; rw [if_pos h5]; cases hm; exact ⟨_, rfl, hA.id, hA.th, rfl, rfl, hA.op⟩
          · rename_i h5; rw [if_neg h5]; cases hm; exact ⟨_, rfl, hA.id, hA.th, rfl, rfl, hA.op⟩
theorem alike_rel : Rel Alike := ⟨fun _ _ h => h.id, fun _ _ h => h.th, fun _ _ h hl => by rw [h.sd]; exact hl⟩
theorem takenM_some {h : Hi} {sts : List St} (ht : takenM h = some sts) : HV h ∧ runM h.os 0 [] h.es = some sts := by
  unfold takenM at ht
  split at ht
  · rename_i hv; exact ⟨hv, ht⟩
  · cases ht
theorem taken_of {h : Hi} {sts : List St} (hv : HV h) (hr : runM h.os 0 [] h.es = some sts) : takenM h = some sts := by unfold takenM; rw [if_pos hv]; exact hr
theorem hv_sub {h g : Hi} (hv : HV h) (ho : g.os = h.os) (hs : g.es.Sublist h.es) : HV g := by
  obtain ⟨os, es⟩ := g
  simp only at ho hs
  subst ho
  exact ⟨hv.1, Nat.le_trans hs.length_le hv.2.1, hv.2.2.1, fun e he => hv.2.2.2 e (hs.subset he)⟩
theorem taken_on {h : Hi} {sts : List St} (ht : takenM h = some sts) (q : Int → Bool) : ∃ m, takenM (onT h q) = some m ∧ F2 Alike (sts.filter (fun s => q s.tx.id)) m := by
  obtain ⟨hv, hr⟩ := takenM_some ht
  obtain ⟨m, k1, k2⟩ := run_sim alike_rel q [] (fun _ _ _ _ => ⟨rfl, rfl, rfl, rfl, rfl⟩) h.es 0 0 [] sts [] Inv.nil hr (Nat.le_refl _) (by have := hv.2.1; omega) .nil (fun _ hi => by cases hi) (fun e _ _ _ => alike_step e)
  exact ⟨m, taken_of (hv_sub hv rfl List.filter_sublist) k1, k2⟩
theorem taken_wo {h : Hi} {sts : List St} (ht : takenM h = some sts) (tx : Int) : ∃ m, takenM (woT h tx) = some m ∧ F2 Alike (sts.filter (fun s => decide (s.tx.id ≠ tx))) m := by
  have := taken_on ht (fun t => decide (t ≠ tx))
  exact this
theorem taken_pre {h : Hi} {sts : List St} (ht : takenM h = some sts) (n : Int) : (takenM (pre h n)).isSome = true := by
  obtain ⟨hv, hr⟩ := takenM_some ht
  cases hp : runM h.os 0 [] (h.es.take (cutN n h.es.length)) with
  | none => rw [runM_none hp] at hr; cases hr
  | some s => rw [taken_of (h := pre h n) (hv_sub (g := pre h n) hv rfl (List.take_sublist _ _)) hp]; rfl
theorem taken_comm {h : Hi} {sts : List St} (ht : takenM h = some sts) : ∃ r, commM h = some r ∧ (takenM r).isSome = true := by
  unfold commM
  rw [ht]
  obtain ⟨m, h1, _⟩ := taken_on ht (fun tx => match findM (sts.map (·.tx)) tx with
    | none => false
    | some i => match (sts.map (·.tx))[i]? with
      | none => false
      | some t => decide (t.status = 3))
  exact ⟨_, rfl, (congrArg Option.isSome h1).trans rfl⟩
/-! ### without the last objects -/
theorem feedM_os {os os' : List Ob} {n : Nat} {sts : List St} {e : Ev} (h : EvIn os e ↔ EvIn os' e) : feedM os n sts e = feedM os' n sts e := by
  unfold feedM
  have : (n = 400 ∨ ¬ EvOk e ∨ ¬ EvIn os e) ↔ (n = 400 ∨ ¬ EvOk e ∨ ¬ EvIn os' e) := by rw [h]
  simp only [this]
theorem runM_os {os os' : List Ob} : ∀ (es : List Ev) (n : Nat) (sts : List St), (∀ e ∈ es, (EvIn os e ↔ EvIn os' e)) → runM os n sts es = runM os' n sts es
  | [], n, sts, _ => rfl
  | e :: es, n, sts, h => by
    simp only [runM]
    rw [feedM_os (h e (by simp))]
    cases feedM os' n sts e with
    | none => rfl
    | some s => exact runM_os es (n + 1) s (fun x hx => h x (by simp [hx]))
theorem many_ge : ∀ (l : List Ev) (m0 : Nat) (e : Ev), e ∈ l → e.kind = 2 → (e.obj + 1).toNat ≤ l.foldl (fun m e => if e.kind = 2 then max m (e.obj + 1).toNat else m) m0
  | x :: l, m0, e, he, hk => by
    have mono : ∀ (l : List Ev) (m0 : Nat), m0 ≤ l.foldl (fun m e => if e.kind = 2 then max m (e.obj + 1).toNat else m) m0 := by
      intro l
      induction l with
      | nil => intro m0; exact Nat.le_refl _
      | cons a l ih =>
        intro m0
        refine Nat.le_trans ?_ (ih _)
        show m0 ≤ if a.kind = 2 then max m0 (a.obj + 1).toNat else m0
        split <;> omega
    rw [List.foldl_cons]
    rcases List.mem_cons.1 he with rfl | he
    · refine Nat.le_trans ?_ (mono l _)
      rw [if_pos hk]; omega
    · exact many_ge l _ e he hk
theorem taken_spare {h : Hi} {sts : List St} (ht : takenM h = some sts) : (takenM (spareH h)).isSome = true := by
  obtain ⟨hv, hr⟩ := takenM_some ht
  have hin : ∀ e ∈ h.es, (EvIn (h.os.take (manyN h.es)) e ↔ EvIn h.os e) := by
    intro e he
    have hb := (hv.2.2.2 e he)
    constructor
    · exact fun _ => hb.2
    · intro h1 hk
      obtain ⟨h2, h3⟩ := h1 hk
      have hg := many_ge h.es 0 e he hk
      have ho := hb.1.obj hk
      have hlt : e.obj.toNat < manyN h.es := by unfold manyN; omega
      refine ⟨by rw [List.length_take]; omega, fun o hoo => h3 o ?_⟩
      rw [List.getElem?_take, if_pos hlt] at hoo
      exact hoo
  have hv2 : HV (spareH h) := by
    refine ⟨Nat.le_trans (List.length_take_le' _ _) hv.1, hv.2.1, fun o ho => hv.2.2.1 o (List.mem_of_mem_take ho), fun e he => ⟨(hv.2.2.2 e he).1, (hin e he).2 (hv.2.2.2 e he).2⟩⟩
  have hr2 : runM (spareH h).os 0 [] (spareH h).es = some sts := by
    show runM (h.os.take (manyN h.es)) 0 [] h.es = some sts
    rw [runM_os h.es 0 [] hin]; exact hr
  rw [taken_of hv2 hr2]; rfl
/-! ### sub-histories -/
theorem sub_pre (h : Hi) (n : Int) : SubH (pre h n) h := ⟨rfl, List.take_sublist _ _⟩
theorem sub_wo (h : Hi) (a : Int) : SubH (woT h a) h := ⟨rfl, List.filter_sublist⟩
theorem sub_trans {x y z : Hi} (h : SubH x y) (g : SubH y z) : SubH x z := ⟨h.1.trans g.1, h.2.trans g.2⟩
theorem sub_refl (h : Hi) : SubH h h := ⟨rfl, List.Sublist.refl _⟩
theorem sub_anti {x y : Hi} (h : SubH x y) (g : SubH y x) : x = y := hi_iff.2 ⟨h.1, h.2.eq_of_length (Nat.le_antisymm h.2.length_le g.2.length_le)⟩
theorem kp_sub (p : Nat → Ev → Bool) (es : List Ev) : (kp p es).Sublist es := by
  unfold kp
  have h1 : (es.zipIdx.filter (fun x => p x.2 x.1)).Sublist es.zipIdx := List.filter_sublist
  have := h1.map (·.1)
  rwa [List.zipIdx_map_fst] at this
theorem sub_kp {h r : Hi} {p : Nat → Ev → Bool} (e : some (⟨h.os, kp p h.es⟩ : Hi) = some r) : SubH r h := by
  cases e
  exact ⟨rfl, kp_sub p h.es⟩
theorem sub_drop {h r : Hi} {tx k : Int} (hd : dropM h tx k = some r) : SubH r h := by
  unfold dropM at hd
  repeat' split at hd
  all_goals first | (cases hd; done) | exact sub_kp hd

end Go.Proofs.YtijafcilfefafaaDoor
