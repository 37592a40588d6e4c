/- A history without a deed, in plain words: it is well-formed. -/
import Derived.Test.YtijafcilfefafaaDoorV25
namespace Go.Proofs.YtijafcilfefafaaDoor
open Go Go.U
set_option maxRecDepth 20000
set_option linter.unusedSimpArgs false
set_option linter.unusedVariables false

/-- an answer of a transaction -/
def isRet (id : Int) (e : Ev) : Prop := e.kind = 3 ∧ e.tx = id
/-- what a deed tells of the events -/
def DJ (es : List Ev) (m : Nat) (id : Int) (d : De) : Prop := ∃ pa : Nat, d.at_ = (pa : Int) ∧ pa < m ∧ (∃ e, es[pa]? = some e ∧ e.kind = 2 ∧ e.tx = id) ∧
  ((d.back = -1 ∧ ∀ j : Nat, pa < j → j < m → ∀ e, es[j]? = some e → ¬ isRet id e) ∨
   (∃ pb : Nat, d.back = (pb : Int) ∧ pa < pb ∧ pb < m ∧ (∃ e, es[pb]? = some e ∧ isRet id e) ∧ ∀ j : Nat, pa < j → j < pb → ∀ e, es[j]? = some e → ¬ isRet id e))
theorem DJ.step {es : List Ev} {m : Nat} {id : Int} {d : De} {e : Ev} (h : DJ es m id d) (he : es[m]? = some e) (hn : d.back ≠ -1 ∨ ¬ isRet id e) : DJ es (m + 1) id d := by
  obtain ⟨pa, h1, h2, h3, h4⟩ := h
  refine ⟨pa, h1, by omega, h3, ?_⟩
  rcases h4 with ⟨h5, h6⟩ | ⟨pb, h5, h6, h7, h8⟩
  · refine .inl ⟨h5, fun j j1 j2 e' hj => ?_⟩
    rcases Nat.lt_or_ge j m with hlt | hge
    · exact h6 j j1 hlt e' hj
    · obtain rfl : j = m := by omega
      rw [he] at hj; cases hj
      exact hn.resolve_left (fun x => x h5)
  · exact .inr ⟨pb, h5, h6, by omega, h8⟩
structure JS (es : List Ev) (m : Nat) (s : St) : Prop where
  dj : ∀ d ∈ s.tx.ds, DJ es m s.tx.id d
  b1 : s.stand ≠ 2 → s.stand ≠ 5 → ∀ d ∈ s.tx.ds, d.back ≠ -1
  b2 : s.stand = 2 → ∃ ini d, s.tx.ds = ini ++ [d] ∧ d.back = -1 ∧ ∀ d' ∈ ini, d'.back ≠ -1
theorem JS.other {es : List Ev} {m : Nat} {s : St} {e : Ev} (h : JS es m s) (he : es[m]? = some e) (hn : ¬ isRet s.tx.id e) : JS es (m + 1) s :=
  ⟨fun d hd => (h.dj d hd).step he (.inr hn), h.b1, h.b2⟩
theorem JS.move {es : List Ev} {m : Nat} {s s2 : St} {e : Ev} (h : JS es m s) (he : es[m]? = some e) (hid : s.tx.id = e.tx) (hst : s.stand ∈ fromM e.kind) (hm : moveM s e m = some s2) (hk1 : e.kind ≠ 1) : JS es (m + 1) s2 := by
  unfold moveM at hm
  unfold fromM at hst
  split at hm
  · rename_i hk
    simp only [hk] at hst
    have hs1 : s.stand = 1 := by simpa using hst
    cases hm
    have hb := h.b1 (by omega) (by omega)
    refine ⟨fun d hd => ?_, fun h2 => absurd rfl h2, fun _ => ⟨s.tx.ds, _, rfl, rfl, hb⟩⟩
    rcases List.mem_append.1 hd with hd | hd
    · exact (h.dj d hd).step he (.inl (hb d hd))
    · rw [List.mem_singleton] at hd
      subst hd
      exact ⟨m, rfl, by omega, ⟨e, he, hk, hid.symm⟩, .inl ⟨rfl, fun j h1 h2 => by omega⟩⟩
  · rename_i hk
    split at hm
    · rename_i hk3
      simp only [hk3] at hst
      have hs2 : s.stand = 2 := by simpa using hst
      obtain ⟨ini, dd, hds, hbk, hini⟩ := h.b2 hs2
      rw [hds] at hm
      simp only [List.getLast?_append, List.getLast?_singleton, Option.some_or] at hm
      split at hm
      · cases hm
        have hdj : ∀ d ∈ s.tx.ds, DJ es m s.tx.id d := h.dj
        simp only [List.dropLast_concat]
        refine ⟨fun d hd => ?_, fun _ _ d hd => ?_, fun h2 => by simp at h2⟩
        · rcases List.mem_append.1 hd with hd | hd
          · exact (hdj d (by rw [hds]; simp [hd])).step he (.inl (hini d hd))
          · rw [List.mem_singleton] at hd
            subst hd
            obtain ⟨pa, a1, a2, a3, a4⟩ := hdj dd (by rw [hds]; simp)
            refine ⟨pa, a1, by omega, a3, .inr ⟨m, rfl, a2, by omega, ⟨e, he, hk3, hid.symm⟩, ?_⟩⟩
            rcases a4 with ⟨_, a6⟩ | ⟨pb, a5, _⟩
            · exact a6
            · rw [hbk] at a5; omega
        · rcases List.mem_append.1 hd with hd | hd
          · exact hini d hd
          · rw [List.mem_singleton] at hd
            subst hd
            show (m : Int) ≠ -1
            omega
      · cases hm
    · rename_i hk3
      have hnr : ¬ isRet s.tx.id e := fun hx => hk3 hx.1
      have base := h.other he hnr
      split at hm
      · rename_i h4
        cases hm
        simp only [h4] at hst
        have hs1 : s.stand = 1 := by simpa using hst
        exact ⟨base.dj, fun _ _ => h.b1 (by omega) (by omega), fun h2 => by simp at h2⟩
      · split at hm
        · rename_i h4 h7
          cases hm
          simp only [h7] at hst
          have hs1 : s.stand = 1 := by simpa using hst
          exact ⟨base.dj, fun _ _ => h.b1 (by omega) (by omega), fun h2 => by simp at h2⟩
        · split at hm
          · cases hm; exact ⟨base.dj, fun _ h5 => absurd rfl h5, fun h2 => by simp at h2⟩
          · cases hm; exact ⟨base.dj, fun _ h5 => absurd rfl h5, fun h2 => by simp at h2⟩
theorem js_feed {os : List Ob} {es : List Ev} {m : Nat} {sts sts2 : List St} {e : Ev} (hI : sts.Pairwise (fun a b => a.tx.id ≠ b.tx.id)) (hJ : ∀ s ∈ sts, JS es m s) (he : es[m]? = some e) (h : feedM os m sts e = some sts2) : ∀ s ∈ sts2, JS es (m + 1) s := by
  rcases feed_cases hI h with ⟨hk, h1, _, rfl⟩ | ⟨hk, S1, s, S2, s2, rfl, hid, hst, hm, rfl⟩
  · intro s hs
    rcases List.mem_append.1 hs with hs | hs
    · exact (hJ s hs).other he (fun hx => by have := hx.1; omega)
    · rw [List.mem_singleton] at hs
      subst hs
      exact ⟨fun d hd => by simp [newS] at hd, fun _ _ d hd => by simp [newS] at hd, fun h2 => by simp [newS] at h2⟩
  · intro t ht
    have hpw := List.pairwise_append.1 hI
    simp only [List.mem_append, List.mem_cons] at ht
    have other : ∀ t, t ∈ S1 ∨ t ∈ S2 → JS es (m + 1) t := fun t ht => by
      have hne : t.tx.id ≠ s.tx.id := by
        rcases ht with ht | ht
        · exact hpw.2.2 t ht s (by simp)
        · exact fun x => (List.pairwise_cons.1 hpw.2.1).1 t ht x.symm
      exact (hJ t (by rcases ht with ht | ht <;> simp [ht])).other he (fun hx => hne (by rw [hid]; exact hx.2.symm))
    rcases ht with ht | rfl | ht
    · exact other t (.inl ht)
    · exact (hJ s (by simp)).move he hid hst hm hk
    · exact other t (.inr ht)
theorem js_run {os : List Ob} {es : List Ev} : ∀ (fs : List Ev) (m : Nat) (sts stf : List St), Inv m sts → (∀ s ∈ sts, JS es m s) → (∀ i e, fs[i]? = some e → es[m + i]? = some e) → runM os m sts fs = some stf → ∀ s ∈ stf, JS es (m + fs.length) s
  | [], m, sts, stf, _, hJ, _, h => by simp only [runM, Option.some.injEq] at h; subst h; exact hJ
  | e :: fs, m, sts, stf, hI, hJ, hes, h => by
    simp only [runM] at h
    cases hf : feedM os m sts e with
    | none => rw [hf] at h; cases h
    | some sts2 =>
      rw [hf] at h
      have := js_run fs (m + 1) sts2 stf (hI.feed hf) (js_feed hI.ids hJ (by simpa using hes 0 e rfl) hf) (fun i e' hi => by
        have := hes (i + 1) e' (by simpa using hi)
        rw [show m + 1 + i = m + (i + 1) by omega]; exact this) h
      rw [List.length_cons, show m + (fs.length + 1) = m + 1 + fs.length by omega]
      exact this
/-! ### the relations -/
structure Same0 (s t : St) : Prop where
  id : s.tx.id = t.tx.id
  th : s.tx.thread = t.tx.thread
  st : s.tx.status = t.tx.status
/-- .. while the deed waits -/
def T1 (s t : St) : Prop := Same0 s t ∧ ∃ o, ops s = ops t ++ [o] ∧ ((s.stand = 2 ∧ t.stand = 1) ∨ (s.stand = 5 ∧ t.stand = 5))
/-- .. behind its answer -/
def T2 (s t : St) : Prop := Same0 s t ∧ s.stand = t.stand ∧ ∃ X o Y, ops s = X ++ o :: Y ∧ ops t = X ++ Y ∧ (s.stand = 2 → Y ≠ [])
def RX (T : St → St → Prop) (tx : Int) (s t : St) : Prop := (s.tx.id ≠ tx ∧ Alike s t) ∨ (s.tx.id = tx ∧ T s t)
theorem rx1_rel (tx : Int) : Rel (RX T1 tx) := ⟨fun s t h => by rcases h with ⟨_, h⟩ | ⟨_, h, _⟩; exact h.id; exact h.id, fun s t h => by rcases h with ⟨_, h⟩ | ⟨_, h, _⟩; exact h.th; exact h.th, fun s t h hl => by
  rcases h with ⟨_, h⟩ | ⟨_, _, _, _, h⟩
  · rw [h.sd]; exact hl
  · omega⟩
theorem rx2_rel (tx : Int) : Rel (RX T2 tx) := ⟨fun s t h => by rcases h with ⟨_, h⟩ | ⟨_, h, _⟩; exact h.id; exact h.id, fun s t h => by rcases h with ⟨_, h⟩ | ⟨_, h, _⟩; exact h.th; exact h.th, fun s t h hl => by
  rcases h with ⟨_, h⟩ | ⟨_, _, h, _⟩
  · rw [h.sd]; exact hl
  · rw [h]; exact hl⟩
theorem rx_new {T : St → St → Prop} {tx : Int} (e : Ev) (n n' : Nat) (h : e.tx ∉ [tx]) : RX T tx (newS e n) (newS e n') := .inl ⟨by simpa [newS] using h, rfl, rfl, rfl, rfl, rfl⟩
/-- an event of one transaction, as the deeds' operations see it -/
theorem move_ops {s s2 : St} {e : Ev} {n : Int} (hm : moveM s e n = some s2) : s2.tx.id = s.tx.id ∧ s2.tx.thread = s.tx.thread ∧
    (e.kind = 2 → ops s2 = ops s ++ [e.op] ∧ s2.stand = 2 ∧ s2.tx.status = s.tx.status) ∧
    (e.kind = 3 → ops s2 = ops s ∧ s2.stand = 1 ∧ s2.tx.status = s.tx.status ∧ ∃ d, s.tx.ds.getLast? = some d ∧ fitsK d.op e.ret = true) ∧
    (e.kind ≠ 2 → e.kind ≠ 3 → ops s2 = ops s ∧ s2.stand = (if e.kind = 4 then 3 else if e.kind = 7 then 4 else 5) ∧ s2.tx.status = (if e.kind = 4 then 2 else if e.kind = 7 then s.tx.status else if e.kind = 5 then 3 else 4)) := by
  obtain ⟨f1, f2, _⟩ := moveM_facts hm
  refine ⟨f1, f2, ?_, ?_, ?_⟩
  · intro hk
    unfold moveM at hm
    rw [if_pos hk] at hm
    cases hm
    exact ⟨by simp [ops], rfl, rfl⟩
  · intro hk
    unfold moveM at hm
    rw [if_neg (by omega), if_pos hk] at hm
    split at hm
    · cases hm
    · rename_i d hd
      split at hm
      · rename_i hft
        cases hm
        exact ⟨ops_last hd rfl, rfl, rfl, d, hd, hft⟩
      · cases hm
  · intro h2 h3
    unfold moveM at hm
    rw [if_neg h2, if_neg h3] at hm
    split at hm
    · rename_i h4; cases hm; simp [h4, ops]
    · rename_i h4
      split at hm
      · rename_i h7; cases hm; simp [h7, ops]
      · rename_i h7
        split at hm
        · rename_i h5; cases hm; simp [h4, h7, h5, ops]
        · rename_i h5; cases hm; simp [h4, h7, h5, ops]
theorem move_can {t : St} {e : Ev} {n : Int} (h3 : e.kind = 3 → ∃ d, t.tx.ds.getLast? = some d ∧ fitsK d.op e.ret = true) : ∃ t2, moveM t e n = some t2 := by
  unfold moveM
  split
  · exact ⟨_, rfl⟩
  · split
    · rename_i hk
      obtain ⟨d, hd, hf⟩ := h3 hk
      rw [hd]
      simp only
      rw [if_pos hf]
      exact ⟨_, rfl⟩
    · split
      · exact ⟨_, rfl⟩
      · split
        · exact ⟨_, rfl⟩
        · split <;> exact ⟨_, rfl⟩
theorem last_app {l : List De} {X Y : List Int} (hY : Y ≠ []) (ho : l.map (·.op) = X ++ Y) : ∃ d o, l.getLast? = some d ∧ Y.getLast? = some o ∧ d.op = o := by
  have e : (l.map (·.op)).getLast? = Y.getLast? := by
    rw [ho, List.getLast?_append]
    cases hy : Y.getLast? with
    | none => exact absurd (List.getLast?_eq_none_iff.1 hy) hY
    | some o => rfl
  rw [List.getLast?_map] at e
  cases hl : l.getLast? with
  | none =>
    rw [hl] at e
    exact absurd (List.getLast?_eq_none_iff.1 e.symm) hY
  | some d => rw [hl] at e; exact ⟨d, d.op, rfl, e.symm, rfl⟩
theorem t1_step {tx : Int} (e : Ev) (hnr : ¬ isRet tx e) (hk1 : e.kind ≠ 1) (hkr : 1 ≤ e.kind ∧ e.kind ≤ 7) : Steps1 (RX T1 tx) e := by
  intro s t s2 n n' hR hid hst hm
  obtain ⟨m1, m2, m3, m4, m5⟩ := move_ops hm
  rcases hR with ⟨hne, hA⟩ | ⟨he, hS, o, ho, hsd⟩
  · obtain ⟨h1, t2, h2, h3⟩ := alike_step e s t s2 n n' hA hid hst hm
    exact ⟨h1, t2, h2, .inl ⟨by rw [m1]; exact hne, h3⟩⟩
  · have hk3 : e.kind ≠ 3 := fun hx => hnr ⟨hx, by rw [← hid]; exact he⟩
    rcases hsd with ⟨hs2, ht1⟩ | ⟨hs5, _⟩
    · have hk6 : e.kind = 6 := by
        rw [hs2] at hst
        unfold fromM at hst
        by_cases h6 : e.kind = 6
        · exact h6
        · simp [h6, hk3] at hst
          grind
      obtain ⟨t2, ht2⟩ := move_can (t := t) (e := e) (n := n') (fun hx => absurd hx hk3)
      obtain ⟨n1, n2, _, _, n5⟩ := move_ops ht2
      obtain ⟨a1, a2, a3⟩ := m5 (by omega) hk3
      obtain ⟨c1, c2, c3⟩ := n5 (by omega) hk3
      refine ⟨by rw [ht1]; simp [fromM, hk6], t2, ht2, .inr ⟨by rw [m1]; exact he, ⟨by rw [m1, n1]; exact hS.id, by rw [m2, n2]; exact hS.th, by rw [a3, c3]; simp [hk6]⟩, o, by rw [a1, c1]; exact ho, .inr ⟨by rw [a2]; simp [hk6], by rw [c2]; simp [hk6]⟩⟩⟩
    · exact absurd hs5 (fromM_live hst)
theorem t2_step {tx : Int} (e : Ev) (hk1 : e.kind ≠ 1) : Steps1 (RX T2 tx) e := by
  intro s t s2 n n' hR hid hst hm
  obtain ⟨m1, m2, m3, m4, m5⟩ := move_ops hm
  rcases hR with ⟨hne, hA⟩ | ⟨he, hS, hsd, X, o, Y, hos, hot, hY⟩
  · obtain ⟨h1, t2, h2, h3⟩ := alike_step e s t s2 n n' hA hid hst hm
    exact ⟨h1, t2, h2, .inl ⟨by rw [m1]; exact hne, h3⟩⟩
  · have hlast : e.kind = 3 → ∃ d, t.tx.ds.getLast? = some d ∧ fitsK d.op e.ret = true := fun hk => by
      obtain ⟨_, _, _, d, hd, hf⟩ := m4 hk
      have hs2 : s.stand = 2 := by rw [hk] at hst; simpa [fromM] using hst
      have hYn := hY hs2
      obtain ⟨d1, o1, g1, g2, g3⟩ := last_app (l := s.tx.ds) (X := X ++ [o]) (Y := Y) hYn (by show ops s = _; rw [hos]; simp)
      obtain ⟨d2, o2, k1, k2, k3⟩ := last_app (l := t.tx.ds) (X := X) (Y := Y) hYn hot
      rw [hd] at g1; cases g1
      rw [g2] at k2; cases k2
      exact ⟨d2, k1, by rw [k3, ← g3]; exact hf⟩
    obtain ⟨t2, ht2⟩ := move_can (t := t) (e := e) (n := n') hlast
    obtain ⟨n1, n2, n3, n4, n5⟩ := move_ops ht2
    refine ⟨by rw [← hsd]; exact hst, t2, ht2, .inr ⟨by rw [m1]; exact he, ?_⟩⟩
    have hid2 : s2.tx.id = t2.tx.id := by rw [m1, n1]; exact hS.id
    have hth2 : s2.tx.thread = t2.tx.thread := by rw [m2, n2]; exact hS.th
    by_cases h2 : e.kind = 2
    · obtain ⟨a1, a2, a3⟩ := m3 h2
      obtain ⟨c1, c2, c3⟩ := n3 h2
      exact ⟨⟨hid2, hth2, by rw [a3, c3]; exact hS.st⟩, by rw [a2, c2], X, o, Y ++ [e.op], by rw [a1, hos]; simp, by rw [c1, hot]; simp, fun _ => by simp⟩
    · by_cases h3 : e.kind = 3
      · obtain ⟨a1, a2, a3, _⟩ := m4 h3
        obtain ⟨c1, c2, c3, _⟩ := n4 h3
        exact ⟨⟨hid2, hth2, by rw [a3, c3]; exact hS.st⟩, by rw [a2, c2], X, o, Y, by rw [a1]; exact hos, by rw [c1]; exact hot, fun hx => by rw [a2] at hx; omega⟩
      · obtain ⟨a1, a2, a3⟩ := m5 h2 h3
        obtain ⟨c1, c2, c3⟩ := n5 h2 h3
        exact ⟨⟨hid2, hth2, by rw [a3, c3, hS.st]⟩, by rw [a2, c2], X, o, Y, by rw [a1]; exact hos, by rw [c1]; exact hot, fun hx => by rw [a2] at hx; split at hx <;> (try split at hx) <;> omega⟩
/-! ### the history without the deed -/
def kpN (p : Nat → Bool) (k : Nat) (l : List Ev) : List Ev := ((l.zipIdx k).filter (fun x => p x.2)).map (·.1)
theorem kpN_append (p : Nat → Bool) (k : Nat) (a b : List Ev) : kpN p k (a ++ b) = kpN p k a ++ kpN p (k + a.length) b := by
  unfold kpN
  rw [List.zipIdx_append, List.filter_append, List.map_append]
theorem kpN_cons (p : Nat → Bool) (k : Nat) (x : Ev) (l : List Ev) : kpN p k (x :: l) = (if p k then [x] else []) ++ kpN p (k + 1) l := by
  unfold kpN
  rw [List.zipIdx_cons]
  by_cases h : p k = true
  · rw [List.filter_cons_of_pos (by simpa using h), if_pos h]; rfl
  · rw [List.filter_cons_of_neg (by simpa using h), if_neg h]; rfl
theorem kpN_all (p : Nat → Bool) : ∀ (l : List Ev) (k : Nat), (∀ j, k ≤ j → j < k + l.length → p j = true) → kpN p k l = l
  | [], k, _ => rfl
  | x :: l, k, h => by
    rw [kpN_cons, if_pos (h k (Nat.le_refl _) (by simp)), kpN_all p l (k + 1) (fun j h1 h2 => h j (by omega) (by simp; omega))]
    rfl
theorem Inv.run {os : List Ob} : ∀ (es : List Ev) (n : Nat) (sts stf : List St), Inv n sts → runM os n sts es = some stf → Inv (n + es.length) stf
  | [], n, sts, stf, hI, h => by simp only [runM, Option.some.injEq] at h; subst h; exact hI
  | e :: es, n, sts, stf, hI, h => by
    simp only [runM] at h
    cases hf : feedM os n sts e with
    | none => rw [hf] at h; cases h
    | some s =>
      rw [hf] at h
      have := Inv.run es (n + 1) s stf (hI.feed hf) h
      rw [List.length_cons, show n + (es.length + 1) = n + 1 + es.length by omega]
      exact this
theorem run_split {os : List Ob} {n : Nat} {sts stf : List St} {a b : List Ev} (h : runM os n sts (a ++ b) = some stf) : ∃ s, runM os n sts a = some s ∧ runM os (n + a.length) s b = some stf := by
  rw [runM_append] at h
  cases hs : runM os n sts a with
  | none => rw [hs] at h; cases h
  | some s => rw [hs] at h; exact ⟨s, rfl, h⟩
theorem run_cons {os : List Ob} {n : Nat} {sts stf : List St} {e : Ev} {b : List Ev} (h : runM os n sts (e :: b) = some stf) : ∃ s, feedM os n sts e = some s ∧ runM os (n + 1) s b = some stf := by
  simp only [runM] at h
  cases hs : feedM os n sts e with
  | none => rw [hs] at h; cases h
  | some s => rw [hs] at h; exact ⟨s, rfl, h⟩
theorem run_join {os : List Ob} {n : Nat} {sts s stf : List St} {a b : List Ev} (h1 : runM os n sts a = some s) (h2 : runM os (n + a.length) s b = some stf) : runM os n sts (a ++ b) = some stf := by
  rw [runM_append, h1]; exact h2
theorem filter_tt {α : Type} (l : List α) : l.filter (fun _ => true) = l := by simp
theorem findM_id {l : List Tm} {id : Int} {i : Nat} {t : Tm} (h : findM l id = some i) (ht : l[i]? = some t) : t.id = id := by
  unfold findM at h
  rw [List.findIdx?_eq_some_iff_getElem] at h
  obtain ⟨hl, h1, _⟩ := h
  rw [List.getElem?_eq_getElem hl] at ht
  cases ht
  simpa using h1
theorem alike_others {tx : Int} {T : St → St → Prop} {A B : List St} {s t : St} (hp : (A ++ s :: B).Pairwise (fun a b => a.tx.id ≠ b.tx.id)) (hs : s.tx.id = tx) (hT : ∀ s2, s2.tx.id = tx → T s2 t → True) : (∀ x ∈ A, x.tx.id ≠ tx) ∧ ∀ x ∈ B, x.tx.id ≠ tx := by
  rw [List.pairwise_append, List.pairwise_cons] at hp
  exact ⟨fun x hx => by rw [← hs]; exact hp.2.2 x hx s (by simp), fun x hx => by rw [← hs]; exact fun e => hp.2.1.1 x hx e.symm⟩
theorem drop_run {os : List Ob} {es : List Ev} {tx : Int} {sts : List St} (hv : ∀ e ∈ es, EvOk e) (hl : es.length ≤ 400) (hr : runM os 0 [] es = some sts) {pa : Nat} {ec : Ev} (hpa : es[pa]? = some ec) (hk2 : ec.kind = 2) (htx : ec.tx = tx) (pb : Int)
    (hb : (pb = -1 ∧ ∀ j : Nat, pa < j → j < es.length → ∀ e, es[j]? = some e → ¬ isRet tx e) ∨ (∃ b : Nat, pb = (b : Int) ∧ pa < b ∧ b < es.length ∧ (∃ e, es[b]? = some e ∧ isRet tx e) ∧ ∀ j : Nat, pa < j → j < b → ∀ e, es[j]? = some e → ¬ isRet tx e)) :
    (runM os 0 [] (kpN (fun i => decide ((i : Int) ≠ (pa : Int) ∧ (i : Int) ≠ pb)) 0 es)).isSome = true := by
  have hpl : pa < es.length := (List.getElem?_eq_some_iff.1 hpa).1
  have hsp : es = es.take pa ++ ec :: es.drop (pa + 1) := by
    have h1 : es[pa] = ec := (List.getElem?_eq_some_iff.1 hpa).2
    rw [← h1, ← List.drop_eq_getElem_cons hpl, List.take_append_drop]
  have hlt : (es.take pa).length = pa := by simp; omega
  obtain ⟨E0, E1, hE0, hE1⟩ : ∃ E0 E1, es.take pa = E0 ∧ es.drop (pa + 1) = E1 := ⟨_, _, rfl, rfl⟩
  rw [hE0, hE1] at hsp
  rw [hE0] at hlt
  have hr0 := hr
  rw [hsp] at hr0
  obtain ⟨S0, r0, r1⟩ := run_split hr0
  rw [Nat.zero_add, hlt] at r1
  obtain ⟨S1, f1, r2⟩ := run_cons r1
  have I0 := Inv.run _ _ _ _ Inv.nil r0
  rw [Nat.zero_add, hlt] at I0
  have I1 := I0.feed f1
  rcases feed_cases I0.ids f1 with ⟨hk, _⟩ | ⟨_, A, s0, B, s1, rfl, hid, hst, hm, rfl⟩
  · omega
  have hs0 : s0.tx.id = tx := hid.trans htx
  obtain ⟨m1, m2, m3, _, _⟩ := move_ops hm
  obtain ⟨a1, a2, a3⟩ := m3 hk2
  have hst1 : s0.stand = 1 := by rw [hk2] at hst; simpa [fromM] using hst
  have hoth := alike_others (T := T1) (t := s0) I0.ids hs0 (fun _ _ _ => trivial)
  have hF : F2 (RX T1 tx) (A ++ s1 :: B) (A ++ s0 :: B) :=
    (F2.refl (fun s hs => .inl ⟨hoth.1 s hs, Alike.refl s⟩)).append (.cons (.inr ⟨m1.trans hs0, ⟨m1, m2, a3⟩, ec.op, a1, .inl ⟨a2, hst1⟩⟩) (F2.refl (fun s hs => .inl ⟨hoth.2 s hs, Alike.refl s⟩)))
  have hK1 : ∀ i ∈ [tx], ∃ s ∈ A ++ s1 :: B, s.tx.id = i := fun i hi => ⟨s1, by simp, by rw [List.mem_singleton] at hi; rw [hi]; exact m1.trans hs0⟩
  have hidx : ∀ (j : Nat) (e : Ev), E1[j]? = some e → es[pa + 1 + j]? = some e := fun j e hj => by rw [← hE1, List.getElem?_drop] at hj; exact hj
  have hmemE : ∀ e ∈ E1, e ∈ es := fun e he => by rw [hsp]; simp [he]
  have hE1l : E1.length = es.length - (pa + 1) := by rw [← hE1]; simp
  rcases hb with ⟨rfl, hno⟩ | ⟨b, rfl, hab, hbl, ⟨er, her, hret⟩, hno⟩
  · have hkp : kpN (fun i => decide ((i : Int) ≠ (pa : Int) ∧ (i : Int) ≠ -1)) 0 es = E0 ++ E1 := by
      rw [hsp, kpN_append, kpN_cons, kpN_all _ E0 0 (fun j _ h2 => by simp; omega), kpN_all _ E1 _ (fun j h1 _ => by simp; omega)]
      simp [hlt]
    rw [hkp]
    obtain ⟨stf', k1, _⟩ := run_sim (rx1_rel tx) (fun _ => true) [tx] rx_new E1 (pa + 1) pa _ sts (A ++ s0 :: B) I1 r2 (by omega) (by omega) (by rw [filter_tt]; exact hF) hK1 (fun e he _ hk1 => t1_step e (by
      obtain ⟨j, hj, rfl⟩ := List.getElem_of_mem he
      exact hno (pa + 1 + j) (by omega) (by omega) _ (hidx j _ (List.getElem?_eq_getElem hj))) hk1 (hv e (hmemE e he)).1)
    rw [filter_tt] at k1
    rw [run_join r0 (by rw [Nat.zero_add, hlt]; exact k1)]; rfl
  · have hbp : E1[b - (pa + 1)]? = some er := by rw [← hE1, List.getElem?_drop]; rw [show pa + 1 + (b - (pa + 1)) = b by omega]; exact her
    have hbl1 : b - (pa + 1) < E1.length := (List.getElem?_eq_some_iff.1 hbp).1
    have hsp1 : E1 = E1.take (b - (pa + 1)) ++ er :: E1.drop (b - (pa + 1) + 1) := by
      have h1 : E1[b - (pa + 1)] = er := (List.getElem?_eq_some_iff.1 hbp).2
      rw [← h1, ← List.drop_eq_getElem_cons hbl1, List.take_append_drop]
    obtain ⟨M, E2, hM, hE2⟩ : ∃ M E2, E1.take (b - (pa + 1)) = M ∧ E1.drop (b - (pa + 1) + 1) = E2 := ⟨_, _, rfl, rfl⟩
    have hMl : M.length = b - (pa + 1) := by rw [← hM]; simp; omega
    have hMi : ∀ (j : Nat) (e : Ev), M[j]? = some e → E1[j]? = some e ∧ j < b - (pa + 1) := fun j e hj => by
      have hjl : j < M.length := (List.getElem?_eq_some_iff.1 hj).1
      rw [← hM, List.getElem?_take, if_pos (by omega)] at hj
      exact ⟨hj, by omega⟩
    rw [hM, hE2] at hsp1
    have hE2l : M.length + 1 + E2.length = E1.length := by rw [hsp1]; simp; omega
    rw [hsp1] at r2
    obtain ⟨S2, q1, q2⟩ := run_split r2
    rw [hMl, show pa + 1 + (b - (pa + 1)) = b by omega] at q2
    obtain ⟨S3, f3, q3⟩ := run_cons q2
    have I2 := Inv.run _ _ _ _ I1 q1
    rw [hMl, show pa + 1 + (b - (pa + 1)) = b by omega] at I2
    have I3 := I2.feed f3
    have hmemM : ∀ e ∈ M, e ∈ es := fun e he => hmemE e (by rw [hsp1]; simp [he])
    obtain ⟨S2', k1, k2⟩ := run_sim (rx1_rel tx) (fun _ => true) [tx] rx_new M (pa + 1) pa _ S2 (A ++ s0 :: B) I1 q1 (by omega) (by omega) (by rw [filter_tt]; exact hF) hK1 (fun e he _ hk1 => t1_step e (by
      obtain ⟨j, hj, rfl⟩ := List.getElem_of_mem he
      obtain ⟨h1, h2⟩ := hMi j _ (List.getElem?_eq_getElem hj)
      exact hno (pa + 1 + j) (by omega) (by omega) _ (hidx j _ h1)) hk1 (hv e (hmemM e he)).1)
    rw [filter_tt] at k1 k2
    rcases feed_cases I2.ids f3 with ⟨hk, _⟩ | ⟨_, A2, s2, B2, s3, rfl, hid3, hst3, hm3, rfl⟩
    · have := hret.1; omega
    have hs2 : s2.tx.id = tx := hid3.trans hret.2
    have hst2 : s2.stand = 2 := by rw [hret.1] at hst3; simpa [fromM] using hst3
    obtain ⟨A', t2, B', rfl, g1, g2, g3⟩ := k2.split
    have hoth2 := alike_others (T := T1) (t := s0) I2.ids hs2 (fun _ _ _ => trivial)
    obtain ⟨v1, v2, _, v4, _⟩ := move_ops hm3
    obtain ⟨w1, w2, w3, _⟩ := v4 hret.1
    have hT2 : RX T2 tx s3 t2 := by
      rcases g2 with ⟨hne, _⟩ | ⟨_, hS, o, ho, hsd⟩
      · exact absurd hs2 hne
      · rcases hsd with ⟨_, ht1⟩ | ⟨h5, _⟩
        · exact .inr ⟨v1.trans hs2, ⟨v1.trans hS.id, v2.trans hS.th, w3.trans hS.st⟩, w2.trans ht1.symm, ops t2, o, [], by rw [w1]; exact ho, by simp, fun hx => by omega⟩
        · omega
    have hup : ∀ {l m : List St}, F2 (RX T1 tx) l m → (∀ s ∈ l, s.tx.id ≠ tx) → F2 (RX T2 tx) l m := fun h hn => h.mono (fun s hs t hr => by
      rcases hr with hr | ⟨he, _⟩
      · exact .inl hr
      · exact absurd he (hn s hs))
    have hF2 : F2 (RX T2 tx) (A2 ++ s3 :: B2) (A' ++ t2 :: B') := (hup g1 hoth2.1).append (.cons hT2 (hup g3 hoth2.2))
    have hmemE2 : ∀ e ∈ E2, e ∈ es := fun e he => hmemE e (by rw [hsp1]; simp [he])
    obtain ⟨stf', z1, _⟩ := run_sim (rx2_rel tx) (fun _ => true) [tx] rx_new E2 (b + 1) (b - 1) _ sts (A' ++ t2 :: B') I3 q3 (by omega) (by omega) (by rw [filter_tt]; exact hF2) (fun i hi => ⟨s3, by simp, by rw [List.mem_singleton] at hi; rw [hi]; exact v1.trans hs2⟩) (fun e he _ hk1 => t2_step e hk1)
    rw [filter_tt] at z1
    have hkp : kpN (fun i => decide ((i : Int) ≠ (pa : Int) ∧ (i : Int) ≠ (b : Int))) 0 es = E0 ++ (M ++ E2) := by
      rw [hsp, hsp1, kpN_append, kpN_cons, kpN_append, kpN_cons, kpN_all _ E0 0 (fun j _ h2 => by simp; omega), kpN_all _ M _ (fun j h1 h2 => by simp; omega), kpN_all _ E2 _ (fun j h1 _ => by simp; omega)]
      have e2 : 0 + E0.length + 1 + M.length = b := by omega
      rw [e2]
      simp [hlt]
    rw [hkp, run_join r0 (by rw [Nat.zero_add, hlt]; exact run_join k1 (by rw [hMl, show pa + (b - (pa + 1)) = b - 1 by omega]; exact z1))]
    rfl
theorem taken_drop {h r : Hi} {sts : List St} (ht : takenM h = some sts) {tx k : Int} (hd : dropM h tx k = some r) : (takenM r).isSome = true := by
  obtain ⟨hv, hr⟩ := takenM_some ht
  have hsub := sub_drop hd
  have hJ := js_run (os := h.os) (es := h.es) h.es 0 [] sts Inv.nil (fun s hs => by cases hs) (fun i e hi => by simpa using hi) hr
  rw [Nat.zero_add] at hJ
  unfold dropM at hd
  rw [ht] at hd
  simp only at hd
  split at hd
  · cases hd
  · rename_i i hi
    split at hd
    · cases hd
    · rename_i t hti
      split at hd
      · split at hd
        · cases hd
        · rename_i d hdd
          have hid := findM_id hi hti
          rw [List.getElem?_map, Option.map_eq_some_iff] at hti
          obtain ⟨s, hs, rfl⟩ := hti
          obtain ⟨pa, a1, a2, ⟨ec, e1, e2, e3⟩, a4⟩ := (hJ s (List.mem_of_getElem? hs)).dj d (List.mem_of_getElem? hdd)
          rw [hid] at e3 a4
          have key := drop_run (os := h.os) (tx := tx) (fun e he => (hv.2.2.2 e he).1) hv.2.1 hr e1 e2 e3 d.back (by
            rcases a4 with ⟨b1, b2⟩ | ⟨pb, b1, b2, b3, b4, b5⟩
            · exact .inl ⟨b1, b2⟩
            · exact .inr ⟨pb, b1, b2, b3, b4, b5⟩)
          cases hd
          have hos := hv_sub hv hsub.1 hsub.2
          cases hx : runM h.os 0 [] (kp (fun i _ => decide ((i : Int) ≠ d.at_ ∧ (i : Int) ≠ d.back)) h.es) with
          | none =>
            rw [a1] at hx
            have : kp (fun i _ => decide ((i : Int) ≠ (pa : Int) ∧ (i : Int) ≠ d.back)) h.es = kpN (fun i => decide ((i : Int) ≠ (pa : Int) ∧ (i : Int) ≠ d.back)) 0 h.es := rfl
            rw [this] at hx
            rw [hx] at key
            cases key
          | some stf => rw [taken_of hos hx]; rfl
      · cases hd

end Go.Proofs.YtijafcilfefafaaDoor
