/- The walk of CutFormed. -/
import Derived.Test.YtijafcilfefafaaDoorV26
namespace Go.Proofs.YtijafcilfefafaaDoor
open Go Go.U
set_option maxRecDepth 20000
set_option linter.unusedSimpArgs false
set_option linter.unusedVariables false

theorem isnil {v : Value} (hv : IfV v) (h : isNilI v = true) : v = .nilIface := by
  rcases hv with rfl | ⟨t, u, rfl⟩
  · rfl
  · cases h
theorem hi_mono {h g : Hi} (hI : HI h) (ho : g.os.Sublist h.os) (he : g.es.Sublist h.es) : HI g := ⟨fun o hm => hI.1 o (ho.subset hm), fun e hm => hI.2 e (he.subset hm)⟩
theorem sub_hi {h g : Hi} (hI : HI h) (hs : SubH g h) : HI g := hi_mono hI (hs.1 ▸ List.Sublist.refl _) hs.2
theorem sub_ol {h g : Hi} (hs : SubH g h) {n : Nat} (hn : h.os.length ≤ n) : g.os.length ≤ n := by rw [hs.1]; exact hn
theorem sub_el {h g : Hi} (hs : SubH g h) {n : Nat} (hn : h.es.length ≤ n) : g.es.length ≤ n := Nat.le_trans hs.2.length_le hn
theorem sub_comm {h r : Hi} (hc : commM h = some r) : SubH r h := by
  unfold commM at hc
  split at hc
  · cases hc
  · cases hc; exact ⟨rfl, List.filter_sublist⟩
theorem F2.get {R : St → St → Prop} {l m : List St} (h : F2 R l m) : ∀ {j : Nat} {a : St}, l[j]? = some a → ∃ b, m[j]? = some b ∧ R a b := by
  induction h with
  | nil => intro j a h; simp at h
  | cons h1 _ ih =>
    intro j a h
    cases j with
    | zero => simp at h; subst h; exact ⟨_, rfl, h1⟩
    | succ j => exact ih (by simpa using h)
theorem flt_snoc {q : St → Bool} {l : List St} {i : Nat} {a : St} (h : l[i]? = some a) : (l.take (i + 1)).filter q = (l.take i).filter q ++ if q a then [a] else [] := by
  rw [take_snoc' h, List.filter_append]
  congr 1
  by_cases hq : q a = true <;> simp [hq]
theorem flt_at {q : St → Bool} : ∀ {l : List St} {i : Nat} {a : St}, l[i]? = some a → q a = true → (l.filter q)[((l.take i).filter q).length]? = some a
  | [], i, a, h, _ => by simp at h
  | x :: l, 0, a, h, hq => by
    simp at h; subst h
    rw [List.filter_cons_of_pos hq]; rfl
  | x :: l, i + 1, a, h, hq => by
    have ih := flt_at (l := l) (i := i) (a := a) (by simpa using h) hq
    rw [List.take_succ_cons]
    by_cases hx : q x = true
    · rw [List.filter_cons_of_pos hx, List.filter_cons_of_pos hx, List.length_cons, List.getElem?_cons_succ]; exact ih
    · rw [List.filter_cons_of_neg hx, List.filter_cons_of_neg hx]; exact ih
def qT (tx : Int) (s : St) : Bool := decide (s.tx.id ≠ tx)
/-- what the table of the history without the transaction holds at the place of a transaction -/
theorem tab_at {h : Hi} {sts m : List St} {tx : Int} {tgs ugs : List TG} (hmp : tgs.map (·.tm) = sts.map (·.tx)) (hmp2 : ugs.map (·.tm) = m.map (·.tx)) (hF : F2 Alike (sts.filter (qT tx)) m) {i : Nat} (hi : i < tgs.length) (hne : (tgs[i]).tm.id ≠ tx) :
    ∃ hj : ((sts.take i).filter (qT tx)).length < ugs.length, (ugs[((sts.take i).filter (qT tx)).length]'hj).tm.id = (tgs[i]).tm.id ∧ (ugs[((sts.take i).filter (qT tx)).length]'hj).tm.thread = (tgs[i]).tm.thread ∧ (ugs[((sts.take i).filter (qT tx)).length]'hj).tm.status = (tgs[i]).tm.status ∧ (ugs[((sts.take i).filter (qT tx)).length]'hj).tm.ds.length = (tgs[i]).tm.ds.length := by
  generalize hjj : ((sts.take i).filter (qT tx)).length = j
  have h1 : (tgs.map (·.tm))[i]? = some (tgs[i]).tm := by rw [List.getElem?_map, List.getElem?_eq_getElem hi]; rfl
  rw [hmp, List.getElem?_map, Option.map_eq_some_iff] at h1
  obtain ⟨s, hs, hst⟩ := h1
  have hq : qT tx s = true := by unfold qT; rw [hst]; simpa using hne
  have h2 := flt_at hs hq
  rw [hjj] at h2
  obtain ⟨u, hu, hA⟩ := hF.get h2
  have h3 : (ugs.map (·.tm))[j]? = some u.tx := by rw [hmp2, List.getElem?_map, hu]; rfl
  rw [List.getElem?_map, Option.map_eq_some_iff] at h3
  obtain ⟨g, hg, hgu⟩ := h3
  obtain ⟨hj, rfl⟩ := List.getElem?_eq_some_iff.1 hg
  refine ⟨hj, ?_⟩
  rw [hgu, ← hst]
  have h4 := congrArg List.length hA.op
  simp only [ops, List.length_map] at h4
  exact ⟨hA.id.symm, hA.th.symm, hA.st.symm, h4.symm⟩
theorem tab_len {sts m : List St} {tx : Int} {ugs : List TG} (hmp2 : ugs.map (·.tm) = m.map (·.tx)) (hF : F2 Alike (sts.filter (qT tx)) m) : (sts.filter (qT tx)).length = ugs.length := by
  have := congrArg List.length hmp2
  simp at this
  rw [hF.len, this]

theorem CutFormed_c (h : Hi) (A : Option Addr) (cA : Nat) (B : Option Addr) (cB : Nat) (n tx k : Int) (ro : Ro) (L : List (List Blk)) (hh : SH ro A cA B cB h) (hI : HI h) (er : Nat → Addr) (hG : Glob er ro) :
    CT Tryd.prog 7 [.agg [.slice A h.os.length cA, .slice B h.es.length cB].toArray, .int .i64 n, .int .i64 tx, .int .i64 k].toArray ro L (PV (.bool true) L) := by
  refine enter Tryd.func7 rfl Tryd.ntmps7 rfl ?_
  refine seq ?_
  refine region ?_
  refine op (e_box rfl rfl rfl fun b4 => ?_)
  refine op (y (x_assign rfl) rfl ?_)
  refine nil ?_
  refine n_then ?_
  refine seq ?_
  refine region ?_
  refine op (e_call rfl fn_8 rfl rfl (first_c er _ _ hG) fun v23 ro23 L23 hle23 hp23 => ?_)
  obtain ⟨rfl, rfl⟩ := hp23
  refine op (y (x_assign rfl) rfl ?_)
  refine nil ?_
  refine n_then ?_
  refine seq ?_
  refine seq ?_
  refine region ?_
  refine op (y (x_move rfl) rfl ?_)
  refine op (y (x_not rfl) rfl ?_)
  refine nil ?_
  refine n_then ?_
  refine condF rfl ?_
  refine skip ?_
  refine n_then ?_
  refine seq ?_
  refine seq ?_
  refine region ?_
  refine op (y ((by first | exact x_loadOwn 0 _ ag_25 rfl rfl rfl rfl | exact x_loadOwn 1 _ ag_25 rfl rfl rfl rfl | exact x_loadOwn 2 _ ag_25 rfl rfl rfl rfl | exact x_loadOwn 3 _ ag_25 rfl rfl rfl rfl | exact x_loadOwn 4 _ ag_25 rfl rfl rfl rfl | exact x_loadOwn 5 _ ag_25 rfl rfl rfl rfl | exact x_loadOwn 6 _ ag_25 rfl rfl rfl rfl | exact x_loadOwn 7 _ ag_25 rfl rfl rfl rfl | exact x_loadOwn 8 _ ag_25 rfl rfl rfl rfl | exact x_loadOwn 9 _ ag_25 rfl rfl rfl rfl | exact x_loadOwn 10 _ ag_25 rfl rfl rfl rfl | exact x_loadOwn 11 _ ag_25 rfl rfl rfl rfl)) rfl ?_)
  refine op (e_call rfl fn_9 rfl rfl (small_c h A cA B cB _ _ (hh.mono hle23)) fun v27 ro27 L27 hle27 hp27 => ?_)
  obtain ⟨rfl, rfl, rfl⟩ := hp27
  refine op (y (x_not rfl) rfl ?_)
  refine op (y (x_move rfl) rfl ?_)
  refine bsplit 29 rfl (fun g29 => ?_) (fun g29 => ?_)
  · try simp only [decide_eq_true_eq, decide_eq_false_iff_not, beq_iff_eq, bne_iff_ne, ne_eq, beq_eq_false_iff_ne, bne_eq_false_iff_eq, Bool.not_eq_true', Bool.not_eq_false', Bool.not_eq_true, Bool.not_eq_false, Decidable.not_not, Int.not_lt, Int.not_le] at g29
    refine opN rfl rfl rfl rfl ?_
    refine opN rfl rfl rfl rfl ?_
    refine op (y (x_pickT rfl rfl) rfl ?_)
    refine nil ?_
    refine n_then ?_
    refine condT rfl ?_
    refine seq ?_
    refine region ?_
    refine op (y (x_move rfl) rfl ?_)
    refine op (y (x_assign rfl) rfl ?_)
    refine nil ?_
    refine n_then ?_
    refine ret ?_
    refine r_then ?_
    exact done rfl (.tmp rfl (.nil)) (hle23) (L) (subF (by (repeat (first | exact List.Sublist.refl _ | apply List.Sublist.cons_cons | apply List.Sublist.cons)); done)) (⟨rfl, rfl⟩)
  · try simp only [decide_eq_true_eq, decide_eq_false_iff_not, beq_iff_eq, bne_iff_ne, ne_eq, beq_eq_false_iff_ne, bne_eq_false_iff_eq, Bool.not_eq_true', Bool.not_eq_false', Bool.not_eq_true, Bool.not_eq_false, Decidable.not_not, Int.not_lt, Int.not_le] at g29
    refine opG rfl rfl (y (x_move rfl) rfl ?_)
    refine opG rfl rfl (y (x_not rfl) rfl ?_)
    refine op (y (x_pickF rfl rfl) rfl ?_)
    refine nil ?_
    refine n_then ?_
    refine condF rfl ?_
    refine skip ?_
    refine n_then ?_
    refine seq ?_
    obtain ⟨hn1, hn2⟩ : h.os.length ≤ 100 ∧ h.es.length ≤ 600 := by grind
    have hh1 := hh.mono hle23
    have hG1 := hG.mono hle23
    refine region ?_
    refine op (y ((by first | exact x_loadOwn 0 _ ag_25 rfl rfl rfl rfl | exact x_loadOwn 1 _ ag_25 rfl rfl rfl rfl | exact x_loadOwn 2 _ ag_25 rfl rfl rfl rfl | exact x_loadOwn 3 _ ag_25 rfl rfl rfl rfl | exact x_loadOwn 4 _ ag_25 rfl rfl rfl rfl | exact x_loadOwn 5 _ ag_25 rfl rfl rfl rfl | exact x_loadOwn 6 _ ag_25 rfl rfl rfl rfl | exact x_loadOwn 7 _ ag_25 rfl rfl rfl rfl | exact x_loadOwn 8 _ ag_25 rfl rfl rfl rfl | exact x_loadOwn 9 _ ag_25 rfl rfl rfl rfl | exact x_loadOwn 10 _ ag_25 rfl rfl rfl rfl | exact x_loadOwn 11 _ ag_25 rfl rfl rfl rfl)) rfl ?_)
    refine op (e_call rfl fn_32 rfl rfl (Table_c h A cA B cB _ _ hh1 hn1 hn2 hI er hG1) fun v36 ro36 L36 hle36 hp36 => ?_)
    obtain ⟨tA, tc, tgs, ev36, rfl, hev36, hcase36, rfl⟩ := hp36
    refine op (y (x_move rfl) rfl ?_)
    refine op (y (x_extract rfl rfl) rfl ?_)
    refine op (y (x_extract rfl rfl) rfl ?_)
    refine op (y (x_assign rfl) rfl ?_)
    refine op (y (x_assign rfl) rfl ?_)
    refine nil ?_
    refine n_then ?_
    refine seq ?_
    refine seq ?_
    refine region ?_
    refine op (y (x_move rfl) rfl ?_)
    refine op (y (x_ifNeNil Tryd.underlying43 rfl (by assumption)) rfl ?_)
    refine nil ?_
    refine n_then ?_
    refine cond rfl (fun h7 => ?_) (fun h7 => ?_)
    · try simp only [decide_eq_true_eq, decide_eq_false_iff_not, beq_iff_eq, bne_iff_ne, ne_eq, beq_eq_false_iff_ne, bne_eq_false_iff_eq, Bool.not_eq_true', Bool.not_eq_false', Bool.not_eq_true, Bool.not_eq_false, Decidable.not_not, Int.not_lt, Int.not_le] at h7
      refine seq ?_
      refine region ?_
      refine op (y (x_assign rfl) rfl ?_)
      refine nil ?_
      refine n_then ?_
      refine ret ?_
      refine r_then ?_
      exact done rfl (.tmp rfl (.nil)) (hle23.trans hle36) (L) (subF (by (repeat (first | exact List.Sublist.refl _ | apply List.Sublist.cons_cons | apply List.Sublist.cons)); done)) (⟨rfl, rfl⟩)
    · try simp only [decide_eq_true_eq, decide_eq_false_iff_not, beq_iff_eq, bne_iff_ne, ne_eq, beq_eq_false_iff_ne, bne_eq_false_iff_eq, Bool.not_eq_true', Bool.not_eq_false', Bool.not_eq_true, Bool.not_eq_false, Decidable.not_not, Int.not_lt, Int.not_le] at h7
      refine skip ?_
      refine n_then ?_
      refine seq ?_
      change isNilI ev36 = true at h7
      rcases hcase36.symm with ⟨hx, _⟩ | ⟨_, ⟨sts, hsts, hmp⟩, hSt⟩
      · rw [hx] at h7; cases h7
      have hh2 := hh1.mono hle36
      have hG2 := hG1.mono hle36
      refine region ?_
      refine op (y ((by first | exact x_loadOwn 0 _ ag_25 rfl rfl rfl rfl | exact x_loadOwn 1 _ ag_25 rfl rfl rfl rfl | exact x_loadOwn 2 _ ag_25 rfl rfl rfl rfl | exact x_loadOwn 3 _ ag_25 rfl rfl rfl rfl | exact x_loadOwn 4 _ ag_25 rfl rfl rfl rfl | exact x_loadOwn 5 _ ag_25 rfl rfl rfl rfl | exact x_loadOwn 6 _ ag_25 rfl rfl rfl rfl | exact x_loadOwn 7 _ ag_25 rfl rfl rfl rfl | exact x_loadOwn 8 _ ag_25 rfl rfl rfl rfl | exact x_loadOwn 9 _ ag_25 rfl rfl rfl rfl | exact x_loadOwn 10 _ ag_25 rfl rfl rfl rfl | exact x_loadOwn 11 _ ag_25 rfl rfl rfl rfl)) rfl ?_)
      refine op (y (x_move rfl) rfl ?_)
      refine op (e_call rfl fn_15 rfl rfl (PHo.frozen (Without_o h A cA B cB _ _ hh2 tx hn1 hn2)) fun v43 ro43 L43 hle43 hp43 => ?_)
      obtain ⟨wA, wc, wB, wd, rfl, hSw, rfl⟩ := hp43
      have hh3 := hh2.mono hle43
      have hG3 := hG2.mono hle43
      refine op (e_alloc rfl zc_25 rfl fun b12 => ?_)
      first | refine op (e_store 0 rfl rfl ts_25 rfl rfl rfl rfl rfl rfl ?_) | refine op (e_store 1 rfl rfl ts_25 rfl rfl rfl rfl rfl rfl ?_) | refine op (e_store 2 rfl rfl ts_25 rfl rfl rfl rfl rfl rfl ?_) | refine op (e_store 3 rfl rfl ts_25 rfl rfl rfl rfl rfl rfl ?_) | refine op (e_store 4 rfl rfl ts_25 rfl rfl rfl rfl rfl rfl ?_) | refine op (e_store 5 rfl rfl ts_25 rfl rfl rfl rfl rfl rfl ?_) | refine op (e_store 6 rfl rfl ts_25 rfl rfl rfl rfl rfl rfl ?_) | refine op (e_store 7 rfl rfl ts_25 rfl rfl rfl rfl rfl rfl ?_) | refine op (e_store 8 rfl rfl ts_25 rfl rfl rfl rfl rfl rfl ?_) | refine op (e_store 9 rfl rfl ts_25 rfl rfl rfl rfl rfl rfl ?_)
      refine nil ?_
      refine n_then ?_
      refine seq ?_
      refine region ?_
      refine op (y ((by first | exact x_loadOwn 0 _ ag_25 rfl rfl rfl rfl | exact x_loadOwn 1 _ ag_25 rfl rfl rfl rfl | exact x_loadOwn 2 _ ag_25 rfl rfl rfl rfl | exact x_loadOwn 3 _ ag_25 rfl rfl rfl rfl | exact x_loadOwn 4 _ ag_25 rfl rfl rfl rfl | exact x_loadOwn 5 _ ag_25 rfl rfl rfl rfl | exact x_loadOwn 6 _ ag_25 rfl rfl rfl rfl | exact x_loadOwn 7 _ ag_25 rfl rfl rfl rfl | exact x_loadOwn 8 _ ag_25 rfl rfl rfl rfl | exact x_loadOwn 9 _ ag_25 rfl rfl rfl rfl | exact x_loadOwn 10 _ ag_25 rfl rfl rfl rfl | exact x_loadOwn 11 _ ag_25 rfl rfl rfl rfl)) rfl ?_)
      refine op (y (x_move rfl) rfl ?_)
      refine op (y (x_move rfl) rfl ?_)
      refine op (e_call rfl fn_23 rfl rfl (Drop_c h A cA B cB _ _ hh3 hn1 hn2 tx k hI er hG3) fun v48 ro48 L48 hle48 hp48 => ?_)
      obtain ⟨r13, dA, dc, dB, dd, ev14, rfl, hSd, rfl, hcd⟩ := hp48
      have hh4 := hh3.mono hle48
      have hG4 := hG3.mono hle48
      have hev14 : IfV ev14 := by rcases hcd with ⟨rfl, _⟩ | ⟨⟨t, u, rfl⟩, _⟩; exact IfV.nil; exact IfV.mk _ _
      refine op (y (x_move rfl) rfl ?_)
      refine op (y (x_extract rfl rfl) rfl ?_)
      refine op (y (x_extract rfl rfl) rfl ?_)
      refine op (e_alloc rfl zc_25 rfl fun b13 => ?_)
      first | refine op (e_store 0 rfl rfl ts_25 rfl rfl rfl rfl rfl rfl ?_) | refine op (e_store 1 rfl rfl ts_25 rfl rfl rfl rfl rfl rfl ?_) | refine op (e_store 2 rfl rfl ts_25 rfl rfl rfl rfl rfl rfl ?_) | refine op (e_store 3 rfl rfl ts_25 rfl rfl rfl rfl rfl rfl ?_) | refine op (e_store 4 rfl rfl ts_25 rfl rfl rfl rfl rfl rfl ?_) | refine op (e_store 5 rfl rfl ts_25 rfl rfl rfl rfl rfl rfl ?_) | refine op (e_store 6 rfl rfl ts_25 rfl rfl rfl rfl rfl rfl ?_) | refine op (e_store 7 rfl rfl ts_25 rfl rfl rfl rfl rfl rfl ?_) | refine op (e_store 8 rfl rfl ts_25 rfl rfl rfl rfl rfl rfl ?_) | refine op (e_store 9 rfl rfl ts_25 rfl rfl rfl rfl rfl rfl ?_)
      refine op (y (x_assign rfl) rfl ?_)
      refine nil ?_
      refine n_then ?_
      refine seq ?_
      refine region ?_
      refine op (y ((by first | exact x_loadOwn 0 _ ag_25 rfl rfl rfl rfl | exact x_loadOwn 1 _ ag_25 rfl rfl rfl rfl | exact x_loadOwn 2 _ ag_25 rfl rfl rfl rfl | exact x_loadOwn 3 _ ag_25 rfl rfl rfl rfl | exact x_loadOwn 4 _ ag_25 rfl rfl rfl rfl | exact x_loadOwn 5 _ ag_25 rfl rfl rfl rfl | exact x_loadOwn 6 _ ag_25 rfl rfl rfl rfl | exact x_loadOwn 7 _ ag_25 rfl rfl rfl rfl | exact x_loadOwn 8 _ ag_25 rfl rfl rfl rfl | exact x_loadOwn 9 _ ag_25 rfl rfl rfl rfl | exact x_loadOwn 10 _ ag_25 rfl rfl rfl rfl | exact x_loadOwn 11 _ ag_25 rfl rfl rfl rfl)) rfl ?_)
      refine op (e_call rfl fn_33 rfl rfl (Committed_c h A cA B cB _ _ hh4 hn1 hn2 hI er hG4) fun v53 ro53 L53 hle53 hp53 => ?_)
      obtain ⟨r15, cA5, cc, cB5, cd, ev16, rfl, hSc, rfl, hcc⟩ := hp53
      have hh5 := hh4.mono hle53
      have hG5 := hG4.mono hle53
      obtain ⟨rc, hrc, hrt⟩ := taken_comm hsts
      obtain ⟨rfl, hc15⟩ : ev16 = .nilIface ∧ commM h = some r15 := by rcases hcc with h1 | ⟨_, h1, _⟩; exact h1; rw [h1] at hrc; cases hrc
      have hrt5 : (takenM r15).isSome = true := by rw [hc15] at hrc; cases hrc; exact hrt
      refine op (y (x_move rfl) rfl ?_)
      refine op (y (x_extract rfl rfl) rfl ?_)
      refine op (y (x_extract rfl rfl) rfl ?_)
      refine op (e_alloc rfl zc_25 rfl fun b15 => ?_)
      first | refine op (e_store 0 rfl rfl ts_25 rfl rfl rfl rfl rfl rfl ?_) | refine op (e_store 1 rfl rfl ts_25 rfl rfl rfl rfl rfl rfl ?_) | refine op (e_store 2 rfl rfl ts_25 rfl rfl rfl rfl rfl rfl ?_) | refine op (e_store 3 rfl rfl ts_25 rfl rfl rfl rfl rfl rfl ?_) | refine op (e_store 4 rfl rfl ts_25 rfl rfl rfl rfl rfl rfl ?_) | refine op (e_store 5 rfl rfl ts_25 rfl rfl rfl rfl rfl rfl ?_) | refine op (e_store 6 rfl rfl ts_25 rfl rfl rfl rfl rfl rfl ?_) | refine op (e_store 7 rfl rfl ts_25 rfl rfl rfl rfl rfl rfl ?_) | refine op (e_store 8 rfl rfl ts_25 rfl rfl rfl rfl rfl rfl ?_) | refine op (e_store 9 rfl rfl ts_25 rfl rfl rfl rfl rfl rfl ?_)
      refine op (y (x_assign rfl) rfl ?_)
      refine nil ?_
      refine n_then ?_
      refine seq ?_
      refine region ?_
      refine op (y ((by first | exact x_loadOwn 0 _ ag_25 rfl rfl rfl rfl | exact x_loadOwn 1 _ ag_25 rfl rfl rfl rfl | exact x_loadOwn 2 _ ag_25 rfl rfl rfl rfl | exact x_loadOwn 3 _ ag_25 rfl rfl rfl rfl | exact x_loadOwn 4 _ ag_25 rfl rfl rfl rfl | exact x_loadOwn 5 _ ag_25 rfl rfl rfl rfl | exact x_loadOwn 6 _ ag_25 rfl rfl rfl rfl | exact x_loadOwn 7 _ ag_25 rfl rfl rfl rfl | exact x_loadOwn 8 _ ag_25 rfl rfl rfl rfl | exact x_loadOwn 9 _ ag_25 rfl rfl rfl rfl | exact x_loadOwn 10 _ ag_25 rfl rfl rfl rfl | exact x_loadOwn 11 _ ag_25 rfl rfl rfl rfl)) rfl ?_)
      refine op (e_call rfl fn_29 rfl rfl (Spare_c h A cA B cB _ _ hh5 hn1 hn2 hI er hG5) fun v58 ro58 L58 hle58 hp58 => ?_)
      obtain ⟨r17, sA, sc, sB, sd, R1, R2, ev18, rfl, hO1, hO2, rfl, hcs⟩ := hp58
      obtain ⟨rfl, hr17⟩ : ev18 = .nilIface ∧ r17 = spareH h := by rcases hcs with ⟨h1, _, h2⟩ | ⟨_, h1, _⟩; exact ⟨h1, h2⟩; rw [h1] at hsts; cases hsts
      refine ufreeze fun rz1 hz1 hzR1 => ?_
      refine ufreeze fun rz2 hz2 hzR2 => ?_
      have leS := hle58.trans (hz1.trans hz2)
      have hSs : SH rz2 sA sc sB sd r17 := ⟨(hO1.sl enc_ob hzR1).mono hz2, hO2.sl enc_ev hzR2⟩
      have hh6 := hh5.mono leS
      have hG6 := hG5.mono leS
      have hSw6 := hSw.mono (hle48.trans (hle53.trans leS))
      have hSd6 := hSd.mono (hle53.trans leS)
      have hSc6 := hSc.mono leS
      have hsc := sub_comm hc15
      have hs17 : HI r17 ∧ r17.os.length ≤ 100 ∧ r17.es.length ≤ 600 ∧ (takenM r17).isSome = true := by subst hr17; exact ⟨hi_mono hI (List.take_sublist _ _) (List.Sublist.refl _), Nat.le_trans (List.length_take_le' _ _) hn1, hn2, taken_spare hsts⟩
      have hwl : (woT h tx).es.length ≤ 600 := Nat.le_trans (List.length_filter_le _ _) hn2
      have hpl : (pre h n).es.length ≤ 600 := Nat.le_trans (List.length_take_le' _ _) hn2
      obtain ⟨m, hm, hF⟩ := taken_wo hsts tx
      refine op (y (x_move rfl) rfl ?_)
      refine op (y (x_extract rfl rfl) rfl ?_)
      refine op (y (x_extract rfl rfl) rfl ?_)
      refine op (e_alloc rfl zc_25 rfl fun b17 => ?_)
      first | refine op (e_store 0 rfl rfl ts_25 rfl rfl rfl rfl rfl rfl ?_) | refine op (e_store 1 rfl rfl ts_25 rfl rfl rfl rfl rfl rfl ?_) | refine op (e_store 2 rfl rfl ts_25 rfl rfl rfl rfl rfl rfl ?_) | refine op (e_store 3 rfl rfl ts_25 rfl rfl rfl rfl rfl rfl ?_) | refine op (e_store 4 rfl rfl ts_25 rfl rfl rfl rfl rfl rfl ?_) | refine op (e_store 5 rfl rfl ts_25 rfl rfl rfl rfl rfl rfl ?_) | refine op (e_store 6 rfl rfl ts_25 rfl rfl rfl rfl rfl rfl ?_) | refine op (e_store 7 rfl rfl ts_25 rfl rfl rfl rfl rfl rfl ?_) | refine op (e_store 8 rfl rfl ts_25 rfl rfl rfl rfl rfl rfl ?_) | refine op (e_store 9 rfl rfl ts_25 rfl rfl rfl rfl rfl rfl ?_)
      refine op (y (x_assign rfl) rfl ?_)
      refine nil ?_
      refine n_then ?_
      refine seqM (fun F ro2' L2' => (F = [(2, .int .i64 tx), (10, .slice tA tgs.length tc), (12, .pointer (some ⟨b12, 0, none⟩))]) ∧ (L2' = [(b17, Obj.cells [Value.slice sA r17.os.length sc, Value.slice sB r17.es.length sd].toArray 25 (0, 0))] :: [(b15, Obj.cells [Value.slice cA5 r15.os.length cc, Value.slice cB5 r15.es.length cd].toArray 25 (0, 0))] :: [(b13, Obj.cells [Value.slice dA r13.os.length dc, Value.slice dB r13.es.length dd].toArray 25 (0, 0))] :: [(b12, Obj.cells [Value.slice wA (woT h tx).os.length wc, Value.slice wB (woT h tx).es.length wd].toArray 25 (0, 0))] :: [(b4, Obj.cells [Value.slice A h.os.length cA, Value.slice B h.es.length cB].toArray 25 (0, 0))] :: L) ∧ (rz2.le ro2')) ?_ ?_
      · skip
        refine seq ?_
        refine region ?_
        refine op (y ((by first | exact x_loadOwn 0 _ ag_25 rfl rfl rfl rfl | exact x_loadOwn 1 _ ag_25 rfl rfl rfl rfl | exact x_loadOwn 2 _ ag_25 rfl rfl rfl rfl | exact x_loadOwn 3 _ ag_25 rfl rfl rfl rfl | exact x_loadOwn 4 _ ag_25 rfl rfl rfl rfl | exact x_loadOwn 5 _ ag_25 rfl rfl rfl rfl | exact x_loadOwn 6 _ ag_25 rfl rfl rfl rfl | exact x_loadOwn 7 _ ag_25 rfl rfl rfl rfl | exact x_loadOwn 8 _ ag_25 rfl rfl rfl rfl | exact x_loadOwn 9 _ ag_25 rfl rfl rfl rfl | exact x_loadOwn 10 _ ag_25 rfl rfl rfl rfl | exact x_loadOwn 11 _ ag_25 rfl rfl rfl rfl)) rfl ?_)
        refine op (y (x_move rfl) rfl ?_)
        refine op (e_call rfl fn_13 rfl rfl (PHo.frozen (Prefix_o h A cA B cB _ _ hh6 n hn1 hn2)) fun v63 ro63 L63 hle63 hp63 => ?_)
        obtain ⟨pA, pc, pB, pd, rfl, hSp, rfl⟩ := hp63
        refine op (e_call rfl fn_34 rfl rfl (Check_c (pre h n) pA pc pB pd _ _ hSp hn1 hpl (sub_hi hI (sub_pre h n)) er (hG6.mono hle63)) fun v64 ro64 L64 hle64 hp64 => ?_)
        obtain ⟨hev64, hi64, rfl⟩ := hp64
        obtain rfl := isnil hev64 (hi64.2 (taken_pre hsts n))
        refine op (y (x_ifNeNil Tryd.underlying43 rfl (IfV.nil)) rfl ?_)
        refine said 65 (.bool false) rfl (rfl) ?_
        refine op (y (x_move rfl) rfl ?_)
        refine opG rfl rfl (y ((by first | exact x_loadOwn 0 _ ag_25 rfl rfl rfl rfl | exact x_loadOwn 1 _ ag_25 rfl rfl rfl rfl | exact x_loadOwn 2 _ ag_25 rfl rfl rfl rfl | exact x_loadOwn 3 _ ag_25 rfl rfl rfl rfl | exact x_loadOwn 4 _ ag_25 rfl rfl rfl rfl | exact x_loadOwn 5 _ ag_25 rfl rfl rfl rfl | exact x_loadOwn 6 _ ag_25 rfl rfl rfl rfl | exact x_loadOwn 7 _ ag_25 rfl rfl rfl rfl | exact x_loadOwn 8 _ ag_25 rfl rfl rfl rfl | exact x_loadOwn 9 _ ag_25 rfl rfl rfl rfl | exact x_loadOwn 10 _ ag_25 rfl rfl rfl rfl | exact x_loadOwn 11 _ ag_25 rfl rfl rfl rfl)) rfl ?_)
        refine opG rfl rfl (e_call rfl fn_34 rfl rfl (Check_c (woT h tx) wA wc wB wd _ _ (hSw6.mono (hle63.trans hle64)) hn1 hwl (sub_hi hI (sub_wo h tx)) er (hG6.mono (hle63.trans hle64))) fun v68 ro68 L68 hle68 hp68 => ?_)
        obtain ⟨hev68, hi68, rfl⟩ := hp68
        obtain rfl := isnil hev68 (hi68.2 (by rw [hm]; rfl))
        refine opG rfl rfl (y (x_ifNeNil Tryd.underlying43 rfl (IfV.nil)) rfl ?_)
        refine said 69 (.bool false) rfl (rfl) ?_
        refine op (y (x_pickF rfl rfl) rfl ?_)
        refine op (y (x_move rfl) rfl ?_)
        refine opG rfl rfl (y (x_move rfl) rfl ?_)
        refine opG rfl rfl (y (x_ifEqNil Tryd.underlying43 rfl (hev14)) rfl ?_)
        refine opG rfl rfl (y (x_move rfl) rfl ?_)
        refine bsplit 74 rfl (fun g74 => ?_) (fun g74 => ?_)
        · try simp only [decide_eq_true_eq, decide_eq_false_iff_not, beq_iff_eq, bne_iff_ne, ne_eq, beq_eq_false_iff_ne, bne_eq_false_iff_eq, Bool.not_eq_true', Bool.not_eq_false', Bool.not_eq_true, Bool.not_eq_false, Decidable.not_not, Int.not_lt, Int.not_le] at g74
          refine opG rfl rfl (y ((by first | exact x_loadOwn 0 _ ag_25 rfl rfl rfl rfl | exact x_loadOwn 1 _ ag_25 rfl rfl rfl rfl | exact x_loadOwn 2 _ ag_25 rfl rfl rfl rfl | exact x_loadOwn 3 _ ag_25 rfl rfl rfl rfl | exact x_loadOwn 4 _ ag_25 rfl rfl rfl rfl | exact x_loadOwn 5 _ ag_25 rfl rfl rfl rfl | exact x_loadOwn 6 _ ag_25 rfl rfl rfl rfl | exact x_loadOwn 7 _ ag_25 rfl rfl rfl rfl | exact x_loadOwn 8 _ ag_25 rfl rfl rfl rfl | exact x_loadOwn 9 _ ag_25 rfl rfl rfl rfl | exact x_loadOwn 10 _ ag_25 rfl rfl rfl rfl | exact x_loadOwn 11 _ ag_25 rfl rfl rfl rfl)) rfl ?_)
          have hd13 : dropM h tx k = some r13 := by rcases hcd with ⟨_, hd⟩ | ⟨⟨t, u, rfl⟩, _⟩; exact hd; exact absurd (show isNilI (Value.iface t u) = true from g74) (by simp [isNilI])
          have hsd := sub_drop hd13
          refine opG rfl rfl (e_call rfl fn_34 rfl rfl (Check_c r13 dA dc dB dd _ _ (hSd6.mono (hle63.trans (hle64.trans hle68))) (sub_ol hsd hn1) (sub_el hsd hn2) (sub_hi hI hsd) er (hG6.mono (hle63.trans (hle64.trans hle68)))) fun v76 ro76 L76 hle76 hp76 => ?_)
          obtain ⟨hev76, hi76, rfl⟩ := hp76
          obtain rfl := isnil hev76 (hi76.2 (taken_drop hsts hd13))
          refine opG rfl rfl (y (x_ifNeNil Tryd.underlying43 rfl (IfV.nil)) rfl ?_)
          refine said 77 (.bool false) rfl (rfl) ?_
          refine opG rfl rfl (y (x_pickT rfl rfl) rfl ?_)
          refine op (y (x_pickF rfl rfl) rfl ?_)
          refine op (y (x_move rfl) rfl ?_)
          refine opG rfl rfl (y (x_move rfl) rfl ?_)
          refine opG rfl rfl (y (x_ifNeNil Tryd.underlying43 rfl (IfV.nil)) rfl ?_)
          refine said 82 (.bool false) rfl (rfl) ?_
          refine op (y (x_pickF rfl rfl) rfl ?_)
          refine op (y (x_move rfl) rfl ?_)
          refine opG rfl rfl (y ((by first | exact x_loadOwn 0 _ ag_25 rfl rfl rfl rfl | exact x_loadOwn 1 _ ag_25 rfl rfl rfl rfl | exact x_loadOwn 2 _ ag_25 rfl rfl rfl rfl | exact x_loadOwn 3 _ ag_25 rfl rfl rfl rfl | exact x_loadOwn 4 _ ag_25 rfl rfl rfl rfl | exact x_loadOwn 5 _ ag_25 rfl rfl rfl rfl | exact x_loadOwn 6 _ ag_25 rfl rfl rfl rfl | exact x_loadOwn 7 _ ag_25 rfl rfl rfl rfl | exact x_loadOwn 8 _ ag_25 rfl rfl rfl rfl | exact x_loadOwn 9 _ ag_25 rfl rfl rfl rfl | exact x_loadOwn 10 _ ag_25 rfl rfl rfl rfl | exact x_loadOwn 11 _ ag_25 rfl rfl rfl rfl)) rfl ?_)
          have leT := by first | exact hle63.trans (hle64.trans (hle68.trans hle76)) | exact hle63.trans (hle64.trans hle68)
          refine opG rfl rfl (e_call rfl fn_34 rfl rfl (Check_c r15 cA5 cc cB5 cd _ _ (hSc6.mono leT) (sub_ol hsc hn1) (sub_el hsc hn2) (sub_hi hI hsc) er (hG6.mono leT)) fun v86 ro86 L86 hle86 hp86 => ?_)
          obtain ⟨hev86, hi86, rfl⟩ := hp86
          obtain rfl := isnil hev86 (hi86.2 (hrt5))
          refine opG rfl rfl (y (x_ifNeNil Tryd.underlying43 rfl (IfV.nil)) rfl ?_)
          refine said 87 (.bool false) rfl (rfl) ?_
          refine op (y (x_pickF rfl rfl) rfl ?_)
          refine op (y (x_move rfl) rfl ?_)
          refine opG rfl rfl (y (x_move rfl) rfl ?_)
          refine opG rfl rfl (y (x_ifNeNil Tryd.underlying43 rfl (IfV.nil)) rfl ?_)
          refine said 91 (.bool false) rfl (rfl) ?_
          refine op (y (x_pickF rfl rfl) rfl ?_)
          refine op (y (x_move rfl) rfl ?_)
          refine opG rfl rfl (y ((by first | exact x_loadOwn 0 _ ag_25 rfl rfl rfl rfl | exact x_loadOwn 1 _ ag_25 rfl rfl rfl rfl | exact x_loadOwn 2 _ ag_25 rfl rfl rfl rfl | exact x_loadOwn 3 _ ag_25 rfl rfl rfl rfl | exact x_loadOwn 4 _ ag_25 rfl rfl rfl rfl | exact x_loadOwn 5 _ ag_25 rfl rfl rfl rfl | exact x_loadOwn 6 _ ag_25 rfl rfl rfl rfl | exact x_loadOwn 7 _ ag_25 rfl rfl rfl rfl | exact x_loadOwn 8 _ ag_25 rfl rfl rfl rfl | exact x_loadOwn 9 _ ag_25 rfl rfl rfl rfl | exact x_loadOwn 10 _ ag_25 rfl rfl rfl rfl | exact x_loadOwn 11 _ ag_25 rfl rfl rfl rfl)) rfl ?_)
          refine opG rfl rfl (e_call rfl fn_34 rfl rfl (Check_c r17 sA sc sB sd _ _ (hSs.mono (leT.trans hle86)) hs17.2.1 hs17.2.2.1 hs17.1 er (hG6.mono (leT.trans hle86))) fun v95 ro95 L95 hle95 hp95 => ?_)
          obtain ⟨hev95, hi95, rfl⟩ := hp95
          obtain rfl := isnil hev95 (hi95.2 (hs17.2.2.2))
          refine opG rfl rfl (y (x_ifNeNil Tryd.underlying43 rfl (IfV.nil)) rfl ?_)
          refine said 96 (.bool false) rfl (rfl) ?_
          refine op (y (x_pickF rfl rfl) rfl ?_)
          refine said 97 (.bool false) rfl (rfl) ?_
          refine nil ?_
          refine n_then ?_
          refine condF rfl ?_
          refine skip ?_
          exact mid [(2, .int .i64 tx), (10, .slice tA tgs.length tc), (12, .pointer (some ⟨b12, 0, none⟩))] ⟨rfl, rfl, rfl, trivial⟩ ⟨rfl, rfl, leT.trans (hle86.trans hle95)⟩
        · try simp only [decide_eq_true_eq, decide_eq_false_iff_not, beq_iff_eq, bne_iff_ne, ne_eq, beq_eq_false_iff_ne, bne_eq_false_iff_eq, Bool.not_eq_true', Bool.not_eq_false', Bool.not_eq_true, Bool.not_eq_false, Decidable.not_not, Int.not_lt, Int.not_le] at g74
          refine opN rfl rfl rfl rfl ?_
          refine opN rfl rfl rfl rfl ?_
          refine opN rfl rfl rfl rfl ?_
          refine opG rfl rfl (y (x_pickF rfl rfl) rfl ?_)
          refine op (y (x_pickF rfl rfl) rfl ?_)
          refine op (y (x_move rfl) rfl ?_)
          refine opG rfl rfl (y (x_move rfl) rfl ?_)
          refine opG rfl rfl (y (x_ifNeNil Tryd.underlying43 rfl (IfV.nil)) rfl ?_)
          refine said 82 (.bool false) rfl (rfl) ?_
          refine op (y (x_pickF rfl rfl) rfl ?_)
          refine op (y (x_move rfl) rfl ?_)
          refine opG rfl rfl (y ((by first | exact x_loadOwn 0 _ ag_25 rfl rfl rfl rfl | exact x_loadOwn 1 _ ag_25 rfl rfl rfl rfl | exact x_loadOwn 2 _ ag_25 rfl rfl rfl rfl | exact x_loadOwn 3 _ ag_25 rfl rfl rfl rfl | exact x_loadOwn 4 _ ag_25 rfl rfl rfl rfl | exact x_loadOwn 5 _ ag_25 rfl rfl rfl rfl | exact x_loadOwn 6 _ ag_25 rfl rfl rfl rfl | exact x_loadOwn 7 _ ag_25 rfl rfl rfl rfl | exact x_loadOwn 8 _ ag_25 rfl rfl rfl rfl | exact x_loadOwn 9 _ ag_25 rfl rfl rfl rfl | exact x_loadOwn 10 _ ag_25 rfl rfl rfl rfl | exact x_loadOwn 11 _ ag_25 rfl rfl rfl rfl)) rfl ?_)
          have leT := by first | exact hle63.trans (hle64.trans (hle68.trans hle76)) | exact hle63.trans (hle64.trans hle68)
          refine opG rfl rfl (e_call rfl fn_34 rfl rfl (Check_c r15 cA5 cc cB5 cd _ _ (hSc6.mono leT) (sub_ol hsc hn1) (sub_el hsc hn2) (sub_hi hI hsc) er (hG6.mono leT)) fun v86 ro86 L86 hle86 hp86 => ?_)
          obtain ⟨hev86, hi86, rfl⟩ := hp86
          obtain rfl := isnil hev86 (hi86.2 (hrt5))
          refine opG rfl rfl (y (x_ifNeNil Tryd.underlying43 rfl (IfV.nil)) rfl ?_)
          refine said 87 (.bool false) rfl (rfl) ?_
          refine op (y (x_pickF rfl rfl) rfl ?_)
          refine op (y (x_move rfl) rfl ?_)
          refine opG rfl rfl (y (x_move rfl) rfl ?_)
          refine opG rfl rfl (y (x_ifNeNil Tryd.underlying43 rfl (IfV.nil)) rfl ?_)
          refine said 91 (.bool false) rfl (rfl) ?_
          refine op (y (x_pickF rfl rfl) rfl ?_)
          refine op (y (x_move rfl) rfl ?_)
          refine opG rfl rfl (y ((by first | exact x_loadOwn 0 _ ag_25 rfl rfl rfl rfl | exact x_loadOwn 1 _ ag_25 rfl rfl rfl rfl | exact x_loadOwn 2 _ ag_25 rfl rfl rfl rfl | exact x_loadOwn 3 _ ag_25 rfl rfl rfl rfl | exact x_loadOwn 4 _ ag_25 rfl rfl rfl rfl | exact x_loadOwn 5 _ ag_25 rfl rfl rfl rfl | exact x_loadOwn 6 _ ag_25 rfl rfl rfl rfl | exact x_loadOwn 7 _ ag_25 rfl rfl rfl rfl | exact x_loadOwn 8 _ ag_25 rfl rfl rfl rfl | exact x_loadOwn 9 _ ag_25 rfl rfl rfl rfl | exact x_loadOwn 10 _ ag_25 rfl rfl rfl rfl | exact x_loadOwn 11 _ ag_25 rfl rfl rfl rfl)) rfl ?_)
          refine opG rfl rfl (e_call rfl fn_34 rfl rfl (Check_c r17 sA sc sB sd _ _ (hSs.mono (leT.trans hle86)) hs17.2.1 hs17.2.2.1 hs17.1 er (hG6.mono (leT.trans hle86))) fun v95 ro95 L95 hle95 hp95 => ?_)
          obtain ⟨hev95, hi95, rfl⟩ := hp95
          obtain rfl := isnil hev95 (hi95.2 (hs17.2.2.2))
          refine opG rfl rfl (y (x_ifNeNil Tryd.underlying43 rfl (IfV.nil)) rfl ?_)
          refine said 96 (.bool false) rfl (rfl) ?_
          refine op (y (x_pickF rfl rfl) rfl ?_)
          refine said 97 (.bool false) rfl (rfl) ?_
          refine nil ?_
          refine n_then ?_
          refine condF rfl ?_
          refine skip ?_
          exact mid [(2, .int .i64 tx), (10, .slice tA tgs.length tc), (12, .pointer (some ⟨b12, 0, none⟩))] ⟨rfl, rfl, rfl, trivial⟩ ⟨rfl, rfl, leT.trans (hle86.trans hle95)⟩
      · rintro F ro2' L2' ⟨rfl, rfl, hro2⟩
        refine seq ?_
        refine region ?_
        refine op (y ((by first | exact x_loadOwn 0 _ ag_25 rfl rfl rfl rfl | exact x_loadOwn 1 _ ag_25 rfl rfl rfl rfl | exact x_loadOwn 2 _ ag_25 rfl rfl rfl rfl | exact x_loadOwn 3 _ ag_25 rfl rfl rfl rfl | exact x_loadOwn 4 _ ag_25 rfl rfl rfl rfl | exact x_loadOwn 5 _ ag_25 rfl rfl rfl rfl | exact x_loadOwn 6 _ ag_25 rfl rfl rfl rfl | exact x_loadOwn 7 _ ag_25 rfl rfl rfl rfl | exact x_loadOwn 8 _ ag_25 rfl rfl rfl rfl | exact x_loadOwn 9 _ ag_25 rfl rfl rfl rfl | exact x_loadOwn 10 _ ag_25 rfl rfl rfl rfl | exact x_loadOwn 11 _ ag_25 rfl rfl rfl rfl)) rfl ?_)
        refine op (e_call rfl fn_32 rfl rfl (Table_c (woT h tx) wA wc wB wd _ _ (hSw6.mono hro2) hn1 hwl (sub_hi hI (sub_wo h tx)) er (hG6.mono hro2)) fun v100 ro100 L100 hle100 hp100 => ?_)
        obtain ⟨uA, uc, ugs, ev100, rfl, hev100, hcase100, rfl⟩ := hp100
        rcases hcase100.symm with ⟨_, hno, _⟩ | ⟨_, ⟨sts2, hsts2, hmp2⟩, hSu⟩
        · rw [hm] at hno; cases hno
        obtain rfl : sts2 = m := by rw [hm] at hsts2; cases hsts2; rfl
        have hStx := hSt.mono (hle43.trans (hle48.trans (hle53.trans (leS.trans (hro2.trans hle100)))))
        refine op (y (x_move rfl) rfl ?_)
        refine op (y (x_extract rfl rfl) rfl ?_)
        refine op (y (x_extract rfl rfl) rfl ?_)
        refine op (y (x_assign rfl) rfl ?_)
        refine op (y (x_assign rfl) rfl ?_)
        refine nil ?_
        refine n_then ?_
        refine seq ?_
        refine region ?_
        refine op (y (x_assign rfl) rfl ?_)
        refine nil ?_
        refine n_then ?_
        refine seq ?_
        refine seq ?_
        refine region ?_
        refine op (y (x_assign rfl) rfl ?_)
        refine nil ?_
        refine n_then ?_
        refine block ?_
        obtain ⟨roX, hroX⟩ : ∃ roX, ro100 = roX := ⟨_, rfl⟩
        subst hroX
        have hlt : tgs.length = sts.length := by have := congrArg List.length hmp; simpa using this
        have htb : tgs.length ≤ 9223372036854775807 := by have h1 := hSt.sl.1; have h2 := hSt.sl.2.1; unfold maxLen at h2; omega
        refine loop (fun m F ro' L' => ∃ (i : Nat) (j : Nat), (m = tgs.length - i) ∧ (F = [(2, .int .i64 tx), (10, .slice tA tgs.length tc), (19, .slice uA ugs.length uc), (21, .int .i64 (j : Nat)), (22, .int .i64 (i : Nat))]) ∧ (ro100 = ro') ∧ (L' = [(b17, Obj.cells [Value.slice sA r17.os.length sc, Value.slice sB r17.es.length sd].toArray 25 (0, 0))] :: [(b15, Obj.cells [Value.slice cA5 r15.os.length cc, Value.slice cB5 r15.es.length cd].toArray 25 (0, 0))] :: [(b13, Obj.cells [Value.slice dA r13.os.length dc, Value.slice dB r13.es.length dd].toArray 25 (0, 0))] :: [(b12, Obj.cells [Value.slice wA (woT h tx).os.length wc, Value.slice wB (woT h tx).es.length wd].toArray 25 (0, 0))] :: [(b4, Obj.cells [Value.slice A h.os.length cA, Value.slice B h.es.length cB].toArray 25 (0, 0))] :: L) ∧ (i ≤ tgs.length) ∧ (j = ((sts.take i).filter (qT tx)).length) ∧ (j ≤ i)) (tgs.length - 0) [(2, .int .i64 tx), (10, .slice tA tgs.length tc), (19, .slice uA ugs.length uc), (21, .int .i64 (0 : Nat)), (22, .int .i64 (0 : Nat))] ⟨rfl, rfl, rfl, rfl, rfl, trivial⟩ ⟨0, 0, rfl, rfl, rfl, rfl, by omega, rfl, by omega⟩ ?_
        rintro m F ro' L' ⟨i, j, rfl, rfl, rfl, rfl, hi, hj, hji⟩
        refine seq ?_
        refine seq ?_
        refine region ?_
        refine op (y (x_move rfl) rfl ?_)
        refine op (y (x_move rfl) rfl ?_)
        refine op (y (x_lenSl sz_55 rfl) rfl ?_)
        refine op (y (x_lss rfl rfl) rfl ?_)
        refine nil ?_
        refine n_then ?_
        refine cond rfl (fun h18 => ?_) (fun h18 => ?_)
        · try simp only [decide_eq_true_eq, decide_eq_false_iff_not, beq_iff_eq, bne_iff_ne, ne_eq, beq_eq_false_iff_ne, bne_eq_false_iff_eq, Bool.not_eq_true', Bool.not_eq_false', Bool.not_eq_true, Bool.not_eq_false, Decidable.not_not, Int.not_lt, Int.not_le] at h18
          refine skip ?_
          refine n_then ?_
          refine seq ?_
          refine block ?_
          refine seq ?_
          refine seq ?_
          have hsl := hStx.sl
          obtain ⟨bbx, offx, rfl, hcx⟩ := hsl.at_ (i := i) (by omega)
          have hx := List.getElem?_eq_getElem (show i < tgs.length from by omega)
          refine region ?_
          refine op (y (x_move rfl) rfl ?_)
          refine op (y (x_move rfl) rfl ?_)
          refine op (y (x_indexNat sz_55 rfl rfl (by omega)) rfl ?_)
          refine op (y (x_fieldAddr fo_61_0 rfl) rfl ?_)
          refine op (y (x_load1 ag_3 rfl (Cell.ofRo (hcx i _ hx 0 _ rfl))) rfl ?_)
          refine op (y (x_move rfl) rfl ?_)
          refine op (y (x_eql rfl rfl) rfl ?_)
          refine nil ?_
          refine n_then ?_
          refine cond rfl (fun h20 => ?_) (fun h20 => ?_)
          · try simp only [decide_eq_true_eq, decide_eq_false_iff_not, beq_iff_eq, bne_iff_ne, ne_eq, beq_eq_false_iff_ne, bne_eq_false_iff_eq, Bool.not_eq_true', Bool.not_eq_false', Bool.not_eq_true, Bool.not_eq_false, Decidable.not_not, Int.not_lt, Int.not_le] at h20
            refine exit ?_
            refine e_then ?_
            refine e_in ?_
            refine n_then ?_
            refine region ?_
            refine op (y (x_move rfl) rfl ?_)
            refine op (y (x_add rfl rfl _ (wr (by omega) (by omega))) rfl ?_)
            refine op (y (x_assign rfl) rfl ?_)
            refine nil ?_
            have hs2 : sts[i]? = some sts[i] := List.getElem?_eq_getElem (by omega)
            have hid : (sts[i]).tx = (tgs[i]).tm := by have h1 : (tgs.map (·.tm))[i]? = some (tgs[i]).tm := (by rw [List.getElem?_map, hx]; rfl); rw [hmp, List.getElem?_map, hs2] at h1; simpa using h1
            first | exact round (tgs.length - (i + 1)) [(2, .int .i64 tx), (10, .slice _ tgs.length tc), (19, .slice _ ugs.length uc), (21, .int .i64 ((j + 1) : Nat)), (22, .int .i64 ((i + 1) : Nat))] (by omega) ⟨rfl, rfl, rfl, rfl, rfl, trivial⟩ ⟨i + 1, j + 1, rfl, rfl, rfl, rfl, by omega, by rw [flt_snoc hs2, if_pos (by unfold qT; rw [hid]; simpa using h20), List.length_append, hjj]; rfl, by omega⟩ | exact round (tgs.length - (i + 1)) [(2, .int .i64 tx), (10, .slice _ tgs.length tc), (19, .slice _ ugs.length uc), (21, .int .i64 (j : Nat)), (22, .int .i64 ((i + 1) : Nat))] (by omega) ⟨rfl, rfl, rfl, rfl, rfl, trivial⟩ ⟨i + 1, j, rfl, rfl, rfl, rfl, by omega, by rw [flt_snoc hs2, if_neg (by unfold qT; rw [hid]; simpa using h20), List.append_nil]; exact hj, by omega⟩
          · try simp only [decide_eq_true_eq, decide_eq_false_iff_not, beq_iff_eq, bne_iff_ne, ne_eq, beq_eq_false_iff_ne, bne_eq_false_iff_eq, Bool.not_eq_true', Bool.not_eq_false', Bool.not_eq_true, Bool.not_eq_false, Decidable.not_not, Int.not_lt, Int.not_le] at h20
            refine skip ?_
            refine n_then ?_
            refine seq ?_
            refine seq ?_
            obtain ⟨hjl, e0, e1, e2, e3⟩ := tab_at (h := h) hmp hmp2 hF (show i < tgs.length by omega) h20
            subst hj
            have hul := hSu.sl
            generalize hjj : ((sts.take i).filter (qT tx)).length = j at *
            obtain ⟨bbu, offu, rfl, hcu⟩ := hul.at_ (i := j) (by omega)
            have hu := List.getElem?_eq_getElem (show j < ugs.length from by omega)
            refine draw (([] : List Blk)) (by kernel_rfl) ?_
            refine d_take 0 rfl (by kernel_rfl) (by kernel_rfl) (by kernel_rfl) (fun _ _ _ h => h) rfl (.inl rfl) (x_move rfl) (fun w hi => by first | exact hi.j | exact J.of_le (Ro.le.refl _) (fun x hx => List.mem_append_right _ hx) hi | exact J.of_le (Ro.le.refl _) (fun x hx => List.mem_append_right _ (List.mem_append_right _ hx)) hi | exact J.of_le (Ro.le.refl _) (fun x hx => absurd hx (by simp)) hi | exact J.of_le (by assumption) (fun x hx => absurd hx (by simp)) hi) ?_
            refine d_take 1 rfl (by kernel_rfl) (by kernel_rfl) (by kernel_rfl) (fun _ _ _ h => h) rfl (.inl rfl) (x_move rfl) (fun w hi => by first | exact hi.j | exact J.of_le (Ro.le.refl _) (fun x hx => List.mem_append_right _ hx) hi | exact J.of_le (Ro.le.refl _) (fun x hx => List.mem_append_right _ (List.mem_append_right _ hx)) hi | exact J.of_le (Ro.le.refl _) (fun x hx => absurd hx (by simp)) hi | exact J.of_le (by assumption) (fun x hx => absurd hx (by simp)) hi) ?_
            refine d_take 2 rfl (by kernel_rfl) (by kernel_rfl) (by kernel_rfl) (fun _ _ _ h => h) rfl (.inl rfl) (x_lenSl sz_55 rfl) (fun w hi => by first | exact hi.j | exact J.of_le (Ro.le.refl _) (fun x hx => List.mem_append_right _ hx) hi | exact J.of_le (Ro.le.refl _) (fun x hx => List.mem_append_right _ (List.mem_append_right _ hx)) hi | exact J.of_le (Ro.le.refl _) (fun x hx => absurd hx (by simp)) hi | exact J.of_le (by assumption) (fun x hx => absurd hx (by simp)) hi) ?_
            refine d_take 3 rfl (by kernel_rfl) (by kernel_rfl) (by kernel_rfl) (fun _ _ _ h => h) rfl (.inl rfl) (x_geq rfl rfl) (fun w hi => by first | exact hi.j | exact J.of_le (Ro.le.refl _) (fun x hx => List.mem_append_right _ hx) hi | exact J.of_le (Ro.le.refl _) (fun x hx => List.mem_append_right _ (List.mem_append_right _ hx)) hi | exact J.of_le (Ro.le.refl _) (fun x hx => absurd hx (by simp)) hi | exact J.of_le (by assumption) (fun x hx => absurd hx (by simp)) hi) ?_
            refine said 119 (.bool false) rfl (by simp; omega) ?_
            refine d_take 4 rfl (by kernel_rfl) (by kernel_rfl) (by kernel_rfl) (fun _ _ _ h => h) rfl (.inl rfl) (x_move rfl) (fun w hi => by first | exact hi.j | exact J.of_le (Ro.le.refl _) (fun x hx => List.mem_append_right _ hx) hi | exact J.of_le (Ro.le.refl _) (fun x hx => List.mem_append_right _ (List.mem_append_right _ hx)) hi | exact J.of_le (Ro.le.refl _) (fun x hx => absurd hx (by simp)) hi | exact J.of_le (by assumption) (fun x hx => absurd hx (by simp)) hi) ?_
            refine d_take 5 rfl (by kernel_rfl) (by kernel_rfl) (by kernel_rfl) (fun _ _ _ h => h) rfl (.inr ⟨_, _, _, rfl, rfl, rfl⟩) (x_move rfl) (fun w hi => by first | exact hi.j | exact J.of_le (Ro.le.refl _) (fun x hx => List.mem_append_right _ hx) hi | exact J.of_le (Ro.le.refl _) (fun x hx => List.mem_append_right _ (List.mem_append_right _ hx)) hi | exact J.of_le (Ro.le.refl _) (fun x hx => absurd hx (by simp)) hi | exact J.of_le (by assumption) (fun x hx => absurd hx (by simp)) hi) ?_
            refine d_take 6 rfl (by kernel_rfl) (by kernel_rfl) (by kernel_rfl) (fun _ _ _ h => h) rfl (.inr ⟨_, _, _, rfl, rfl, rfl⟩) (x_move rfl) (fun w hi => by first | exact hi.j | exact J.of_le (Ro.le.refl _) (fun x hx => List.mem_append_right _ hx) hi | exact J.of_le (Ro.le.refl _) (fun x hx => List.mem_append_right _ (List.mem_append_right _ hx)) hi | exact J.of_le (Ro.le.refl _) (fun x hx => absurd hx (by simp)) hi | exact J.of_le (by assumption) (fun x hx => absurd hx (by simp)) hi) ?_
            refine d_take 7 rfl (by kernel_rfl) (by kernel_rfl) (by kernel_rfl) (fun _ _ _ h => h) rfl (.inr ⟨_, _, _, rfl, rfl, rfl⟩) (x_indexNat sz_55 rfl rfl (by omega)) (fun w hi => by first | exact hi.j | exact J.of_le (Ro.le.refl _) (fun x hx => List.mem_append_right _ hx) hi | exact J.of_le (Ro.le.refl _) (fun x hx => List.mem_append_right _ (List.mem_append_right _ hx)) hi | exact J.of_le (Ro.le.refl _) (fun x hx => absurd hx (by simp)) hi | exact J.of_le (by assumption) (fun x hx => absurd hx (by simp)) hi) ?_
            refine d_take 8 rfl (by kernel_rfl) (by kernel_rfl) (by kernel_rfl) (fun _ _ _ h => h) rfl (.inr ⟨_, _, _, rfl, rfl, rfl⟩) (x_fieldAddr fo_61_0 rfl) (fun w hi => by first | exact hi.j | exact J.of_le (Ro.le.refl _) (fun x hx => List.mem_append_right _ hx) hi | exact J.of_le (Ro.le.refl _) (fun x hx => List.mem_append_right _ (List.mem_append_right _ hx)) hi | exact J.of_le (Ro.le.refl _) (fun x hx => absurd hx (by simp)) hi | exact J.of_le (by assumption) (fun x hx => absurd hx (by simp)) hi) ?_
            refine d_take 9 rfl (by kernel_rfl) (by kernel_rfl) (by kernel_rfl) (fun _ _ _ h => h) rfl (.inr ⟨_, _, _, rfl, rfl, rfl⟩) (x_load1 ag_3 rfl (Cell.ofRo (hcu j _ hu 0 _ rfl))) (fun w hi => by first | exact hi.j | exact J.of_le (Ro.le.refl _) (fun x hx => List.mem_append_right _ hx) hi | exact J.of_le (Ro.le.refl _) (fun x hx => List.mem_append_right _ (List.mem_append_right _ hx)) hi | exact J.of_le (Ro.le.refl _) (fun x hx => absurd hx (by simp)) hi | exact J.of_le (by assumption) (fun x hx => absurd hx (by simp)) hi) ?_
            refine d_take 10 rfl (by kernel_rfl) (by kernel_rfl) (by kernel_rfl) (fun _ _ _ h => h) rfl (.inr ⟨_, _, _, rfl, rfl, rfl⟩) (x_move rfl) (fun w hi => by first | exact hi.j | exact J.of_le (Ro.le.refl _) (fun x hx => List.mem_append_right _ hx) hi | exact J.of_le (Ro.le.refl _) (fun x hx => List.mem_append_right _ (List.mem_append_right _ hx)) hi | exact J.of_le (Ro.le.refl _) (fun x hx => absurd hx (by simp)) hi | exact J.of_le (by assumption) (fun x hx => absurd hx (by simp)) hi) ?_
            refine d_take 11 rfl (by kernel_rfl) (by kernel_rfl) (by kernel_rfl) (fun _ _ _ h => h) rfl (.inr ⟨_, _, _, rfl, rfl, rfl⟩) (x_move rfl) (fun w hi => by first | exact hi.j | exact J.of_le (Ro.le.refl _) (fun x hx => List.mem_append_right _ hx) hi | exact J.of_le (Ro.le.refl _) (fun x hx => List.mem_append_right _ (List.mem_append_right _ hx)) hi | exact J.of_le (Ro.le.refl _) (fun x hx => absurd hx (by simp)) hi | exact J.of_le (by assumption) (fun x hx => absurd hx (by simp)) hi) ?_
            refine d_take 12 rfl (by kernel_rfl) (by kernel_rfl) (by kernel_rfl) (fun _ _ _ h => h) rfl (.inr ⟨_, _, _, rfl, rfl, rfl⟩) (x_indexNat sz_55 rfl rfl (by omega)) (fun w hi => by first | exact hi.j | exact J.of_le (Ro.le.refl _) (fun x hx => List.mem_append_right _ hx) hi | exact J.of_le (Ro.le.refl _) (fun x hx => List.mem_append_right _ (List.mem_append_right _ hx)) hi | exact J.of_le (Ro.le.refl _) (fun x hx => absurd hx (by simp)) hi | exact J.of_le (by assumption) (fun x hx => absurd hx (by simp)) hi) ?_
            refine d_take 13 rfl (by kernel_rfl) (by kernel_rfl) (by kernel_rfl) (fun _ _ _ h => h) rfl (.inr ⟨_, _, _, rfl, rfl, rfl⟩) (x_fieldAddr fo_61_0 rfl) (fun w hi => by first | exact hi.j | exact J.of_le (Ro.le.refl _) (fun x hx => List.mem_append_right _ hx) hi | exact J.of_le (Ro.le.refl _) (fun x hx => List.mem_append_right _ (List.mem_append_right _ hx)) hi | exact J.of_le (Ro.le.refl _) (fun x hx => absurd hx (by simp)) hi | exact J.of_le (by assumption) (fun x hx => absurd hx (by simp)) hi) ?_
            refine d_take 14 rfl (by kernel_rfl) (by kernel_rfl) (by kernel_rfl) (fun _ _ _ h => h) rfl (.inr ⟨_, _, _, rfl, rfl, rfl⟩) (x_load1 ag_3 rfl (Cell.ofRo (hcx i _ hx 0 _ rfl))) (fun w hi => by first | exact hi.j | exact J.of_le (Ro.le.refl _) (fun x hx => List.mem_append_right _ hx) hi | exact J.of_le (Ro.le.refl _) (fun x hx => List.mem_append_right _ (List.mem_append_right _ hx)) hi | exact J.of_le (Ro.le.refl _) (fun x hx => absurd hx (by simp)) hi | exact J.of_le (by assumption) (fun x hx => absurd hx (by simp)) hi) ?_
            refine d_take 15 rfl (by kernel_rfl) (by kernel_rfl) (by kernel_rfl) (fun _ _ _ h => h) rfl (.inr ⟨_, _, _, rfl, rfl, rfl⟩) (x_neq rfl rfl) (fun w hi => by first | exact hi.j | exact J.of_le (Ro.le.refl _) (fun x hx => List.mem_append_right _ hx) hi | exact J.of_le (Ro.le.refl _) (fun x hx => List.mem_append_right _ (List.mem_append_right _ hx)) hi | exact J.of_le (Ro.le.refl _) (fun x hx => absurd hx (by simp)) hi | exact J.of_le (by assumption) (fun x hx => absurd hx (by simp)) hi) ?_
            refine said 131 (.bool false) rfl (by simp [e0]) ?_
            refine d_take 16 rfl (by kernel_rfl) (by kernel_rfl) (by kernel_rfl) (fun _ _ _ h => h) rfl (.inl rfl) (x_pickF rfl rfl) (fun w hi => by first | exact hi.j | exact J.of_le (Ro.le.refl _) (fun x hx => List.mem_append_right _ hx) hi | exact J.of_le (Ro.le.refl _) (fun x hx => List.mem_append_right _ (List.mem_append_right _ hx)) hi | exact J.of_le (Ro.le.refl _) (fun x hx => absurd hx (by simp)) hi | exact J.of_le (by assumption) (fun x hx => absurd hx (by simp)) hi) ?_
            refine d_take 17 rfl (by kernel_rfl) (by kernel_rfl) (by kernel_rfl) (fun _ _ _ h => h) rfl (.inl rfl) (x_move rfl) (fun w hi => by first | exact hi.j | exact J.of_le (Ro.le.refl _) (fun x hx => List.mem_append_right _ hx) hi | exact J.of_le (Ro.le.refl _) (fun x hx => List.mem_append_right _ (List.mem_append_right _ hx)) hi | exact J.of_le (Ro.le.refl _) (fun x hx => absurd hx (by simp)) hi | exact J.of_le (by assumption) (fun x hx => absurd hx (by simp)) hi) ?_
            refine d_take 18 rfl (by kernel_rfl) (by kernel_rfl) (by kernel_rfl) (fun _ _ _ h => h) rfl (.inr ⟨_, _, _, rfl, rfl, rfl⟩) (x_move rfl) (fun w hi => by first | exact hi.j | exact J.of_le (Ro.le.refl _) (fun x hx => List.mem_append_right _ hx) hi | exact J.of_le (Ro.le.refl _) (fun x hx => List.mem_append_right _ (List.mem_append_right _ hx)) hi | exact J.of_le (Ro.le.refl _) (fun x hx => absurd hx (by simp)) hi | exact J.of_le (by assumption) (fun x hx => absurd hx (by simp)) hi) ?_
            refine d_take 19 rfl (by kernel_rfl) (by kernel_rfl) (by kernel_rfl) (fun _ _ _ h => h) rfl (.inr ⟨_, _, _, rfl, rfl, rfl⟩) (x_move rfl) (fun w hi => by first | exact hi.j | exact J.of_le (Ro.le.refl _) (fun x hx => List.mem_append_right _ hx) hi | exact J.of_le (Ro.le.refl _) (fun x hx => List.mem_append_right _ (List.mem_append_right _ hx)) hi | exact J.of_le (Ro.le.refl _) (fun x hx => absurd hx (by simp)) hi | exact J.of_le (by assumption) (fun x hx => absurd hx (by simp)) hi) ?_
            refine d_take 20 rfl (by kernel_rfl) (by kernel_rfl) (by kernel_rfl) (fun _ _ _ h => h) rfl (.inr ⟨_, _, _, rfl, rfl, rfl⟩) (x_indexNat sz_55 rfl rfl (by omega)) (fun w hi => by first | exact hi.j | exact J.of_le (Ro.le.refl _) (fun x hx => List.mem_append_right _ hx) hi | exact J.of_le (Ro.le.refl _) (fun x hx => List.mem_append_right _ (List.mem_append_right _ hx)) hi | exact J.of_le (Ro.le.refl _) (fun x hx => absurd hx (by simp)) hi | exact J.of_le (by assumption) (fun x hx => absurd hx (by simp)) hi) ?_
            refine d_take 21 rfl (by kernel_rfl) (by kernel_rfl) (by kernel_rfl) (fun _ _ _ h => h) rfl (.inr ⟨_, _, _, rfl, rfl, rfl⟩) (x_fieldAddr fo_61_2 rfl) (fun w hi => by first | exact hi.j | exact J.of_le (Ro.le.refl _) (fun x hx => List.mem_append_right _ hx) hi | exact J.of_le (Ro.le.refl _) (fun x hx => List.mem_append_right _ (List.mem_append_right _ hx)) hi | exact J.of_le (Ro.le.refl _) (fun x hx => absurd hx (by simp)) hi | exact J.of_le (by assumption) (fun x hx => absurd hx (by simp)) hi) ?_
            refine d_take 22 rfl (by kernel_rfl) (by kernel_rfl) (by kernel_rfl) (fun _ _ _ h => h) rfl (.inr ⟨_, _, _, rfl, rfl, rfl⟩) (x_load1 ag_3 rfl (Cell.ofRo (hcu j _ hu 2 _ rfl))) (fun w hi => by first | exact hi.j | exact J.of_le (Ro.le.refl _) (fun x hx => List.mem_append_right _ hx) hi | exact J.of_le (Ro.le.refl _) (fun x hx => List.mem_append_right _ (List.mem_append_right _ hx)) hi | exact J.of_le (Ro.le.refl _) (fun x hx => absurd hx (by simp)) hi | exact J.of_le (by assumption) (fun x hx => absurd hx (by simp)) hi) ?_
            refine d_take 23 rfl (by kernel_rfl) (by kernel_rfl) (by kernel_rfl) (fun _ _ _ h => h) rfl (.inr ⟨_, _, _, rfl, rfl, rfl⟩) (x_move rfl) (fun w hi => by first | exact hi.j | exact J.of_le (Ro.le.refl _) (fun x hx => List.mem_append_right _ hx) hi | exact J.of_le (Ro.le.refl _) (fun x hx => List.mem_append_right _ (List.mem_append_right _ hx)) hi | exact J.of_le (Ro.le.refl _) (fun x hx => absurd hx (by simp)) hi | exact J.of_le (by assumption) (fun x hx => absurd hx (by simp)) hi) ?_
            refine d_take 24 rfl (by kernel_rfl) (by kernel_rfl) (by kernel_rfl) (fun _ _ _ h => h) rfl (.inr ⟨_, _, _, rfl, rfl, rfl⟩) (x_move rfl) (fun w hi => by first | exact hi.j | exact J.of_le (Ro.le.refl _) (fun x hx => List.mem_append_right _ hx) hi | exact J.of_le (Ro.le.refl _) (fun x hx => List.mem_append_right _ (List.mem_append_right _ hx)) hi | exact J.of_le (Ro.le.refl _) (fun x hx => absurd hx (by simp)) hi | exact J.of_le (by assumption) (fun x hx => absurd hx (by simp)) hi) ?_
            refine d_take 25 rfl (by kernel_rfl) (by kernel_rfl) (by kernel_rfl) (fun _ _ _ h => h) rfl (.inr ⟨_, _, _, rfl, rfl, rfl⟩) (x_indexNat sz_55 rfl rfl (by omega)) (fun w hi => by first | exact hi.j | exact J.of_le (Ro.le.refl _) (fun x hx => List.mem_append_right _ hx) hi | exact J.of_le (Ro.le.refl _) (fun x hx => List.mem_append_right _ (List.mem_append_right _ hx)) hi | exact J.of_le (Ro.le.refl _) (fun x hx => absurd hx (by simp)) hi | exact J.of_le (by assumption) (fun x hx => absurd hx (by simp)) hi) ?_
            refine d_take 26 rfl (by kernel_rfl) (by kernel_rfl) (by kernel_rfl) (fun _ _ _ h => h) rfl (.inr ⟨_, _, _, rfl, rfl, rfl⟩) (x_fieldAddr fo_61_2 rfl) (fun w hi => by first | exact hi.j | exact J.of_le (Ro.le.refl _) (fun x hx => List.mem_append_right _ hx) hi | exact J.of_le (Ro.le.refl _) (fun x hx => List.mem_append_right _ (List.mem_append_right _ hx)) hi | exact J.of_le (Ro.le.refl _) (fun x hx => absurd hx (by simp)) hi | exact J.of_le (by assumption) (fun x hx => absurd hx (by simp)) hi) ?_
            refine d_take 27 rfl (by kernel_rfl) (by kernel_rfl) (by kernel_rfl) (fun _ _ _ h => h) rfl (.inr ⟨_, _, _, rfl, rfl, rfl⟩) (x_load1 ag_3 rfl (Cell.ofRo (hcx i _ hx 2 _ rfl))) (fun w hi => by first | exact hi.j | exact J.of_le (Ro.le.refl _) (fun x hx => List.mem_append_right _ hx) hi | exact J.of_le (Ro.le.refl _) (fun x hx => List.mem_append_right _ (List.mem_append_right _ hx)) hi | exact J.of_le (Ro.le.refl _) (fun x hx => absurd hx (by simp)) hi | exact J.of_le (by assumption) (fun x hx => absurd hx (by simp)) hi) ?_
            refine d_take 28 rfl (by kernel_rfl) (by kernel_rfl) (by kernel_rfl) (fun _ _ _ h => h) rfl (.inr ⟨_, _, _, rfl, rfl, rfl⟩) (x_neq rfl rfl) (fun w hi => by first | exact hi.j | exact J.of_le (Ro.le.refl _) (fun x hx => List.mem_append_right _ hx) hi | exact J.of_le (Ro.le.refl _) (fun x hx => List.mem_append_right _ (List.mem_append_right _ hx)) hi | exact J.of_le (Ro.le.refl _) (fun x hx => absurd hx (by simp)) hi | exact J.of_le (by assumption) (fun x hx => absurd hx (by simp)) hi) ?_
            refine said 144 (.bool false) rfl (by simp [e2]) ?_
            refine d_take 29 rfl (by kernel_rfl) (by kernel_rfl) (by kernel_rfl) (fun _ _ _ h => h) rfl (.inl rfl) (x_pickF rfl rfl) (fun w hi => by first | exact hi.j | exact J.of_le (Ro.le.refl _) (fun x hx => List.mem_append_right _ hx) hi | exact J.of_le (Ro.le.refl _) (fun x hx => List.mem_append_right _ (List.mem_append_right _ hx)) hi | exact J.of_le (Ro.le.refl _) (fun x hx => absurd hx (by simp)) hi | exact J.of_le (by assumption) (fun x hx => absurd hx (by simp)) hi) ?_
            refine d_take 30 rfl (by kernel_rfl) (by kernel_rfl) (by kernel_rfl) (fun _ _ _ h => h) rfl (.inl rfl) (x_move rfl) (fun w hi => by first | exact hi.j | exact J.of_le (Ro.le.refl _) (fun x hx => List.mem_append_right _ hx) hi | exact J.of_le (Ro.le.refl _) (fun x hx => List.mem_append_right _ (List.mem_append_right _ hx)) hi | exact J.of_le (Ro.le.refl _) (fun x hx => absurd hx (by simp)) hi | exact J.of_le (by assumption) (fun x hx => absurd hx (by simp)) hi) ?_
            refine d_take 31 rfl (by kernel_rfl) (by kernel_rfl) (by kernel_rfl) (fun _ _ _ h => h) rfl (.inr ⟨_, _, _, rfl, rfl, rfl⟩) (x_move rfl) (fun w hi => by first | exact hi.j | exact J.of_le (Ro.le.refl _) (fun x hx => List.mem_append_right _ hx) hi | exact J.of_le (Ro.le.refl _) (fun x hx => List.mem_append_right _ (List.mem_append_right _ hx)) hi | exact J.of_le (Ro.le.refl _) (fun x hx => absurd hx (by simp)) hi | exact J.of_le (by assumption) (fun x hx => absurd hx (by simp)) hi) ?_
            refine d_take 32 rfl (by kernel_rfl) (by kernel_rfl) (by kernel_rfl) (fun _ _ _ h => h) rfl (.inr ⟨_, _, _, rfl, rfl, rfl⟩) (x_move rfl) (fun w hi => by first | exact hi.j | exact J.of_le (Ro.le.refl _) (fun x hx => List.mem_append_right _ hx) hi | exact J.of_le (Ro.le.refl _) (fun x hx => List.mem_append_right _ (List.mem_append_right _ hx)) hi | exact J.of_le (Ro.le.refl _) (fun x hx => absurd hx (by simp)) hi | exact J.of_le (by assumption) (fun x hx => absurd hx (by simp)) hi) ?_
            refine d_take 33 rfl (by kernel_rfl) (by kernel_rfl) (by kernel_rfl) (fun _ _ _ h => h) rfl (.inr ⟨_, _, _, rfl, rfl, rfl⟩) (x_indexNat sz_55 rfl rfl (by omega)) (fun w hi => by first | exact hi.j | exact J.of_le (Ro.le.refl _) (fun x hx => List.mem_append_right _ hx) hi | exact J.of_le (Ro.le.refl _) (fun x hx => List.mem_append_right _ (List.mem_append_right _ hx)) hi | exact J.of_le (Ro.le.refl _) (fun x hx => absurd hx (by simp)) hi | exact J.of_le (by assumption) (fun x hx => absurd hx (by simp)) hi) ?_
            refine d_take 34 rfl (by kernel_rfl) (by kernel_rfl) (by kernel_rfl) (fun _ _ _ h => h) rfl (.inr ⟨_, _, _, rfl, rfl, rfl⟩) (x_fieldAddr fo_61_6 rfl) (fun w hi => by first | exact hi.j | exact J.of_le (Ro.le.refl _) (fun x hx => List.mem_append_right _ hx) hi | exact J.of_le (Ro.le.refl _) (fun x hx => List.mem_append_right _ (List.mem_append_right _ hx)) hi | exact J.of_le (Ro.le.refl _) (fun x hx => absurd hx (by simp)) hi | exact J.of_le (by assumption) (fun x hx => absurd hx (by simp)) hi) ?_
            refine d_take 35 rfl (by kernel_rfl) (by kernel_rfl) (by kernel_rfl) (fun _ _ _ h => h) rfl (.inr ⟨_, _, _, rfl, rfl, rfl⟩) (x_load1 ag_59 rfl (Cell.ofRo (hcu j _ hu 6 _ rfl))) (fun w hi => by first | exact hi.j | exact J.of_le (Ro.le.refl _) (fun x hx => List.mem_append_right _ hx) hi | exact J.of_le (Ro.le.refl _) (fun x hx => List.mem_append_right _ (List.mem_append_right _ hx)) hi | exact J.of_le (Ro.le.refl _) (fun x hx => absurd hx (by simp)) hi | exact J.of_le (by assumption) (fun x hx => absurd hx (by simp)) hi) ?_
            refine d_take 36 rfl (by kernel_rfl) (by kernel_rfl) (by kernel_rfl) (fun _ _ _ h => h) rfl (.inr ⟨_, _, _, rfl, rfl, rfl⟩) (x_lenSl sz_59 rfl) (fun w hi => by first | exact hi.j | exact J.of_le (Ro.le.refl _) (fun x hx => List.mem_append_right _ hx) hi | exact J.of_le (Ro.le.refl _) (fun x hx => List.mem_append_right _ (List.mem_append_right _ hx)) hi | exact J.of_le (Ro.le.refl _) (fun x hx => absurd hx (by simp)) hi | exact J.of_le (by assumption) (fun x hx => absurd hx (by simp)) hi) ?_
            refine d_take 37 rfl (by kernel_rfl) (by kernel_rfl) (by kernel_rfl) (fun _ _ _ h => h) rfl (.inr ⟨_, _, _, rfl, rfl, rfl⟩) (x_move rfl) (fun w hi => by first | exact hi.j | exact J.of_le (Ro.le.refl _) (fun x hx => List.mem_append_right _ hx) hi | exact J.of_le (Ro.le.refl _) (fun x hx => List.mem_append_right _ (List.mem_append_right _ hx)) hi | exact J.of_le (Ro.le.refl _) (fun x hx => absurd hx (by simp)) hi | exact J.of_le (by assumption) (fun x hx => absurd hx (by simp)) hi) ?_
            refine d_take 38 rfl (by kernel_rfl) (by kernel_rfl) (by kernel_rfl) (fun _ _ _ h => h) rfl (.inr ⟨_, _, _, rfl, rfl, rfl⟩) (x_move rfl) (fun w hi => by first | exact hi.j | exact J.of_le (Ro.le.refl _) (fun x hx => List.mem_append_right _ hx) hi | exact J.of_le (Ro.le.refl _) (fun x hx => List.mem_append_right _ (List.mem_append_right _ hx)) hi | exact J.of_le (Ro.le.refl _) (fun x hx => absurd hx (by simp)) hi | exact J.of_le (by assumption) (fun x hx => absurd hx (by simp)) hi) ?_
            refine d_take 39 rfl (by kernel_rfl) (by kernel_rfl) (by kernel_rfl) (fun _ _ _ h => h) rfl (.inr ⟨_, _, _, rfl, rfl, rfl⟩) (x_indexNat sz_55 rfl rfl (by omega)) (fun w hi => by first | exact hi.j | exact J.of_le (Ro.le.refl _) (fun x hx => List.mem_append_right _ hx) hi | exact J.of_le (Ro.le.refl _) (fun x hx => List.mem_append_right _ (List.mem_append_right _ hx)) hi | exact J.of_le (Ro.le.refl _) (fun x hx => absurd hx (by simp)) hi | exact J.of_le (by assumption) (fun x hx => absurd hx (by simp)) hi) ?_
            refine d_take 40 rfl (by kernel_rfl) (by kernel_rfl) (by kernel_rfl) (fun _ _ _ h => h) rfl (.inr ⟨_, _, _, rfl, rfl, rfl⟩) (x_fieldAddr fo_61_6 rfl) (fun w hi => by first | exact hi.j | exact J.of_le (Ro.le.refl _) (fun x hx => List.mem_append_right _ hx) hi | exact J.of_le (Ro.le.refl _) (fun x hx => List.mem_append_right _ (List.mem_append_right _ hx)) hi | exact J.of_le (Ro.le.refl _) (fun x hx => absurd hx (by simp)) hi | exact J.of_le (by assumption) (fun x hx => absurd hx (by simp)) hi) ?_
            refine d_take 41 rfl (by kernel_rfl) (by kernel_rfl) (by kernel_rfl) (fun _ _ _ h => h) rfl (.inr ⟨_, _, _, rfl, rfl, rfl⟩) (x_load1 ag_59 rfl (Cell.ofRo (hcx i _ hx 6 _ rfl))) (fun w hi => by first | exact hi.j | exact J.of_le (Ro.le.refl _) (fun x hx => List.mem_append_right _ hx) hi | exact J.of_le (Ro.le.refl _) (fun x hx => List.mem_append_right _ (List.mem_append_right _ hx)) hi | exact J.of_le (Ro.le.refl _) (fun x hx => absurd hx (by simp)) hi | exact J.of_le (by assumption) (fun x hx => absurd hx (by simp)) hi) ?_
            refine d_take 42 rfl (by kernel_rfl) (by kernel_rfl) (by kernel_rfl) (fun _ _ _ h => h) rfl (.inr ⟨_, _, _, rfl, rfl, rfl⟩) (x_lenSl sz_59 rfl) (fun w hi => by first | exact hi.j | exact J.of_le (Ro.le.refl _) (fun x hx => List.mem_append_right _ hx) hi | exact J.of_le (Ro.le.refl _) (fun x hx => List.mem_append_right _ (List.mem_append_right _ hx)) hi | exact J.of_le (Ro.le.refl _) (fun x hx => absurd hx (by simp)) hi | exact J.of_le (by assumption) (fun x hx => absurd hx (by simp)) hi) ?_
            refine d_take 43 rfl (by kernel_rfl) (by kernel_rfl) (by kernel_rfl) (fun _ _ _ h => h) rfl (.inr ⟨_, _, _, rfl, rfl, rfl⟩) (x_neq rfl rfl) (fun w hi => by first | exact hi.j | exact J.of_le (Ro.le.refl _) (fun x hx => List.mem_append_right _ hx) hi | exact J.of_le (Ro.le.refl _) (fun x hx => List.mem_append_right _ (List.mem_append_right _ hx)) hi | exact J.of_le (Ro.le.refl _) (fun x hx => absurd hx (by simp)) hi | exact J.of_le (by assumption) (fun x hx => absurd hx (by simp)) hi) ?_
            refine said 159 (.bool false) rfl (by simp [e3]) ?_
            refine d_take 44 rfl (by kernel_rfl) (by kernel_rfl) (by kernel_rfl) (fun _ _ _ h => h) rfl (.inl rfl) (x_pickF rfl rfl) (fun w hi => by first | exact hi.j | exact J.of_le (Ro.le.refl _) (fun x hx => List.mem_append_right _ hx) hi | exact J.of_le (Ro.le.refl _) (fun x hx => List.mem_append_right _ (List.mem_append_right _ hx)) hi | exact J.of_le (Ro.le.refl _) (fun x hx => absurd hx (by simp)) hi | exact J.of_le (by assumption) (fun x hx => absurd hx (by simp)) hi) ?_
            refine d_take 45 rfl (by kernel_rfl) (by kernel_rfl) (by kernel_rfl) (fun _ _ _ h => h) rfl (.inl rfl) (x_move rfl) (fun w hi => by first | exact hi.j | exact J.of_le (Ro.le.refl _) (fun x hx => List.mem_append_right _ hx) hi | exact J.of_le (Ro.le.refl _) (fun x hx => List.mem_append_right _ (List.mem_append_right _ hx)) hi | exact J.of_le (Ro.le.refl _) (fun x hx => absurd hx (by simp)) hi | exact J.of_le (by assumption) (fun x hx => absurd hx (by simp)) hi) ?_
            refine d_take 46 rfl (by kernel_rfl) (by kernel_rfl) (by kernel_rfl) (fun _ _ _ h => h) rfl (.inr ⟨_, _, _, rfl, rfl, rfl⟩) (x_move rfl) (fun w hi => by first | exact hi.j | exact J.of_le (Ro.le.refl _) (fun x hx => List.mem_append_right _ hx) hi | exact J.of_le (Ro.le.refl _) (fun x hx => List.mem_append_right _ (List.mem_append_right _ hx)) hi | exact J.of_le (Ro.le.refl _) (fun x hx => absurd hx (by simp)) hi | exact J.of_le (by assumption) (fun x hx => absurd hx (by simp)) hi) ?_
            refine d_take 47 rfl (by kernel_rfl) (by kernel_rfl) (by kernel_rfl) (fun _ _ _ h => h) rfl (.inr ⟨_, _, _, rfl, rfl, rfl⟩) (x_move rfl) (fun w hi => by first | exact hi.j | exact J.of_le (Ro.le.refl _) (fun x hx => List.mem_append_right _ hx) hi | exact J.of_le (Ro.le.refl _) (fun x hx => List.mem_append_right _ (List.mem_append_right _ hx)) hi | exact J.of_le (Ro.le.refl _) (fun x hx => absurd hx (by simp)) hi | exact J.of_le (by assumption) (fun x hx => absurd hx (by simp)) hi) ?_
            refine d_take 48 rfl (by kernel_rfl) (by kernel_rfl) (by kernel_rfl) (fun _ _ _ h => h) rfl (.inr ⟨_, _, _, rfl, rfl, rfl⟩) (x_indexNat sz_55 rfl rfl (by omega)) (fun w hi => by first | exact hi.j | exact J.of_le (Ro.le.refl _) (fun x hx => List.mem_append_right _ hx) hi | exact J.of_le (Ro.le.refl _) (fun x hx => List.mem_append_right _ (List.mem_append_right _ hx)) hi | exact J.of_le (Ro.le.refl _) (fun x hx => absurd hx (by simp)) hi | exact J.of_le (by assumption) (fun x hx => absurd hx (by simp)) hi) ?_
            refine d_take 49 rfl (by kernel_rfl) (by kernel_rfl) (by kernel_rfl) (fun _ _ _ h => h) rfl (.inr ⟨_, _, _, rfl, rfl, rfl⟩) (x_fieldAddr fo_61_1 rfl) (fun w hi => by first | exact hi.j | exact J.of_le (Ro.le.refl _) (fun x hx => List.mem_append_right _ hx) hi | exact J.of_le (Ro.le.refl _) (fun x hx => List.mem_append_right _ (List.mem_append_right _ hx)) hi | exact J.of_le (Ro.le.refl _) (fun x hx => absurd hx (by simp)) hi | exact J.of_le (by assumption) (fun x hx => absurd hx (by simp)) hi) ?_
            refine d_take 50 rfl (by kernel_rfl) (by kernel_rfl) (by kernel_rfl) (fun _ _ _ h => h) rfl (.inr ⟨_, _, _, rfl, rfl, rfl⟩) (x_load1 ag_3 rfl (Cell.ofRo (hcu j _ hu 1 _ rfl))) (fun w hi => by first | exact hi.j | exact J.of_le (Ro.le.refl _) (fun x hx => List.mem_append_right _ hx) hi | exact J.of_le (Ro.le.refl _) (fun x hx => List.mem_append_right _ (List.mem_append_right _ hx)) hi | exact J.of_le (Ro.le.refl _) (fun x hx => absurd hx (by simp)) hi | exact J.of_le (by assumption) (fun x hx => absurd hx (by simp)) hi) ?_
            refine d_take 51 rfl (by kernel_rfl) (by kernel_rfl) (by kernel_rfl) (fun _ _ _ h => h) rfl (.inr ⟨_, _, _, rfl, rfl, rfl⟩) (x_move rfl) (fun w hi => by first | exact hi.j | exact J.of_le (Ro.le.refl _) (fun x hx => List.mem_append_right _ hx) hi | exact J.of_le (Ro.le.refl _) (fun x hx => List.mem_append_right _ (List.mem_append_right _ hx)) hi | exact J.of_le (Ro.le.refl _) (fun x hx => absurd hx (by simp)) hi | exact J.of_le (by assumption) (fun x hx => absurd hx (by simp)) hi) ?_
            refine d_take 52 rfl (by kernel_rfl) (by kernel_rfl) (by kernel_rfl) (fun _ _ _ h => h) rfl (.inr ⟨_, _, _, rfl, rfl, rfl⟩) (x_move rfl) (fun w hi => by first | exact hi.j | exact J.of_le (Ro.le.refl _) (fun x hx => List.mem_append_right _ hx) hi | exact J.of_le (Ro.le.refl _) (fun x hx => List.mem_append_right _ (List.mem_append_right _ hx)) hi | exact J.of_le (Ro.le.refl _) (fun x hx => absurd hx (by simp)) hi | exact J.of_le (by assumption) (fun x hx => absurd hx (by simp)) hi) ?_
            refine d_take 53 rfl (by kernel_rfl) (by kernel_rfl) (by kernel_rfl) (fun _ _ _ h => h) rfl (.inr ⟨_, _, _, rfl, rfl, rfl⟩) (x_indexNat sz_55 rfl rfl (by omega)) (fun w hi => by first | exact hi.j | exact J.of_le (Ro.le.refl _) (fun x hx => List.mem_append_right _ hx) hi | exact J.of_le (Ro.le.refl _) (fun x hx => List.mem_append_right _ (List.mem_append_right _ hx)) hi | exact J.of_le (Ro.le.refl _) (fun x hx => absurd hx (by simp)) hi | exact J.of_le (by assumption) (fun x hx => absurd hx (by simp)) hi) ?_
            refine d_take 54 rfl (by kernel_rfl) (by kernel_rfl) (by kernel_rfl) (fun _ _ _ h => h) rfl (.inr ⟨_, _, _, rfl, rfl, rfl⟩) (x_fieldAddr fo_61_1 rfl) (fun w hi => by first | exact hi.j | exact J.of_le (Ro.le.refl _) (fun x hx => List.mem_append_right _ hx) hi | exact J.of_le (Ro.le.refl _) (fun x hx => List.mem_append_right _ (List.mem_append_right _ hx)) hi | exact J.of_le (Ro.le.refl _) (fun x hx => absurd hx (by simp)) hi | exact J.of_le (by assumption) (fun x hx => absurd hx (by simp)) hi) ?_
            refine d_take 55 rfl (by kernel_rfl) (by kernel_rfl) (by kernel_rfl) (fun _ _ _ h => h) rfl (.inr ⟨_, _, _, rfl, rfl, rfl⟩) (x_load1 ag_3 rfl (Cell.ofRo (hcx i _ hx 1 _ rfl))) (fun w hi => by first | exact hi.j | exact J.of_le (Ro.le.refl _) (fun x hx => List.mem_append_right _ hx) hi | exact J.of_le (Ro.le.refl _) (fun x hx => List.mem_append_right _ (List.mem_append_right _ hx)) hi | exact J.of_le (Ro.le.refl _) (fun x hx => absurd hx (by simp)) hi | exact J.of_le (by assumption) (fun x hx => absurd hx (by simp)) hi) ?_
            refine d_take 56 rfl (by kernel_rfl) (by kernel_rfl) (by kernel_rfl) (fun _ _ _ h => h) rfl (.inr ⟨_, _, _, rfl, rfl, rfl⟩) (x_neq rfl rfl) (fun w hi => by first | exact hi.j | exact J.of_le (Ro.le.refl _) (fun x hx => List.mem_append_right _ hx) hi | exact J.of_le (Ro.le.refl _) (fun x hx => List.mem_append_right _ (List.mem_append_right _ hx)) hi | exact J.of_le (Ro.le.refl _) (fun x hx => absurd hx (by simp)) hi | exact J.of_le (by assumption) (fun x hx => absurd hx (by simp)) hi) ?_
            refine said 172 (.bool false) rfl (by simp [e1]) ?_
            refine d_take 57 rfl (by kernel_rfl) (by kernel_rfl) (by kernel_rfl) (fun _ _ _ h => h) rfl (.inl rfl) (x_pickF rfl rfl) (fun w hi => by first | exact hi.j | exact J.of_le (Ro.le.refl _) (fun x hx => List.mem_append_right _ hx) hi | exact J.of_le (Ro.le.refl _) (fun x hx => List.mem_append_right _ (List.mem_append_right _ hx)) hi | exact J.of_le (Ro.le.refl _) (fun x hx => absurd hx (by simp)) hi | exact J.of_le (by assumption) (fun x hx => absurd hx (by simp)) hi) ?_
            refine d_end (by kernel_rfl) ?_
            refine n_then ?_
            refine condF rfl ?_
            refine skip ?_
            refine n_then ?_
            refine region ?_
            refine op (y (x_move rfl) rfl ?_)
            refine op (y (x_add rfl rfl _ (wr (by omega) (by omega))) rfl ?_)
            refine said 175 (.int .i64 ((j + 1 : Nat) : Int)) rfl (by simp) ?_
            refine op (y (x_assign rfl) rfl ?_)
            refine nil ?_
            refine n_in ?_
            refine n_then ?_
            refine region ?_
            refine op (y (x_move rfl) rfl ?_)
            refine op (y (x_add rfl rfl _ (wr (by omega) (by omega))) rfl ?_)
            refine op (y (x_assign rfl) rfl ?_)
            refine nil ?_
            have hs2 : sts[i]? = some sts[i] := List.getElem?_eq_getElem (by omega)
            have hid : (sts[i]).tx = (tgs[i]).tm := by have h1 : (tgs.map (·.tm))[i]? = some (tgs[i]).tm := (by rw [List.getElem?_map, hx]; rfl); rw [hmp, List.getElem?_map, hs2] at h1; simpa using h1
            first | exact round (tgs.length - (i + 1)) [(2, .int .i64 tx), (10, .slice _ tgs.length tc), (19, .slice _ ugs.length uc), (21, .int .i64 ((j + 1) : Nat)), (22, .int .i64 ((i + 1) : Nat))] (by omega) ⟨rfl, rfl, rfl, rfl, rfl, trivial⟩ ⟨i + 1, j + 1, rfl, rfl, rfl, rfl, by omega, by rw [flt_snoc hs2, if_pos (by unfold qT; rw [hid]; simpa using h20), List.length_append, hjj]; rfl, by omega⟩ | exact round (tgs.length - (i + 1)) [(2, .int .i64 tx), (10, .slice _ tgs.length tc), (19, .slice _ ugs.length uc), (21, .int .i64 (j : Nat)), (22, .int .i64 ((i + 1) : Nat))] (by omega) ⟨rfl, rfl, rfl, rfl, rfl, trivial⟩ ⟨i + 1, j, rfl, rfl, rfl, rfl, by omega, by rw [flt_snoc hs2, if_neg (by unfold qT; rw [hid]; simpa using h20), List.append_nil]; exact hj, by omega⟩
        · try simp only [decide_eq_true_eq, decide_eq_false_iff_not, beq_iff_eq, bne_iff_ne, ne_eq, beq_eq_false_iff_ne, bne_eq_false_iff_eq, Bool.not_eq_true', Bool.not_eq_false', Bool.not_eq_true, Bool.not_eq_false, Decidable.not_not, Int.not_lt, Int.not_le] at h18
          refine exit ?_
          refine e_then ?_
          refine e_then ?_
          refine e_in ?_
          refine n_then ?_
          refine seq ?_
          obtain rfl : i = sts.length := by omega
          rw [List.take_length, tab_len hmp2 hF] at hj
          subst hj
          refine region ?_
          refine op (y (x_move rfl) rfl ?_)
          refine op (y (x_move rfl) rfl ?_)
          refine op (y (x_lenSl sz_55 rfl) rfl ?_)
          refine op (y (x_eql rfl rfl) rfl ?_)
          refine said 179 (.bool true) rfl (by simp) ?_
          refine op (y (x_assign rfl) rfl ?_)
          refine nil ?_
          refine n_then ?_
          refine ret ?_
          exact done rfl (.tmp rfl (.nil)) (hle23.trans (hle36.trans (hle43.trans (hle48.trans (hle53.trans (leS.trans (hro2.trans hle100))))))) (L) (subF (by (repeat (first | exact List.Sublist.refl _ | apply List.Sublist.cons_cons | apply List.Sublist.cons)); done)) (⟨rfl, rfl⟩)

end Go.Proofs.YtijafcilfefafaaDoor
