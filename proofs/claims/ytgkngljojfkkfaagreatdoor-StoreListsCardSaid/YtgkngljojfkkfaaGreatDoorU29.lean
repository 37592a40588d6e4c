/- From what comes into a call to the words of this library: lists of structs of numbers, structs of two lists; package variables that read as listed. -/
import Derived.Test.YtgkngljojfkkfaaGreatDoorU28
import Derived.LaidLaws
import Derived.LaidMore
import Derived.MakeChecks
set_option linter.unusedVariables false
set_option linter.unusedSectionVars false
namespace Go.U
open Go Go.ChangeShapes Go.WideShapes Go.Deep Go.RowKit
section
variable {H : Type} {enc : TypeId × Value → H} {P : Program} {w : World} {base : Nat} {spare : Nat → Bool} {held : Bool}
/-- a list of structs of k numbers -/
theorem open_recs {α : Type} {k : Nat} (mk : (Nat → Int) → α) {en : α → List Value} (henc : ∀ f, en (mk f) = (List.range k).map (fun j => Value.int .i64 (f j))) (hk : 0 < k)
    {t e : TypeId} {fs : Array Field} {fuel : Nat} {A : Option Addr} {len cap : Nat} {x : DataW H × List MemPlace} (ht : P.underlying t = some (.slice e)) (he : P.underlying e = some (.struct fs))
    (hone : oneCellFields P fs = true) (hC : P.cellsOf e = fs.size) (hsz : fs.size = k) (hint : ∀ (j : Nat) (f : Field), fs[j]? = some f → P.underlying f.type = some (.int .i64)) (h : DataW.trod enc P w base spare held fuel t [.slice A len cap] = some x) :
    ∃ l : List (Nat → Int), len = (l.map mk).length ∧ Sl (snap w) k en A cap (l.map mk) ∧ ∀ f ∈ l, ∀ j : Nat, j < k → I64 (f j) := by
  rcases open_fields ht he hone hC hint h with hcs | ⟨a, n, c, hcs, hl, hm, hc⟩
  · simp at hcs
    obtain ⟨rfl, rfl, rfl⟩ := hcs
    exact ⟨[], rfl, ⟨by simp, by simp [maxLen], by simp, fun h => absurd rfl h⟩, by simp⟩
  · simp at hcs
    obtain ⟨rfl, rfl, rfl⟩ := hcs
    subst hsz
    have hc0 : ∀ i, i < len → ∀ j, j < fs.size → w.cell? (a.add (i * fs.size + j)) = some (.int .i64 (cellInt w (a.add (i * fs.size + j)))) ∧ I64 (cellInt w (a.add (i * fs.size + j))) := fun i hi j hj => by
      obtain ⟨n, h1, h2⟩ := hc i hi j hj
      have e : cellInt w (a.add (i * fs.size + j)) = n := cellInt_of h1
      exact ⟨by rw [e]; exact h1, by rw [e]; exact h2⟩
    refine ⟨(List.range len).map (fun i j => cellInt w (a.add (i * fs.size + j))), by simp, Sl_of hk (by simpa using hl) hm (fun y hy => ?_) (fun i y hy j v hv => ?_), fun f hf j hj => ?_⟩
    · obtain ⟨f, _, rfl⟩ := List.mem_map.1 hy
      rw [henc]; simp
    · rw [List.getElem?_map, Option.map_eq_some_iff] at hy
      obtain ⟨f, hf, rfl⟩ := hy
      rw [List.getElem?_map, Option.map_eq_some_iff] at hf
      obtain ⟨q, hq, rfl⟩ := hf
      have hil : i < len := by have := (List.getElem?_eq_some_iff.1 hq).1; simpa using this
      have hqi : q = i := by
        have := (List.getElem?_eq_some_iff.1 hq).2
        simpa using this.symm
      subst hqi
      rw [henc, List.getElem?_map, Option.map_eq_some_iff] at hv
      obtain ⟨j', hj', rfl⟩ := hv
      have hjl : j < fs.size := by have := (List.getElem?_eq_some_iff.1 hj').1; simpa using this
      have : j' = j := by
        have := (List.getElem?_eq_some_iff.1 hj').2
        simpa using this.symm
      subst this
      exact (hc0 q hil j' hjl).1
    · obtain ⟨i, hi, rfl⟩ := List.mem_map.1 hf
      exact (hc0 i (by simpa using hi) j hj).2
/-- a struct of two slices -/
theorem open_two {t e0 e1 : TypeId} {f0 f1 : Field} {v : Value} {fuel : Nat} {x : DataW H × List MemPlace} {r : Reach} {W : World} {b0 : Nat} (hs : P.underlying t = some (.struct #[f0, f1])) (h0 : P.underlying f0.type = some (.slice e0)) (h1 : P.underlying f1.type = some (.slice e1))
    (o0 : f0.offset = 0) (o1 : f1.offset = 1) (c0 : P.cellsOf f0.type = 1) (c1 : P.cellsOf f1.type = 1) (ct : P.cellsOf t = 2) (hv : Value.okWide P W r b0 t v) (h : DataW.trod enc P w base spare held fuel t v.cells.toList = some x) :
    ∃ A la ca B lb cb y0 y1 n, v = .agg [.slice A la ca, .slice B lb cb].toArray ∧ DataW.trod enc P w base spare held n f0.type [.slice A la ca] = some y0 ∧ DataW.trod enc P w base spare held n f1.type [.slice B lb cb] = some y1 := by
  obtain ⟨cs, rfl, hcs⟩ := okWide_struct hs hv
  rw [ct] at hcs
  obtain ⟨y0, y1, n, _, _, t0, t1⟩ := trod_struct2 hs h
  obtain ⟨l⟩ := cs
  match l, hcs with
  | [u0, u1], _ =>
    have e : (Value.agg (List.toArray [u0, u1])).cells.toList = [u0, u1] := rfl
    rw [e, o0, c0] at t0
    rw [e, o1, c1] at t1
    simp only [List.drop_zero, List.take_succ_cons, List.take_zero, List.drop_succ_cons] at t0 t1
    have hsl : ∀ {u : Value} {t e : TypeId} {n : Nat} {y : DataW H × List MemPlace}, P.underlying t = some (.slice e) → DataW.trod enc P w base spare held n t [u] = some y → ∃ A l c, u = .slice A l c := by
      intro u t e n y ht hy
      cases n with
      | zero => simp [DataW.trod] at hy
      | succ m =>
        unfold DataW.trod at hy
        rw [ht] at hy
        cases u <;> simp_all
    obtain ⟨A, la, ca, rfl⟩ := hsl h0 t0
    obtain ⟨B, lb, cb, rfl⟩ := hsl h1 t1
    exact ⟨A, la, ca, B, lb, cb, y0, y1, n, rfl, t0, t1⟩
end
/-! ### package variables that read as listed -/
theorem laid_at {P : Program} {W : World} {n : String} {d : DataW Unit} : ∀ {l : List (String × DataW Unit)} {ps : List MemPlace}, DataW.LaidVars P W l ps → (n, d) ∈ l →
    ∃ g t cs fuel p, P.globalNamed n = some g ∧ (P.globals[g]?).map (·.type) = some t ∧ W.var? P n = some cs ∧ DataW.trod (fun _ => ()) P W 0 (fun _ => true) false fuel t cs.toList = some (d, p) ∧ ∀ x ∈ MemPlace.row ⟨g, 0, none⟩ cs.size ++ p, x ∈ ps
  | [], _, _, hm => by cases hm
  | (m, d') :: r, ps, h, hm => by
    obtain ⟨g, t, cs, fuel, p, q, h1, h2, h3, h4, h5, rfl⟩ := h
    rcases List.mem_cons.1 hm with he | hm
    · cases he
      exact ⟨g, t, cs, fuel, p, h1, h2, h3, h4, fun x hx => List.mem_append_left _ hx⟩
    · obtain ⟨g', t', cs', fuel', p', k1, k2, k3, k4, k5⟩ := laid_at h5 hm
      exact ⟨g', t', cs', fuel', p', k1, k2, k3, k4, fun x hx => List.mem_append_right _ (k5 x hx)⟩
/-- a sentinel error -/
theorem laid_err {P : Program} {W : World} {l : List (String × DataW Unit)} {n : String} {g : Nat} {text : List UInt8} {ti tp te ts : TypeId} {ms : Array (String × TypeId)} {nm : String} {f : Field} (h : laidMet P l W) (hm : (n, DataW.iface nm (.ptr (.agg [.lit (.string text)]))) ∈ l)
    (hg : P.globalNamed n = some g) (ht : (P.globals[g]?).map (·.type) = some ti) (hi : P.underlying ti = some (.interface ms)) (hrow : ∀ u, P.typeName? 3 u = some nm → u = tp)
    (hp : P.underlying tp = some (.pointer te)) (he : P.underlying te = some (.struct #[f])) (hft : f.type = ts) (hfo : f.offset = 0) (hs : P.underlying ts = some .string) (hc : P.cellsOf te = 1) (hcs : P.cellsOf ts = 1) :
    ∃ a, W.cell? ⟨g, 0, none⟩ = some (.iface tp (.pointer (some a))) := by
  obtain ⟨ps, hv, _, hrows⟩ := h
  obtain ⟨g', t', cs, fuel, p, k1, k2, k3, k4, k5⟩ := laid_at hv hm
  obtain rfl := Option.some.inj (hg.symm.trans k1)
  obtain rfl := Option.some.inj (ht.symm.trans k2)
  obtain ⟨lc⟩ := cs
  obtain ⟨a, s, e, _, _, _, _⟩ := errorString_of_trod hi hrow hp he hft hfo hs hc hcs k4 (fun u v e => by
    simp only at e
    subst e
    exact (hrows g 0 (k5 _ (List.mem_append_left _ (by simp [MemPlace.row])))).2 u v (by simpa using World.var?_cell hg k3 0))
  simp only at e
  subst e
  exact ⟨a, by simpa using World.var?_cell hg k3 0⟩
/-- an array of texts -/
theorem laid_strs {P : Program} {W : World} {l : List (String × DataW Unit)} {n : String} {g k : Nat} {ss : List (List UInt8)} {t e : TypeId} (h : laidMet P l W) (hm : (n, DataW.agg (ss.map (fun s => DataW.lit (.string s)))) ∈ l)
    (hg : P.globalNamed n = some g) (ht : (P.globals[g]?).map (·.type) = some t) (hu : P.underlying t = some (.array k e)) (he : P.underlying e = some .string) (hc : P.cellsOf e = 1) :
    ∀ (i : Nat) (s : List UInt8), ss[i]? = some s → W.cell? ⟨g, i, none⟩ = some (.string ⟨s.toArray⟩) := by
  obtain ⟨ps, hv, _, hrows⟩ := h
  obtain ⟨g', t', cs, fuel, p, k1, k2, k3, k4, k5⟩ := laid_at hv hm
  obtain rfl := Option.some.inj (hg.symm.trans k1)
  obtain rfl := Option.some.inj (ht.symm.trans k2)
  obtain ⟨xs, m, _, hx, hlen, hxl, hel⟩ := DataW.trod_array hu k4
  intro i s hi
  simp only [Prod.mk.injEq, DataW.agg.injEq] at hx
  have hx1 : (xs.map (·.1))[i]? = some (DataW.lit (.string s)) := by rw [← hx.1, List.getElem?_map, hi]; rfl
  rw [List.getElem?_map, Option.map_eq_some_iff] at hx1
  obtain ⟨y, hy, hy1⟩ := hx1
  have hik : i < k := by rw [← hxl]; exact (List.getElem?_eq_some_iff.1 hy).1
  have h1 := hel i hik
  rw [hc, Nat.mul_one, hy] at h1
  obtain ⟨s', e1, e2, _⟩ := DataW.trod_string he h1
  have hsd : s'.data.toList = s := by
    rw [e2] at hy1
    simpa using hy1
  have hs' : s' = ⟨s.toArray⟩ := by
    obtain ⟨da⟩ := s'
    simp only at hsd
    rw [← hsd]
  have hcell : cs[i]? = some (.string s') := by
    have h2 : cs.toList[i]? = some (.string s') := by
      have h3 := congrArg (fun l => l[0]?) e1
      simpa [List.getElem?_take, List.getElem?_drop] using h3
    simpa using h2
  rw [World.var?_cell hg k3 i, hcell, hs']
theorem laidMet_of {P : Program} {l : List (String × DataW Unit)} {W : World} (h : laidMetH P l W) (hn : (l.all fun x => x.2.handleName?.isNone) = true) : laidMet P l W := by rwa [MakeChecks.laidMetH_plain _ _ _ hn] at h
end Go.U
