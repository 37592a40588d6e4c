/- The sorted keys of a map: what the library's contracts give, in the words of this library. -/
import Derived.Test.YtgkngljojfkkfaaGreatDoorU10
import Derived.Lib.SlKeysI
import Derived.RangeFuncGives
import Derived.Maps.Own
namespace Go.U
open Go Go.Maps Go.MapKept Go.ChangeMaps Go.RowKit Go.WideShapes
set_option linter.unusedVariables false

def I64 (x : Int) : Prop := -9223372036854775808 ≤ x ∧ x ≤ 9223372036854775807
theorem I64.wf {x : Int} (h : I64 x) : (Lit.int .i64 x).wf = true := by
  obtain ⟨h1, h2⟩ := h
  have e1 : IntKind.min .i64 = -9223372036854775808 := by decide
  have e2 : IntKind.max .i64 = 9223372036854775807 := by decide
  simp [Lit.wf, e1, e2, h1, h2]

def freeR : Value → Option (DataW Unit × List MemPlace) := fun _ => some (.nil, [])

theorem MapE.stamped {κ : Type} [DecidableEq κ] {enc : κ → Value} {m : List (κ × Value)} {es : Array MapEntry} {clk : Nat} (hinj : ∀ a b, enc a = enc b → a = b) (h : MapE enc m es clk) : Stamped es clk := by
  refine ⟨h.lt, ?_, ?_⟩
  · rw [List.Nodup, List.pairwise_map]
    exact h.born.imp (fun h => by omega)
  · have e : es.toList.map (·.key) = (m.map (·.1)).map enc := by
      have := congrArg (List.map Prod.fst) h.kv
      simpa [List.map_map, Function.comp_def] using this
    rw [e, List.Nodup, List.pairwise_map]
    exact h.nodup.imp (fun hne e => hne (hinj _ _ e))

theorem MapE.ownsI {P : Program} {k : TypeId} (hk : P.underlying k = some (.int .i64)) {m : List (Int × Value)} {es : Array MapEntry} {clk : Nat} (h : MapE (fun i : Int => Value.int .i64 i) m es clk) (hw : ∀ p ∈ m, I64 p.1) (hs : m.length ≤ 1000000)
    {w : World} {r : Nat} (hr : w.heap[r]? = some (.map es clk)) : ∃ D0 : DataW Unit, w.ownsMap P k freeR r m.length D0 ∧ (m.map (·.1)).Perm (intKeys D0) ∧ Maps.size D0 = m.length := by
  have hsz : es.size = m.length := h.size
  have hmem : ∀ e ∈ es.toList, ∃ p ∈ m, e.key = Value.int .i64 p.1 := fun e he => by
    have : (e.key, e.val) ∈ es.toList.map (fun e => (e.key, e.val)) := List.mem_map_of_mem he
    rw [h.kv] at this
    obtain ⟨p, hp, e2⟩ := List.mem_map.1 this
    simp only [Prod.mk.injEq] at e2
    exact ⟨p, hp, e2.1.symm⟩
  have hrd : ∀ e ∈ es.toList, ∀ p ∈ m, e.key = Value.int .i64 p.1 → Go.WideElems.rd P k freeR e = some (Lit.int .i64 p.1, .nil) := fun e he p hp hkey => by
    simp [Go.WideElems.rd, hkey, keyOf_int_mk hk (hw p hp).wf, freeR]
  refine ⟨.map ((es.toList.map (Go.WideElems.rg P k freeR)).foldr DataW.insert []), ⟨es, clk, hr, ⟨by rw [hsz]; unfold maxLen; omega, h.stamped (fun a b e => by simpa using e), fun x hx => ?_⟩, by omega, rfl⟩, ?_, ?_⟩
  · obtain ⟨p, hp, hkey⟩ := hmem x hx
    exact ⟨_, hrd x hx p hp hkey⟩
  · have hp := sorted_perm (es.toList.map (Go.WideElems.rg P k freeR))
    have h1 : (intKeys (.map ((es.toList.map (Go.WideElems.rg P k freeR)).foldr DataW.insert []))).Perm ((es.toList.map (Go.WideElems.rg P k freeR)).map fun p => intOf p.1) := hp.map _
    refine List.Perm.trans (.of_eq ?_) h1.symm
    have hkey : m.map (·.1) = es.toList.map (fun e => match e.key with | .int _ a => a | _ => 0) := by
      have := congrArg (List.map fun (x : Value × Value) => match x.1 with | .int _ a => a | _ => (0 : Int)) h.kv
      simp only [List.map_map, Function.comp_def] at this
      exact this.symm
    rw [hkey, List.map_map]
    refine List.map_congr_left fun e he => ?_
    obtain ⟨p, hp, hk2⟩ := hmem e he
    simp only [Function.comp, Go.WideElems.rg, hrd e he p hp hk2, hk2, Option.getD_some, intOf]
  · simp only [Maps.size]
    rw [(sorted_perm _).length_eq, List.length_map]
    simpa using hsz

/-- what a call has left that turned nothing old and gives a row of its own -/
theorem I.row {ro : Ro} {L : List (List Blk)} {w w' : World} {e : TypeId} {k m : Nat} {v : Value} {xs : List Value} (h : I ro L w) (hb : Below w.heap.size w w') (hrow : w'.ownsRow w.heap.size e k v m xs) :
    ∃ A cap R, v = .slice A m cap ∧ OwnS e k A m cap xs R ∧ I ro (R :: L) w' := by
  have hold : ∀ b o, w.heap[b]? = some o → w'.heap[b]? = some o := fun b o hb' => by
    rw [hb.block b (Array.getElem?_eq_some_iff.1 hb').1]; exact hb'
  have base : I ro L w' := ⟨hb.os.trans h.os, hb.tape.trans h.tape, hb.output.trans h.output, Nat.le_trans h.size hb.size, fun b o hc => hold b o (h.old b o hc), fun x hx => hold _ _ (h.own x hx), h.apart, h.nodup⟩
  obtain ⟨h1, ⟨rfl, rfl⟩ | ⟨g, cap, cur, rfl, h2, h3, h4, h5, h6, h7⟩⟩ := hrow
  · exact ⟨none, 0, [], rfl, ⟨h1, .inl ⟨rfl, rfl, rfl, rfl⟩⟩, base.sub ⟨_, .refl _, .refl _⟩⟩
  · refine ⟨_, cap, [(g, .cells cur e (0, 0))], rfl, ⟨h1, .inr ⟨g, 0, cur, rfl, rfl, h4, h5, by omega, by simpa using h7⟩⟩, ⟨base.os, base.tape, base.output, base.size, base.old, fun x hx => ?_, fun x hx => ?_, ?_⟩⟩
    · rcases List.mem_cons.1 hx with rfl | hx
      · exact h3
      · exact base.own x hx
    · rcases List.mem_cons.1 hx with rfl | hx
      · cases hc : ro.cells g with
        | none => rfl
        | some o =>
          have := (Array.getElem?_eq_some_iff.1 (h.old _ _ hc)).1
          omega
      · exact base.apart x hx
    · show (((g, Obj.cells cur e (0, 0)) :: L.flatten).map (·.1)).Nodup
      rw [List.map_cons, List.nodup_cons]
      refine ⟨fun hm => ?_, base.nodup⟩
      obtain ⟨x, hx, e⟩ := List.mem_map.1 hm
      have := (Array.getElem?_eq_some_iff.1 (h.own x hx)).1
      simp only at e
      omega

def srt (l : List Int) : List Int := l.mergeSort (fun x y => decide (x ≤ y))
theorem srt_perm {l l' : List Int} (h : l.Perm l') : srt l = srt l' := mergeSort_of_perm_i h
theorem srt_length (l : List Int) : (srt l).length = l.length := List.length_mergeSort l
theorem mem_srt {l : List Int} {x : Int} : x ∈ srt l ↔ x ∈ l := List.mem_mergeSort
theorem srt_sorted {l : List Int} (h : l.Nodup) : (srt l).Pairwise (· < ·) := by
  have h1 : (srt l).Pairwise (fun x y => decide (x ≤ y) = true) := List.pairwise_mergeSort (fun a b c h1 h2 => by simp at *; omega) (fun a b => by simp; omega) l
  have h2 : (srt l).Nodup := (List.mergeSort_perm l _).nodup_iff.2 h
  exact (h1.and h2).imp (fun ⟨h1, h2⟩ => by simp at h1; omega)
theorem sorted_ext {l m : List Int} (hl : l.Pairwise (· < ·)) (hm : m.Pairwise (· < ·)) (h : ∀ x, x ∈ l ↔ x ∈ m) : l = m := by
  refine List.Perm.eq_of_pairwise (le := fun a b : Int => a < b) (fun a b _ _ h1 h2 => by omega) hl hm ?_
  exact (List.perm_ext_iff_of_nodup (hl.imp (fun h => by omega)) (hm.imp (fun h => by omega))).2 h

end Go.U
