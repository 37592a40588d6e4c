/- Maps whose keys are texts out of a short list of texts: the keys are told by their places in that list. -/
import Derived.Test.YtgkngljojfkkfaaGreatDoorU17
import Derived.Sort.KeysCollected
set_option linter.unusedVariables false
set_option linter.unusedSectionVars false
namespace Go.U
open Go Go.Maps Go.MapKept Go.ChangeMaps Go.RowKit Go.WideShapes Go.WideMaps
open Go.Proofs (encStr)
/-- texts that rise -/
structure Txt (m : Nat) (f : Fin m → List UInt8) : Prop where
  mono : ∀ a b, leB (f a) (f b) = decide (a ≤ b)
  short : ∀ a, (f a).length ≤ 1000
variable {m : Nat} {f : Fin m → List UInt8}
theorem Txt.inj (h : Txt m f) {a b : Fin m} (e : f a = f b) : a = b := by
  have h1 := h.mono a b
  have h2 := h.mono b a
  have h3 := h.mono a a
  rw [e] at h1
  rw [e] at h2
  have h4 : leB (f b) (f b) = true := by rw [h.mono]; simp
  rw [h4] at h1 h2
  have h5 := of_decide_eq_true h1.symm
  have h6 := of_decide_eq_true h2.symm
  exact Fin.le_antisymm h5 h6
def encTx (f : Fin m → List UInt8) : Fin m → Value := fun i => encStr (f i)
theorem encTx_inj (h : Txt m f) {a b : Fin m} (e : encTx f a = encTx f b) : a = b := h.inj (encStr_inj e)
theorem KEnc.comp {κ κ' : Type} [DecidableEq κ] [DecidableEq κ'] {P : Program} {kt : TypeId} {enc : κ → Value} (h : KEnc P kt enc) (g : κ' → κ) (hg : ∀ a b, g a = g b → a = b) : KEnc P kt (fun x => enc (g x)) where
  und := by
    obtain ⟨d, h1, h2⟩ := h.und
    refine ⟨d, h1, fun a b => ?_⟩
    rw [h2]
    by_cases e : a = b
    · subst e; simp
    · rw [decide_eq_false e, decide_eq_false (fun e2 => e (hg _ _ e2))]
  check := fun b m k w => h.check b m (g k) w
  bits := fun m k => h.bits m (g k)
theorem kenc_txt {P : Program} {kt : TypeId} (hk : P.underlying kt = some .string) (h : Txt m f) : KEnc P kt (encTx f) :=
  (kenc_str hk).comp (fun i => (⟨(f i).toArray⟩ : ByteArray)) (fun a b e => h.inj (by simpa using e))
def srtF (l : List (Fin m)) : List (Fin m) := l.mergeSort (fun a b => decide (a ≤ b))
theorem srtF_length (l : List (Fin m)) : (srtF l).length = l.length := List.length_mergeSort l
theorem mem_srtF {l : List (Fin m)} {x : Fin m} : x ∈ srtF l ↔ x ∈ l := List.mem_mergeSort
theorem srtF_sorted {l : List (Fin m)} (h : l.Nodup) : (srtF l).Pairwise (· < ·) := by
  have h1 : (srtF l).Pairwise (fun x y => decide (x ≤ y) = true) := List.pairwise_mergeSort (fun a b c h1 h2 => by simp at *; omega) (fun a b => by simp; omega) l
  have h2 : (srtF l).Nodup := (List.mergeSort_perm l _).nodup_iff.2 h
  exact (h1.and h2).imp (fun ⟨h1, h2⟩ => by simp at h1; omega)
theorem sortedF_ext {l k : List (Fin m)} (hl : l.Pairwise (· < ·)) (hm : k.Pairwise (· < ·)) (h : ∀ x, x ∈ l ↔ x ∈ k) : l = k := by
  refine List.Perm.eq_of_pairwise (le := fun a b : Fin m => a < b) (fun a b _ _ h1 h2 => by omega) hl hm ?_
  exact (List.perm_ext_iff_of_nodup (hl.imp (fun h => by omega)) (hm.imp (fun h => by omega))).2 h
theorem srt_map (h : Txt m f) {ks : List (Fin m)} {ss : List (List UInt8)} (hp : ss.Perm (ks.map f)) : ss.mergeSort leB = (srtF ks).map f := by
  rw [mergeSort_of_perm hp]
  exact (List.map_mergeSort (fun a _ b _ => (h.mono a b).symm)).symm
theorem MapE.ownsS {P : Program} {k : TypeId} (hk : P.underlying k = some .string) (ht : Txt m f) {mp : List (Fin m × Value)} {es : Array MapEntry} {clk : Nat} (h : MapE (encTx f) mp es clk) (hs : mp.length ≤ 1000000)
    {w : World} {r : Nat} (hr : w.heap[r]? = some (.map es clk)) : ∃ D0 : DataW Unit, w.ownsMap P k freeR r mp.length D0 ∧ ((mp.map (·.1)).map f).Perm (strKeys D0) ∧ Maps.size D0 = mp.length := by
  have hsz : es.size = mp.length := h.size
  have hmem : ∀ e ∈ es.toList, ∃ p ∈ mp, e.key = encTx f p.1 := fun e he => by
    have : (e.key, e.val) ∈ es.toList.map (fun e => (e.key, e.val)) := List.mem_map_of_mem he
    rw [h.kv] at this
    obtain ⟨p, hp, e2⟩ := List.mem_map.1 this
    simp only [Prod.mk.injEq] at e2
    exact ⟨p, hp, e2.1.symm⟩
  have hrd : ∀ e ∈ es.toList, ∀ p ∈ mp, e.key = encTx f p.1 → Go.WideElems.rd P k freeR e = some (Lit.string (f p.1), .nil) := fun e he p hp hkey => by
    have h1 : keyOf P k (.string ⟨(f p.1).toArray⟩) = some (.string (f p.1)) := by
      have := keyOf_string_mk hk (s := ⟨(f p.1).toArray⟩) (by have := ht.short p.1; show (f p.1).toArray.size ≤ maxLen; simp [maxLen]; omega)
      simpa using this
    simp [Go.WideElems.rd, hkey, encTx, encStr, h1, freeR]
  refine ⟨.map ((es.toList.map (Go.WideElems.rg P k freeR)).foldr DataW.insert []), ⟨es, clk, hr, ⟨by rw [hsz]; unfold maxLen; omega, h.stamped (fun a b e => encTx_inj ht e), fun x hx => ?_⟩, by omega, rfl⟩, ?_, ?_⟩
  · obtain ⟨p, hp, hkey⟩ := hmem x hx
    exact ⟨_, hrd x hx p hp hkey⟩
  · have hp := sorted_perm (es.toList.map (Go.WideElems.rg P k freeR))
    have h1 : (strKeys (.map ((es.toList.map (Go.WideElems.rg P k freeR)).foldr DataW.insert []))).Perm ((es.toList.map (Go.WideElems.rg P k freeR)).map fun p => strOf p.1) := hp.map _
    refine List.Perm.trans (.of_eq ?_) h1.symm
    have hkey : (mp.map (·.1)).map f = es.toList.map (fun e => match e.key with | .string s => s.data.toList | _ => []) := by
      have := congrArg (List.map fun (x : Value × Value) => match x.1 with | .string s => s.data.toList | _ => ([] : List UInt8)) h.kv
      simp only [List.map_map, Function.comp_def] at this
      rw [List.map_map]
      exact this.symm
    rw [hkey, List.map_map]
    refine List.map_congr_left fun e he => ?_
    obtain ⟨p, hp, hk2⟩ := hmem e he
    simp only [Function.comp, Go.WideElems.rg, hrd e he p hp hk2, hk2, Option.getD_some, strOf, encTx, encStr]
  · simp only [Maps.size]
    rw [(sorted_perm _).length_eq, List.length_map]
    simpa using hsz
end Go.U
