/- The library's contracts at this program, for keys that are texts. -/
import Derived.Test.YtlmeblhcipkgmaaK1
import Derived.Test.YtlmeblhcipkgmaaU18
import Derived.Test.YtlmeblhcipkgmaaU14
set_option linter.unusedVariables false
namespace Go.Proofs.Ytlmeblhcipkgmaa
open Go Go.U Go.RowKit Go.Maps Go.Sort Go.Shelf Go.Proofs
set_option maxRecDepth 20000
theorem sortsS (m : Nat) : AnyZ.SortsIn Try.prog Try.sortedS_ren Fence.wide m :=
  ⟨fun blk off cap ss W hH hblk hsz => callsIn_wide.2 (AnyM.slices_Sort_string Try.sortS blk off cap ss W hH hblk hsz),
   fun p cap W => callsIn_wide.2 (AnyM.slices_Sort_string_none Try.sortS p cap W)⟩
def encF {m : Nat} (f : Fin m → List UInt8) : Fin m → List Value := fun i => [encTx f i]
theorem KeysOs_c (mb : Option Nat) (ro : Ro) (L : List (List Blk)) : CT Try.prog 81 [.map mb].toArray ro L (PK 107 101 mb ro L) := fun w hi => by
  refine (callsIn_wide (n := 5)).1 ((AnyZ.keys_in Try.keysOs Fence.wide 5 trivial rfl mb w).mono ?_)
  rintro e w' ⟨rfl, rfl⟩
  exact ⟨_, ro, _, rfl, Ro.le.refl _, hi.alloc _, _, rfl, rfl, rfl⟩
theorem KeysIs_c (mb : Option Nat) (ro : Ro) (L : List (List Blk)) : CT Try.prog 104 [.map mb].toArray ro L (PK 115 104 mb ro L) := fun w hi => by
  refine (callsIn_wide (n := 5)).1 ((AnyZ.keys_in Try.keysIs Fence.wide 5 trivial rfl mb w).mono ?_)
  rintro e w' ⟨rfl, rfl⟩
  exact ⟨_, ro, _, rfl, Ro.le.refl _, hi.alloc _, _, rfl, rfl, rfl⟩
theorem SortedS_of {k : Nat} {f : Fin k → List UInt8} (ht : Txt k f) (fI : Nat) (hFI : ∀ args w, (callFunc fI args).run Try.prog w = .ok (.enter fI args) w) (m : List (Fin k)) (b : Nat) (ro : Ro) (L : List (List Blk)) (hs : m.length ≤ 1000000)
    (hg : ∀ w, I ro L w → ∃ ks : List (List UInt8), (m.map f).Perm ks ∧ SeqGives Fence.wide 2 Try.prog fI #[.pointer (some ⟨b, 0, none⟩)] encStr (fun ss => ss.Perm ks) m.length w) :
    CT Try.prog 80 [.func (.func fI) #[] #[.pointer (some ⟨b, 0, none⟩)]].toArray ro L (PN 9 1 (encF f) (srtF m) ro L) := fun w hi => by
  obtain ⟨ks, hp, hseq⟩ := hg w hi
  have cS := AnyZ.sorted_in Try.sortedS Fence.wide 5 trivial trivial trivial trivial rfl (by omega) (sortsS _) (enters_of Try.func106 (by kernel_rfl) rfl) fI #[.pointer (some ⟨b, 0, none⟩)] trivial hFI _ _ (by unfold maxLen; omega) (by omega) _ hseq
  refine (callsIn_wide (n := 5)).1 (CallsIn.mono cS ?_)
  rintro e w' ⟨v, ss, rfl, hS, hrow, hnil, hb⟩
  have e1 : (ss.mergeSort (fun x y => decide (x ≤ y))) = (srtF m).map f := srt_map ht (hS.trans hp.symm)
  have e2 : ss.length = (srtF m).length := by
    have := congrArg List.length e1
    rw [List.length_mergeSort, List.length_map] at this
    exact this
  rw [e1, e2, List.map_map] at hrow
  obtain ⟨A, cap, R, rfl, hO, hi'⟩ := hi.row hb hrow
  exact ⟨_, ro, R :: L, rfl, Ro.le.refl _, hi', A, cap, R, rfl, by unfold encF; rw [flatMap_one]; exact hO, rfl, rfl⟩
theorem SortedOs_c {k : Nat} {f : Fin k → List UInt8} (ht : Txt k f) (m : List (Fin k × Value)) (es : Array MapEntry) (clk b r : Nat) (ro : Ro) (L : List (List Blk)) (hE : MapE (encTx f) m es clk) (hs : m.length ≤ 1000000)
    (hb : (b, Obj.cells #[.map (some r)] 101 (0, 0)) ∈ L.flatten) (hr : (r, Obj.map es clk) ∈ L.flatten) :
    CT Try.prog 80 [.func (.func 107) #[] #[.pointer (some ⟨b, 0, none⟩)]].toArray ro L (PN 9 1 (encF f) (srtF (m.map (·.1))) ro L) :=
  SortedS_of ht 107 (enters_of Try.func107 (by kernel_rfl) rfl) (m.map (·.1)) b ro L (by simpa using hs) fun w hi => by
    have hbw := hi.own _ hb
    have hrw := hi.own _ hr
    obtain ⟨D0, hown, hp, hsz⟩ := hE.ownsS (P := Try.prog) (k := 9) Try.underlying9 ht hs hrw
    refine ⟨_, hp, ?_⟩
    have := AnyZ.keys_gives (ρ := Try.keysOs_ren) { Try.keysOs with } Fence.wide 2 trivial rfl (by omega) b r m.length D0 w (Array.getElem?_eq_some_iff.1 hbw).1 (by rw [cell_of_row w b 0 _ 101 (0, 0) hbw]; rfl) hown
    rw [hsz] at this
    rw [List.length_map]
    exact this
theorem SortedIs_c {k : Nat} {f : Fin k → List UInt8} (ht : Txt k f) (m : List (Fin k × Value)) (es : Array MapEntry) (clk b r : Nat) (ro : Ro) (L : List (List Blk)) (hE : MapE (encTx f) m es clk) (hs : m.length ≤ 1000000)
    (hb : (b, Obj.cells #[.map (some r)] 104 (0, 0)) ∈ L.flatten) (hr : (r, Obj.map es clk) ∈ L.flatten) :
    CT Try.prog 80 [.func (.func 115) #[] #[.pointer (some ⟨b, 0, none⟩)]].toArray ro L (PN 9 1 (encF f) (srtF (m.map (·.1))) ro L) :=
  SortedS_of ht 115 (enters_of Try.func115 (by kernel_rfl) rfl) (m.map (·.1)) b ro L (by simpa using hs) fun w hi => by
    have hbw := hi.own _ hb
    have hrw := hi.own _ hr
    obtain ⟨D0, hown, hp, hsz⟩ := hE.ownsS (P := Try.prog) (k := 9) Try.underlying9 ht hs hrw
    refine ⟨_, hp, ?_⟩
    have := AnyZ.keys_gives (ρ := Try.keysIs_ren) { Try.keysIs with } Fence.wide 2 trivial rfl (by omega) b r m.length D0 w (Array.getElem?_eq_some_iff.1 hbw).1 (by rw [cell_of_row w b 0 _ 104 (0, 0) hbw]; rfl) hown
    rw [hsz] at this
    rw [List.length_map]
    exact this
theorem SortedNils_c {k : Nat} {f : Fin k → List UInt8} (ht : Txt k f) (b : Nat) (ro : Ro) (L : List (List Blk)) (hb : (b, Obj.cells #[.map none] 104 (0, 0)) ∈ L.flatten) :
    CT Try.prog 80 [.func (.func 115) #[] #[.pointer (some ⟨b, 0, none⟩)]].toArray ro L (PN 9 1 (encF f) (srtF []) ro L) :=
  SortedS_of ht 115 (enters_of Try.func115 (by kernel_rfl) rfl) [] b ro L (by simp) fun w hi => by
    have hbw := hi.own _ hb
    refine ⟨[], .refl _, ?_⟩
    have := AnyZ.keys_gives_nil (ρ := Try.keysIs_ren) { Try.keysIs with } Fence.wide 2 trivial rfl b w (Array.getElem?_eq_some_iff.1 hbw).1 (by rw [cell_of_row w b 0 _ 104 (0, 0) hbw]; rfl)
    simp only [List.perm_nil]
    exact this
theorem SortedBs_c {k : Nat} {f : Fin k → List UInt8} (ht : Txt k f) (ks : List (Fin k)) (mb : Option Nat) (b : Nat) (ro : Ro) (L : List (List Blk)) (hm : (mb = none ∧ ks = []) ∨ ∃ r es clk, mb = some r ∧ (r, Obj.map es clk) ∈ L.flatten ∧ MapE (encTx f) (im ks) es clk) (hs : ks.length ≤ 1000000)
    (hb : (b, Obj.cells #[.map mb] 104 (0, 0)) ∈ L.flatten) : CT Try.prog 80 [.func (.func 115) #[] #[.pointer (some ⟨b, 0, none⟩)]].toArray ro L (PN 9 1 (encF f) (srtF ks) ro L) := by
  rcases hm with ⟨rfl, rfl⟩ | ⟨r, es, clk, rfl, hr, hE⟩
  · exact SortedNils_c ht b ro L hb
  · have := SortedIs_c ht (im ks) es clk b r ro L hE (by simpa [im] using hs) hb hr
    rwa [im_keys] at this
end Go.Proofs.Ytlmeblhcipkgmaa
