/- The library's contracts at this program: the keys of a graph of texts. -/
import Derived.Test.YtlmeblhcipkgmaaK2
import Derived.Test.YtlmeblhcipkgmaaU20
set_option linter.unusedVariables false
namespace Go.Proofs.Ytlmeblhcipkgmaa
open Go Go.U Go.RowKit Go.Maps Go.Sort Go.Shelf Go.Proofs
set_option maxRecDepth 20000
theorem KeysGs_c (mb : Option Nat) (ro : Ro) (L : List (List Blk)) : CT Try.prog 103 [.map mb].toArray ro L (PK 114 135 mb ro L) := fun w hi => by
  refine (callsIn_wide (n := 5)).1 ((AnyZ.keys_in Try.keysGs Fence.wide 5 trivial rfl mb w).mono ?_)
  rintro e w' ⟨rfl, rfl⟩
  exact ⟨_, ro, _, rfl, Ro.le.refl _, hi.alloc _, _, rfl, rfl, rfl⟩
theorem SortedGs_c {k : Nat} {f : Fin k → List UInt8} (ht : Txt k f) (m : List (Fin k × Value)) (es : Array MapEntry) (clk b r : Nat) (ro : Ro) (L : List (List Blk)) (hE : MapE (encTx f) m es clk) (hs : m.length ≤ 1000000)
    (hb : (b, Obj.cells #[.map (some r)] 135 (0, 0)) ∈ L.flatten) (hr : (r, Obj.map es clk) ∈ L.flatten) :
    CT Try.prog 80 [.func (.func 114) #[] #[.pointer (some ⟨b, 0, none⟩)]].toArray ro L (PN 9 1 (encF f) (srtF (m.map (·.1))) ro L) :=
  SortedS_of ht 114 (enters_of Try.func114 (by kernel_rfl) rfl) (m.map (·.1)) b ro L (by simpa using hs) fun w hi => by
    have hbw := hi.own _ hb
    have hrw := hi.own _ hr
    obtain ⟨D0, hown, hp, hsz⟩ := hE.ownsS (P := Try.prog) (k := 9) Try.underlying9 ht hs hrw
    refine ⟨_, hp, ?_⟩
    have := AnyZ.keys_gives (ρ := Try.keysGs_ren) { Try.keysGs with } Fence.wide 2 trivial rfl (by omega) b r m.length D0 w (Array.getElem?_eq_some_iff.1 hbw).1 (by rw [cell_of_row w b 0 _ 135 (0, 0) hbw]; rfl) hown
    rw [hsz] at this
    rw [List.length_map]
    exact this
end Go.Proofs.Ytlmeblhcipkgmaa
