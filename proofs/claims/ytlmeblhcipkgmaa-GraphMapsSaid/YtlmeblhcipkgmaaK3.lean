/- The library's contracts at this program: the keys of a graph's maps. -/
import Derived.Test.YtlmeblhcipkgmaaK1
import Derived.Test.YtlmeblhcipkgmaaU20
set_option linter.unusedVariables false
namespace Go.Proofs.Ytlmeblhcipkgmaa
open Go Go.U Go.RowKit Go.Maps Go.Sort Go.Shelf Go.Proofs
set_option maxRecDepth 20000
theorem KeysG_c (mb : Option Nat) (ro : Ro) (L : List (List Blk)) : CT Try.prog 94 [.map mb].toArray ro L (PK 113 118 mb ro L) := fun w hi => by
  refine (callsIn_wide (n := 5)).1 ((AnyZI.keys_in Try.keysG Fence.wide 5 trivial rfl mb w).mono ?_)
  rintro e w' ⟨rfl, rfl⟩
  exact ⟨_, ro, _, rfl, Ro.le.refl _, hi.alloc _, _, rfl, rfl, rfl⟩
theorem SortedG_c (m : List (Int × Value)) (es : Array MapEntry) (clk b r : Nat) (ro : Ro) (L : List (List Blk)) (hE : MapE (fun i : Int => Value.int .i64 i) m es clk) (hw : ∀ p ∈ m, I64 p.1) (hs : m.length ≤ 1000000)
    (hb : (b, Obj.cells #[.map (some r)] 118 (0, 0)) ∈ L.flatten) (hr : (r, Obj.map es clk) ∈ L.flatten) :
    CT Try.prog 83 [.func (.func 113) #[] #[.pointer (some ⟨b, 0, none⟩)]].toArray ro L (PN 3 1 encInt (srt (m.map (·.1))) ro L) :=
  Sorted_of 113 (enters_of Try.func113 (by kernel_rfl) rfl) (m.map (·.1)) b ro L (by simpa using hs) fun w hi => by
    have hbw := hi.own _ hb
    have hrw := hi.own _ hr
    obtain ⟨D0, hown, hp, hsz⟩ := hE.ownsI (P := Try.prog) (k := 3) Try.underlying3 hw hs hrw
    refine ⟨_, hp, ?_⟩
    have := AnyZI.keys_gives (ρ := Try.keysG_ren) { Try.keysG with } Fence.wide 2 trivial rfl (by omega) b r m.length D0 w (Array.getElem?_eq_some_iff.1 hbw).1 (by rw [cell_of_row w b 0 _ 118 (0, 0) hbw]; rfl) hown
    rw [hsz] at this
    rw [List.length_map]
    exact this
theorem SortedNilO_c (b : Nat) (ro : Ro) (L : List (List Blk)) (hb : (b, Obj.cells #[.map none] 98 (0, 0)) ∈ L.flatten) :
    CT Try.prog 83 [.func (.func 109) #[] #[.pointer (some ⟨b, 0, none⟩)]].toArray ro L (PN 3 1 encInt (srt []) ro L) :=
  Sorted_of 109 (enters_of Try.func109 (by kernel_rfl) rfl) [] b ro L (by simp) fun w hi => by
    have hbw := hi.own _ hb
    refine ⟨[], .refl _, ?_⟩
    have := AnyZI.keys_gives_nil (ρ := Try.keysO_ren) { Try.keysO with } Fence.wide 2 trivial rfl b w (Array.getElem?_eq_some_iff.1 hbw).1 (by rw [cell_of_row w b 0 _ 98 (0, 0) hbw]; rfl)
    simp only [List.perm_nil]
    exact this
theorem SortedOB_c (m : List (Int × Value)) (mb : Option Nat) (b : Nat) (ro : Ro) (L : List (List Blk)) (hm : (mb = none ∧ m = []) ∨ ∃ r es clk, mb = some r ∧ (r, Obj.map es clk) ∈ L.flatten ∧ MapE (fun i : Int => Value.int .i64 i) m es clk) (hok : ∀ p ∈ m, I64 p.1) (hs : m.length ≤ 1000000)
    (hb : (b, Obj.cells #[.map mb] 98 (0, 0)) ∈ L.flatten) : CT Try.prog 83 [.func (.func 109) #[] #[.pointer (some ⟨b, 0, none⟩)]].toArray ro L (PN 3 1 encInt (srt (m.map (·.1))) ro L) := by
  rcases hm with ⟨rfl, rfl⟩ | ⟨r, es, clk, rfl, hr, hE⟩
  · exact SortedNilO_c b ro L hb
  · exact SortedO_c m es clk b r ro L hE hok hs hb hr
end Go.Proofs.Ytlmeblhcipkgmaa
