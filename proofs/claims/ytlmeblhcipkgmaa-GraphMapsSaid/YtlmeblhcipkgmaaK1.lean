/- The library's contracts at this program: the keys of a map, sorted; a sort. -/
import Derived.Test.YtlmeblhcipkgmaaLay
import Derived.Test.YtlmeblhcipkgmaaU12
namespace Go.Proofs.Ytlmeblhcipkgmaa
open Go Go.U Go.RowKit Go.Maps Go.Sort Go.Shelf Go.Proofs
set_option maxRecDepth 20000
theorem sortsI (m : Nat) : AnyZI.SortsIn Try.prog Try.sortedI_ren Fence.wide m :=
  ⟨fun blk off cap ss W hH hblk hsz => callsIn_wide.2 (AnyM.slices_Sort_int Try.sortI blk off cap ss W hH hblk hsz),
   fun p cap W => callsIn_wide.2 (AnyM.slices_Sort_int_none Try.sortI p cap W)⟩
theorem SortI_c {A : Option Addr} {cap : Nat} {l : List Int} {R : List Blk} {L : List (List Blk)} {ro : Ro} (hO : OwnS 3 1 A l.length cap (l.flatMap encInt) R) (hn : l.length ≤ 1000000) :
    CT Try.prog 85 [.slice A l.length cap].toArray ro (R :: L) (fun v ro' L' => v = .tuple #[] ∧ ro = ro' ∧ ∃ R', OwnS 3 1 A l.length cap ((srt l).flatMap encInt) R' ∧ L' = R' :: L) :=
  sort_CT (Value.int .i64) srt srt_length (fun blk off cap ss W hH hblk hsz => AnyM.slices_Sort_int Try.sortI blk off cap ss W hH hblk hsz) (fun p cap W => AnyM.slices_Sort_int_none Try.sortI p cap W) hO hn
/-- a new list of one's own, all else as it was -/
def PN {α : Type} (e k : Nat) (enc : α → List Value) (l : List α) (ro : Ro) (L : List (List Blk)) : Value → Ro → List (List Blk) → Prop := fun v ro' L' => ∃ A cap R, v = .slice A l.length cap ∧ OwnS e k A l.length cap (l.flatMap enc) R ∧ ro = ro' ∧ L' = R :: L
/-- the values that a range over the keys of a map takes -/
def PK (fI : Nat) (T : TypeId) (mb : Option Nat) (ro : Ro) (L : List (List Blk)) : Value → Ro → List (List Blk) → Prop := fun v ro' L' => ∃ b, v = .func (.func fI) #[] #[.pointer (some ⟨b, 0, none⟩)] ∧ ro = ro' ∧ L' = [(b, .cells #[.map mb] T (0, 0))] :: L
theorem KeysO_c (mb : Option Nat) (ro : Ro) (L : List (List Blk)) : CT Try.prog 84 [.map mb].toArray ro L (PK 109 98 mb ro L) := fun w hi => by
  refine (callsIn_wide (n := 5)).1 ((AnyZI.keys_in Try.keysO Fence.wide 5 trivial rfl mb w).mono ?_)
  rintro e w' ⟨rfl, rfl⟩
  exact ⟨_, ro, _, rfl, Ro.le.refl _, hi.alloc _, _, rfl, rfl, rfl⟩
theorem KeysI_c (mb : Option Nat) (ro : Ro) (L : List (List Blk)) : CT Try.prog 87 [.map mb].toArray ro L (PK 112 110 mb ro L) := fun w hi => by
  refine (callsIn_wide (n := 5)).1 ((AnyZI.keys_in Try.keysI Fence.wide 5 trivial rfl mb w).mono ?_)
  rintro e w' ⟨rfl, rfl⟩
  exact ⟨_, ro, _, rfl, Ro.le.refl _, hi.alloc _, _, rfl, rfl, rfl⟩
theorem Sorted_of (fI : Nat) (hFI : ∀ args w, (callFunc fI args).run Try.prog w = .ok (.enter fI args) w) (m : List Int) (b : Nat) (ro : Ro) (L : List (List Blk)) (hs : m.length ≤ 1000000)
    (hg : ∀ w, I ro L w → ∃ ks : List Int, m.Perm ks ∧ SeqGives Fence.wide 2 Try.prog fI #[.pointer (some ⟨b, 0, none⟩)] encZ (fun ss => ss.Perm ks) m.length w) :
    CT Try.prog 83 [.func (.func fI) #[] #[.pointer (some ⟨b, 0, none⟩)]].toArray ro L (PN 3 1 encInt (srt m) ro L) := fun w hi => by
  obtain ⟨ks, hp, hseq⟩ := hg w hi
  have cS := AnyZI.sorted_in Try.sortedI Fence.wide 5 trivial trivial trivial trivial rfl (by omega) (sortsI _) (enters_of Try.func85 (by kernel_rfl) rfl) fI #[.pointer (some ⟨b, 0, none⟩)] trivial hFI _ _ (by unfold maxLen; omega) (by omega) _ hseq
  refine (callsIn_wide (n := 5)).1 (CallsIn.mono cS ?_)
  rintro e w' ⟨v, ss, rfl, hS, hrow, hnil, hb⟩
  have e1 : (ss.mergeSort (fun x y => decide (x ≤ y))) = srt m := srt_perm (hS.trans hp.symm)
  have e2 : ss.length = (srt m).length := by rw [← e1, List.length_mergeSort]
  rw [e1, e2] at hrow
  obtain ⟨A, cap, R, rfl, hO, hi'⟩ := hi.row hb hrow
  exact ⟨_, ro, R :: L, rfl, Ro.le.refl _, hi', A, cap, R, rfl, by rw [fm_int]; exact hO, rfl, rfl⟩
theorem SortedO_c (m : List (Int × Value)) (es : Array MapEntry) (clk b r : Nat) (ro : Ro) (L : List (List Blk)) (hE : MapE (fun i : Int => Value.int .i64 i) m es clk) (hw : ∀ p ∈ m, I64 p.1) (hs : m.length ≤ 1000000)
    (hb : (b, Obj.cells #[.map (some r)] 98 (0, 0)) ∈ L.flatten) (hr : (r, Obj.map es clk) ∈ L.flatten) :
    CT Try.prog 83 [.func (.func 109) #[] #[.pointer (some ⟨b, 0, none⟩)]].toArray ro L (PN 3 1 encInt (srt (m.map (·.1))) ro L) :=
  Sorted_of 109 (enters_of Try.func109 (by kernel_rfl) rfl) (m.map (·.1)) b ro L (by simpa using hs) fun w hi => by
    have hbw := hi.own _ hb
    have hrw := hi.own _ hr
    obtain ⟨D0, hown, hp, hsz⟩ := hE.ownsI (P := Try.prog) (k := 3) Try.underlying3 hw hs hrw
    refine ⟨_, hp, ?_⟩
    have := AnyZI.keys_gives (ρ := Try.keysO_ren) { Try.keysO with } Fence.wide 2 trivial rfl (by omega) b r m.length D0 w (Array.getElem?_eq_some_iff.1 hbw).1 (by rw [cell_of_row w b 0 _ 98 (0, 0) hbw]; rfl) hown
    rw [hsz] at this
    rw [List.length_map]
    exact this
theorem SortedI_c (m : List (Int × Value)) (es : Array MapEntry) (clk b r : Nat) (ro : Ro) (L : List (List Blk)) (hE : MapE (fun i : Int => Value.int .i64 i) m es clk) (hw : ∀ p ∈ m, I64 p.1) (hs : m.length ≤ 1000000)
    (hb : (b, Obj.cells #[.map (some r)] 110 (0, 0)) ∈ L.flatten) (hr : (r, Obj.map es clk) ∈ L.flatten) :
    CT Try.prog 83 [.func (.func 112) #[] #[.pointer (some ⟨b, 0, none⟩)]].toArray ro L (PN 3 1 encInt (srt (m.map (·.1))) ro L) :=
  Sorted_of 112 (enters_of Try.func112 (by kernel_rfl) rfl) (m.map (·.1)) b ro L (by simpa using hs) fun w hi => by
    have hbw := hi.own _ hb
    have hrw := hi.own _ hr
    obtain ⟨D0, hown, hp, hsz⟩ := hE.ownsI (P := Try.prog) (k := 3) Try.underlying3 hw hs hrw
    refine ⟨_, hp, ?_⟩
    have := AnyZI.keys_gives (ρ := Try.keysI_ren) { Try.keysI with } Fence.wide 2 trivial rfl (by omega) b r m.length D0 w (Array.getElem?_eq_some_iff.1 hbw).1 (by rw [cell_of_row w b 0 _ 110 (0, 0) hbw]; rfl) hown
    rw [hsz] at this
    rw [List.length_map]
    exact this
theorem SortedNil_c (b : Nat) (ro : Ro) (L : List (List Blk)) (hb : (b, Obj.cells #[.map none] 110 (0, 0)) ∈ L.flatten) :
    CT Try.prog 83 [.func (.func 112) #[] #[.pointer (some ⟨b, 0, none⟩)]].toArray ro L (PN 3 1 encInt (srt []) ro L) :=
  Sorted_of 112 (enters_of Try.func112 (by kernel_rfl) rfl) [] b ro L (by simp) fun w hi => by
    have hbw := hi.own _ hb
    refine ⟨[], .refl _, ?_⟩
    have := AnyZI.keys_gives_nil (ρ := Try.keysI_ren) { Try.keysI with } Fence.wide 2 trivial rfl b w (Array.getElem?_eq_some_iff.1 hbw).1 (by rw [cell_of_row w b 0 _ 110 (0, 0) hbw]; rfl)
    simp only [List.perm_nil]
    exact this
end Go.Proofs.Ytlmeblhcipkgmaa
