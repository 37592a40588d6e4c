/- What an object, a state, a store is; the library: numerals, joined words. -/
import Derived.Test.YtgkngljojfkkfaaGreatDoorTy
import Derived.Test.YtgkngljojfkkfaaGreatDoorU29
import Derived.Test.YtgkngljojfkkfaaGreatDoorLay
namespace Go.Proofs.YtgkngljojfkkfaaGreatDoor
open Go Go.U
set_option maxRecDepth 20000
set_option linter.unusedSimpArgs false
set_option linter.unusedVariables false

open Go.Shelf Go.RowKit
theorem subl_flatten {L L' : List (List Blk)} (h : L'.Sublist L) : L'.flatten.Sublist L.flatten := by
  induction h with
  | slnil => exact List.Sublist.refl _
  | cons a _ ih => exact ih.trans (List.sublist_append_right _ _)
  | cons_cons a _ ih => exact (List.Sublist.refl _).append ih
theorem subF {L L' : List (List Blk)} (h : L'.Sublist L) : ∃ M, M.Perm L.flatten ∧ L'.flatten.Sublist M := ⟨_, .refl _, subl_flatten h⟩
structure Ob where
  kind : Int
  init : Int
theorem beq_dec (a b : Int) : (a == b) = decide (a = b) := by by_cases h : a = b <;> simp [h]
def encOb (o : Ob) : List Value := [.int .i64 o.kind, .int .i64 o.init]
theorem enc_ob {l : List Ob} : ∀ x ∈ l, (encOb x).length = 2 := fun _ _ => rfl
theorem upto {p : Nat → Prop} {k : Nat} (hall : ∀ j : Nat, j < k → p j) (h : p k) : ∀ j : Nat, j < k + 1 → p j := fun j hj => by
  rcases Nat.lt_or_ge j k with h1 | h1
  · exact hall j h1
  · obtain rfl : j = k := by omega
    exact h
theorem take_snoc' {α : Type} {l : List α} {k : Nat} {x : α} (h : l[k]? = some x) : l.take (k + 1) = l.take k ++ [x] := by
  rw [List.take_add_one, h]; rfl
/-- a new list of one's own -/
def PO {α : Type} (e k : Nat) (enc : α → List Value) (l : List α) (L : List (List Blk)) : Value → Ro → List (List Blk) → Prop := fun v ro' L' => ∃ A cap R, v = .slice A l.length cap ∧ OwnS e k A l.length cap (l.flatMap enc) R ∧ L' = R :: L
theorem PO.frozen {α : Type} {P : Program} {f : FuncId} {args : Array Value} {ro : Ro} {L : List (List Blk)} {e k : Nat} {enc : α → List Value} {l : List α} (henc : ∀ x ∈ l, (enc x).length = k) (h : CT P f args ro L (PO e k enc l L)) : CT P f args ro L (PS k enc l L) :=
  h.freeze fun v ro1 L1 hle hp => by
    obtain ⟨A, cap, R, rfl, hO, rfl⟩ := hp
    exact ⟨R, L, rfl, fun ro2 _ hR => ⟨A, cap, rfl, hO.sl henc hR, rfl⟩⟩
/-- a key of a map, and its value -/
structure Pr where
  key : Int
  val : Int
def encPr (p : Pr) : List Value := [.int .i64 p.key, .int .i64 p.val]
theorem enc_pr {l : List Pr} : ∀ x ∈ l, (encPr x).length = 2 := fun _ _ => rfl
/-- the state of an object; where its lists lie -/
structure Sn where
  kind : Int
  num : Int
  qA : Option Addr
  qc : Nat
  q : List Int
  pA : Option Addr
  pc : Nat
  p : List Pr
def encSn (s : Sn) : List Value := [.int .i64 s.kind, .int .i64 s.num, .slice s.qA s.q.length s.qc, .slice s.pA s.p.length s.pc]
theorem enc_sn {l : List Sn} : ∀ x ∈ l, (encSn x).length = 4 := fun _ _ => rfl
structure SnOk (ro : Ro) (s : Sn) : Prop where
  q : Sl ro 1 encInt s.qA s.qc s.q
  p : Sl ro 2 encPr s.pA s.pc s.p
theorem SnOk.mono {ro ro' : Ro} {s : Sn} (h : SnOk ro s) (hle : ro.le ro') : SnOk ro' s := ⟨h.q.mono hle, h.p.mono hle⟩
def zeroSn : Sn := ⟨0, 0, none, 0, [], none, 0, []⟩
theorem sl_nil {α : Type} {ro : Ro} {k : Nat} {enc : α → List Value} : Sl ro k enc none 0 [] := ⟨by simp, by simp [maxLen], by simp, fun hn => absurd rfl hn⟩
theorem SnOk.bare {ro : Ro} (k n : Int) : SnOk ro ⟨k, n, none, 0, [], none, 0, []⟩ := ⟨sl_nil, sl_nil⟩
/-- states, in memory that stays -/
structure SSt (ro : Ro) (A : Option Addr) (cap : Nat) (l : List Sn) : Prop where
  sl : Sl ro 4 encSn A cap l
  ok : ∀ s ∈ l, SnOk ro s
theorem SSt.mono {ro ro' : Ro} {A : Option Addr} {cap : Nat} {l : List Sn} (h : SSt ro A cap l) (hle : ro.le ro') : SSt ro' A cap l := ⟨h.sl.mono hle, fun s hs => (h.ok s hs).mono hle⟩
theorem Sl.src {α : Type} {ro : Ro} {k : Nat} {enc : α → List Value} {A : Option Addr} {cap : Nat} {l : List α} {K : List Blk} (h : Sl ro k enc A cap l) (hk : 0 < k) : Src ro K k A l.length (l.flatMap enc) := by
  have hlen : ∀ (m : List α), (∀ x ∈ m, (enc x).length = k) → (m.flatMap enc).length = m.length * k := fun m hm => by
    induction m with
    | nil => simp
    | cons x m ih => rw [List.flatMap_cons, List.length_append, ih (fun y hy => hm y (by simp [hy])), hm x (by simp), List.length_cons, Nat.succ_mul, Nat.add_comm]
  refine ⟨hlen l h.2.2.1, fun hm => ?_⟩
  obtain ⟨b, off, rfl, hc⟩ := h.at_ hm
  refine ⟨b, off, rfl, fun j v hj => Cell.ofRo ?_⟩
  have hat : ∀ (m : List α) (j : Nat) (v : Value), (∀ x ∈ m, (enc x).length = k) → (m.flatMap enc)[j]? = some v → ∃ (x : α), m[j / k]? = some x ∧ (enc x)[j % k]? = some v := fun m => by
    induction m with
    | nil => intro j v _ h; simp at h
    | cons x m ih =>
      intro j v hm hj
      have hx := hm x (by simp)
      rw [List.flatMap_cons] at hj
      by_cases hjk : j < k
      · rw [List.getElem?_append_left (by omega)] at hj
        exact ⟨x, by rw [Nat.div_eq_of_lt hjk]; rfl, by rw [Nat.mod_eq_of_lt hjk]; exact hj⟩
      · rw [List.getElem?_append_right (by omega), hx] at hj
        obtain ⟨y, h1, h2⟩ := ih (j - k) v (fun y hy => hm y (by simp [hy])) hj
        refine ⟨y, ?_, ?_⟩
        · rw [Nat.div_eq_sub_div hk (by omega), List.getElem?_cons_succ]; exact h1
        · rw [Nat.mod_eq_sub_mod (by omega)]; exact h2
  obtain ⟨x, h1, h2⟩ := hat l j v h.2.2.1 hj
  have := hc (j / k) x h1 (j % k) v h2
  rw [Nat.add_assoc, Nat.div_add_mod'] at this
  exact this
/-! ### the library -/
theorem ite_pow : Tryz.prog.globalNamed "internal/strconv.uint64pow10" = some 16 := by kernel_rfl
/-- what the package variables hold -/
structure Glob (er : Nat → Addr) (ro : Ro) : Prop where
  err : ∀ g : Nat, g < 6 → g ≠ 1 → g ≠ 3 → ro.cell g 0 = some (.iface 242 (.pointer (some (er g))))
  obs : ∀ i : Nat, i < 4 → ∀ s, [[114, 101, 103, 105, 115, 116, 101, 114], [99, 111, 117, 110, 116, 101, 114], [113, 117, 101, 117, 101], [109, 97, 112]][i]? = some s → ro.cell 6 i = some (.string ⟨s.toArray⟩)
  tab : ∃ T s, ro.cells 16 = some (.cells (Lib.pow10Tab.map fun z => Value.int .u64 z).toArray T s)
theorem Glob.mono {er : Nat → Addr} {ro ro' : Ro} (h : Glob er ro) (hle : ro.le ro') : Glob er ro' :=
  ⟨fun g hg h1 h3 => hle.cell (h.err g hg h1 h3), fun i hi s hs => hle.cell (h.obs i hi s hs), by obtain ⟨T, s, h1⟩ := h.tab; exact ⟨T, s, hle.cells 16 _ h1⟩⟩
theorem grow_I {ro : Ro} {L : List (List Blk)} {w : World} (h : I ro L w) (k : Nat) (os : Array Obj) : I ro L (Sort.grow (w.drewN k) os) := by
  have hold : ∀ (b : Nat) (o : Obj), w.heap[b]? = some o → (Sort.grow (w.drewN k) os).heap[b]? = some o := fun b o hb => by
    show (w.heap ++ os)[b]? = some o
    rw [Array.getElem?_append_left (Array.getElem?_eq_some_iff.1 hb).1]; exact hb
  exact ⟨h.os, h.tape, h.output, Nat.le_trans h.size (by show w.heap.size ≤ (w.heap ++ os).size; simp), fun b o hc => hold b o (h.old b o hc), fun x hx => hold _ _ (h.own x hx), h.apart, h.nodup⟩
theorem below_I {ro : Ro} {L : List (List Blk)} {w w' : World} (h : I ro L w) (hb : Below w.heap.size w w') : I ro L w' := by
  have hold : ∀ b o, w.heap[b]? = some o → w'.heap[b]? = some o := fun b o hb' => by
    rw [hb.block b (Array.getElem?_eq_some_iff.1 hb').1]; exact hb'
  exact ⟨hb.os.trans h.os, hb.tape.trans h.tape, hb.output.trans h.output, Nat.le_trans h.size hb.size, fun b o hc => hold b o (h.old b o hc), fun x hx => hold _ _ (h.own x hx), h.apart, h.nodup⟩
def numT (n : Int) : ByteArray := ⟨(Lib.itoa n).toArray⟩
theorem Itoa_c (n : Int) (hn : I64 n) (er : Nat → Addr) (ro : Ro) (L : List (List Blk)) (hG : Glob er ro) : CT Tryz.prog 92 [.int .i64 n].toArray ro L (PQ (.string (numT n)) ro L) := fun w hi => by
  obtain ⟨T, s, hT⟩ := hG.tab
  have htab : Lib.TabIs Tryz.prog w "internal/strconv.uint64pow10" .u64 Lib.pow10Tab := by
    unfold Lib.TabIs World.var?
    rw [ite_pow, Option.bind_some, hi.old _ _ hT]
  refine (Any.strconv_Itoa Tryz.itoa n hn.1 hn.2 w htab).mono ?_
  rintro e w' ⟨rfl, k, os, rfl⟩
  exact ⟨_, ro, L, rfl, Ro.le.refl _, grow_I hi k os, rfl, rfl, rfl⟩
theorem Tryz.extra : Builder.Extra Tryz.prog Tryz.join_ren := {
  sizeBuilder := by kernel_rfl
  liesBuilder := by kernel_rfl
  t5 := Tryz.underlying5
  a5 := Tryz.isAgg5
  z5 := Tryz.sizeOf5
  v5 := Tryz.zeroValue5
  infoByte := by kernel_rfl
  cellsByte := by kernel_rfl
  sizeByte := by kernel_rfl
  neB5 := by decide }
def encW (s : ByteArray) : List Value := [.string s]
theorem enc_w {l : List ByteArray} : ∀ x ∈ l, (encW x).length = 1 := fun _ _ => rfl
def joinT (xs : List ByteArray) (sep : ByteArray) : ByteArray := ⟨(Lib.join (xs.map (·.data.toList)) sep.data.toList).toArray⟩
theorem Join_c (xs : List ByteArray) (sep : ByteArray) (A : Option Addr) (cap : Nat) (ro : Ro) (L : List (List Blk)) (hs : Sl ro 1 encW A cap xs) (hN : xs.length ≤ 140737488355328) (hlen : (Lib.join (xs.map (·.data.toList)) sep.data.toList).length ≤ 140737488355328) :
    CT Tryz.prog 71 [.slice A xs.length cap, .string sep].toArray ro L (PQ (.string (joinT xs sep)) ro L) := fun w hi => by
  by_cases h0 : xs.length = 0
  · obtain rfl := List.eq_nil_of_length_eq_zero h0
    refine (Any.strings_Join_none Tryz.join Tryz.extra A cap sep w).mono ?_
    rintro e w' ⟨rfl, rfl⟩
    exact ⟨_, ro, L, rfl, Ro.le.refl _, hi, rfl, rfl, rfl⟩
  · obtain ⟨b, off, rfl, hc⟩ := hs.at_ (i := 0) (by omega)
    have hcell : ∀ (j : Nat) (x : ByteArray), xs[j]? = some x → w.cell? ⟨b, off + j, none⟩ = some (.string x) := fun j x hx => by
      have := hc j x hx 0 _ rfl
      exact (Cell.ofRo (K := L.flatten) (by simpa using this)) w hi.j
    have hx0 : xs[0]? = some xs[0] := List.getElem?_eq_getElem (by omega)
    have hb : b < w.heap.size := by
      have := hc 0 _ hx0 0 _ rfl
      unfold Ro.cell at this
      split at this
      · rename_i c T s hcs
        exact (Array.getElem?_eq_some_iff.1 (hi.old _ _ hcs)).1
      · cases this
    refine (Any.strings_Join Tryz.join Tryz.extra b off cap xs sep w hcell hb hN hs.1 hlen).mono ?_
    rintro e w' ⟨rfl, hw⟩
    exact ⟨_, ro, L, rfl, Ro.le.refl _, below_I hi hw, rfl, rfl, rfl⟩

theorem Print_c (n : Int) (hn : I64 n) (er : Nat → Addr) (ro : Ro) (L : List (List Blk)) (hG : Glob er ro) : CT Tryz.prog 56 [.int .i64 n].toArray ro L (PQ (.string (numT n)) ro L) := by
  refine enter Tryz.func56 rfl Tryz.ntmps56 rfl ?_
  refine seq ?_
  refine region ?_
  refine op (y (x_assign rfl) rfl ?_)
  refine nil ?_
  refine n_then ?_
  refine seq ?_
  refine region ?_
  refine op (y (x_move rfl) rfl ?_)
  refine op (e_call rfl fn_92 rfl rfl (Itoa_c n hn er _ _ hG) fun v4 ro4 L4 hle4 hp4 => ?_)
  obtain ⟨rfl, rfl, rfl⟩ := hp4
  refine op (y (x_assign rfl) rfl ?_)
  refine nil ?_
  refine n_then ?_
  refine ret ?_
  exact done rfl (.tmp rfl (.nil)) (Ro.le.refl _) (L) (subF (by (repeat (first | exact List.Sublist.refl _ | apply List.Sublist.cons_cons | apply List.Sublist.cons)); done)) (⟨rfl, rfl, rfl⟩)

theorem JoinW_c (xs : List ByteArray) (A : Option Addr) (cap : Nat) (ro : Ro) (L : List (List Blk)) (hs : Sl ro 1 encW A cap xs) (hN : xs.length ≤ 140737488355328) (hlen : (Lib.join (xs.map (·.data.toList)) [32]).length ≤ 140737488355328) :
    CT Tryz.prog 57 [.slice A xs.length cap].toArray ro L (PQ (.string (joinT xs ⟨#[32]⟩)) ro L) := by
  refine enter Tryz.func57 rfl Tryz.ntmps57 rfl ?_
  refine seq ?_
  refine region ?_
  refine op (y (x_assign rfl) rfl ?_)
  refine nil ?_
  refine n_then ?_
  refine seq ?_
  refine region ?_
  refine op (y (x_move rfl) rfl ?_)
  refine op (e_call rfl fn_71 rfl rfl (Join_c xs ⟨#[32]⟩ A cap _ _ hs hN hlen) fun v4 ro4 L4 hle4 hp4 => ?_)
  obtain ⟨rfl, rfl, rfl⟩ := hp4
  refine op (y (x_assign rfl) rfl ?_)
  refine nil ?_
  refine n_then ?_
  refine ret ?_
  exact done rfl (.tmp rfl (.nil)) (Ro.le.refl _) (L) (subF (by (repeat (first | exact List.Sublist.refl _ | apply List.Sublist.cons_cons | apply List.Sublist.cons)); done)) (⟨rfl, rfl, rfl⟩)

end Go.Proofs.YtgkngljojfkkfaaGreatDoor
