/- The walks of the keys of stores, of the loop over a store; an operation on a store. -/
import Derived.Test.YtgkngljojfkkfaaGreatDoorW8
import Derived.Test.YtgkngljojfkkfaaGreatDoorU30
namespace Go.Proofs.YtgkngljojfkkfaaGreatDoor
open Go Go.U
set_option maxRecDepth 20000
set_option linter.unusedSimpArgs false
set_option linter.unusedVariables false

def PEach (l : List Sn) (A : Option Addr) (cap : Nat) (L : List (List Blk)) : Value → Ro → List (List Blk) → Prop := fun v ro' L' => ∃ b : Nat, v = .func (.func 75) #[] [.pointer (some ⟨b, 0, none⟩)].toArray ∧ ro'.cell b 0 = some (.slice A l.length cap) ∧ L = L'
theorem cells1 {ro : Ro} {b : Nat} {u : Value} (h0 : ro.cell b 0 = some u) : ∀ (j : Nat) (x : Value), [u][j]? = some x → ro.cell b (0 + j) = some x := by
  intro j x hx
  match j with
  | 0 => simp at hx; subst hx; exact h0
  | j + 1 => simp at hx

theorem Each_c (l : List Sn) (A : Option Addr) (cap : Nat) (ro : Ro) (L : List (List Blk)) :
    CT Tryz.prog 44 [.agg [.slice A l.length cap].toArray].toArray ro L (PEach l A cap L) := by
  refine enter Tryz.func44 rfl Tryz.ntmps44 rfl ?_
  refine seq ?_
  refine region ?_
  refine op (e_box rfl rfl rfl fun b1 => ?_)
  refine op (y (x_assign rfl) rfl ?_)
  refine nil ?_
  refine n_then ?_
  refine seq ?_
  refine region ?_
  refine op (y (x_makeFunc rfl rfl) rfl ?_)
  refine op (y (x_assign rfl) rfl ?_)
  refine nil ?_
  refine n_then ?_
  refine ret ?_
  refine ufreeze fun rz1 hz1 hzR1 => ?_
  have hb0 : rz1.cell b1 0 = some (.slice A l.length cap) := by have := hzR1 _ (List.mem_singleton.2 rfl); simp only at this; unfold Ro.cell; rw [this]; rfl
  exact done rfl (.tmp rfl (.nil)) (hz1) (L) (⟨_, .refl _, .refl _⟩) (⟨b1, rfl, hb0, rfl⟩)

theorem Each1_c (l : List Sn) (A : Option Addr) (cap : Nat) (b lq : Nat) (St : Nat → List (List Blk) → Prop) (Sx : List (List Blk) → Prop) (ro : Ro) (L : List (List Blk)) (hb0 : ro.cell b 0 = some (.slice A l.length cap)) (hl : Sl ro 4 encSn A cap l) (hn : l.length ≤ 1000000) (h0 : St 0 L)
    (hy : ∀ (k : Nat) (hk : k < l.length) (Lx : List (List Blk)) (ro' : Ro), ro.le ro' → St k Lx → YT Tryz.prog lq [.int .i64 (k : Nat), .agg (encSn (l[k])).toArray] ro' Lx (fun v _ L'' => (v = .bool true ∧ St (k + 1) L'') ∨ (v = .bool false ∧ Sx L''))) :
    CT Tryz.prog 75 ([Value.func (.yield lq) #[] #[]] ++ [Value.pointer (some ⟨b, 0, none⟩)]).toArray ro L (fun _ _ L' => St l.length L' ∨ Sx L') := by
  have hcap := cap_ge hl
  refine enter Tryz.func75 rfl Tryz.ntmps75 rfl ?_
  refine seq ?_
  refine region ?_
  refine op (y (x_fieldAddr fo_66_0 rfl) rfl ?_)
  refine op (y (x_loadN ag_64 rfl rfl (CellsAt.ofRo (cells1 hb0))) rfl ?_)
  refine op (e_call rfl fn_76 rfl rfl (PO.frozen enc_sn (AllS_o l A cap _ _ hl hn)) fun v7 ro7 L7 hle7 hp7 => ?_)
  obtain ⟨A7, c7, rfl, hS7, rfl⟩ := hp7
  refine op (y (x_lenSl sz_62 rfl) rfl ?_)
  refine op (y (x_move rfl) rfl ?_)
  refine nil ?_
  refine n_then ?_
  refine block ?_
  refine loop (fun m F ro' L' => ∃ (k : Nat) (Lx : List (List Blk)), (m = l.length - k) ∧ (F = [(0, .func (.yield lq) #[] #[]), (7, .slice A7 l.length c7), (8, .int .i64 (l.length : Nat)), (9, .int .i64 (k : Nat))]) ∧ (Lx = L') ∧ (k ≤ l.length) ∧ (ro.le ro') ∧ (Sl ro' 4 encSn A7 c7 l) ∧ (St k Lx)) (l.length - 0) [(0, .func (.yield lq) #[] #[]), (7, .slice A7 l.length c7), (8, .int .i64 (l.length : Nat)), (9, .int .i64 (0 : Nat))] ⟨rfl, rfl, rfl, rfl, trivial⟩ ⟨0, L, rfl, rfl, rfl, by omega, hle7, hS7, h0⟩ ?_
  rintro m F ro' L' ⟨k, Lx, rfl, rfl, rfl, hk, hro, hS7, hst⟩
  refine seq ?_
  refine region ?_
  refine op (y (x_lss rfl rfl) rfl ?_)
  refine nil ?_
  refine n_then ?_
  refine seq ?_
  refine cond rfl (fun h1 => ?_) (fun h1 => ?_)
  · try simp only [decide_eq_true_eq, decide_eq_false_iff_not, beq_iff_eq, bne_iff_ne, ne_eq, beq_eq_false_iff_ne, bne_eq_false_iff_eq, Bool.not_eq_true', Bool.not_eq_false', Bool.not_eq_true, Bool.not_eq_false, Decidable.not_not, Int.not_lt, Int.not_le] at h1
    refine skip ?_
    refine n_then ?_
    refine seq ?_
    refine block ?_
    refine seq ?_
    obtain ⟨bbx, offx, rfl, hcx⟩ := hS7.at_ (i := k) (by omega)
    have hx := List.getElem?_eq_getElem (show k < l.length from by omega)
    refine region ?_
    refine op (y (x_move rfl) rfl ?_)
    refine op (y (x_indexNat sz_62 rfl rfl (by omega)) rfl ?_)
    refine op (y (x_loadN ag_29 rfl rfl (CellsAt.ofRo (fun j v hv => hcx k _ hx j v hv))) rfl ?_)
    refine op (e_alloc rfl zc_29 rfl fun b4 => ?_)
    refine op (y (x_assign rfl) rfl ?_)
    first | refine op (e_store 0 rfl rfl ts_29 rfl rfl rfl rfl rfl rfl ?_) | refine op (e_store 1 rfl rfl ts_29 rfl rfl rfl rfl rfl rfl ?_) | refine op (e_store 2 rfl rfl ts_29 rfl rfl rfl rfl rfl rfl ?_) | refine op (e_store 3 rfl rfl ts_29 rfl rfl rfl rfl rfl rfl ?_) | refine op (e_store 4 rfl rfl ts_29 rfl rfl rfl rfl rfl rfl ?_) | refine op (e_store 5 rfl rfl ts_29 rfl rfl rfl rfl rfl rfl ?_) | refine op (e_store 6 rfl rfl ts_29 rfl rfl rfl rfl rfl rfl ?_) | refine op (e_store 7 rfl rfl ts_29 rfl rfl rfl rfl rfl rfl ?_) | refine op (e_store 8 rfl rfl ts_29 rfl rfl rfl rfl rfl rfl ?_) | refine op (e_store 9 rfl rfl ts_29 rfl rfl rfl rfl rfl rfl ?_)
    refine nil ?_
    refine n_then ?_
    refine seq ?_
    refine regionY ?_
    refine opY rfl (y (x_move rfl) rfl ?_)
    refine opY rfl (y (x_move rfl) rfl ?_)
    refine opY rfl (y ((by first | exact x_loadOwn 0 _ ag_29 rfl rfl rfl rfl | exact x_loadOwn 1 _ ag_29 rfl rfl rfl rfl | exact x_loadOwn 2 _ ag_29 rfl rfl rfl rfl | exact x_loadOwn 3 _ ag_29 rfl rfl rfl rfl | exact x_loadOwn 4 _ ag_29 rfl rfl rfl rfl | exact x_loadOwn 5 _ ag_29 rfl rfl rfl rfl | exact x_loadOwn 6 _ ag_29 rfl rfl rfl rfl | exact x_loadOwn 7 _ ag_29 rfl rfl rfl rfl | exact x_loadOwn 8 _ ag_29 rfl rfl rfl rfl | exact x_loadOwn 9 _ ag_29 rfl rfl rfl rfl | exact x_loadOwn 10 _ ag_29 rfl rfl rfl rfl | exact x_loadOwn 11 _ ag_29 rfl rfl rfl rfl)) rfl ?_)
    refine drop0 ?_
    refine yieldY rfl rfl rfl (hy k (by omega) _ _ hro hst) fun v17 ro17 L17 hle17 hp17 => ?_
    obtain ⟨bv, rfl, hcase⟩ : ∃ bv, v17 = .bool bv ∧ ((bv = true ∧ St (k + 1) L17) ∨ (bv = false ∧ Sx L17)) := by rcases hp17 with ⟨rfl, h⟩ | ⟨rfl, h⟩; exact ⟨true, rfl, .inl ⟨rfl, h⟩⟩; exact ⟨false, rfl, .inr ⟨rfl, h⟩⟩
    refine opY rfl (y (x_not rfl) rfl ?_)
    refine nilY ?_
    refine n_then ?_
    refine cond rfl (fun h3 => ?_) (fun h3 => ?_)
    · try simp only [decide_eq_true_eq, decide_eq_false_iff_not, beq_iff_eq, bne_iff_ne, ne_eq, beq_eq_false_iff_ne, bne_eq_false_iff_eq, Bool.not_eq_true', Bool.not_eq_false', Bool.not_eq_true, Bool.not_eq_false, Decidable.not_not, Int.not_lt, Int.not_le] at h3
      refine ret ?_
      refine r_in ?_
      refine r_then ?_
      refine r_then ?_
      refine r_in ?_
      exact done rfl (.nil) (hro.trans hle17) (_) (⟨_, .refl _, .refl _⟩) ((by rcases hcase with ⟨h1, _⟩ | ⟨_, h1⟩; rw [h1] at h3; cases h3; exact .inr h1))
    · try simp only [decide_eq_true_eq, decide_eq_false_iff_not, beq_iff_eq, bne_iff_ne, ne_eq, beq_eq_false_iff_ne, bne_eq_false_iff_eq, Bool.not_eq_true', Bool.not_eq_false', Bool.not_eq_true, Bool.not_eq_false, Decidable.not_not, Int.not_lt, Int.not_le] at h3
      refine skip ?_
      refine n_in ?_
      refine n_then ?_
      refine region ?_
      refine op (y (x_add rfl rfl _ (wr (by omega) (by omega))) rfl ?_)
      refine op (y (x_move rfl) rfl ?_)
      refine nil ?_
      have hst2 : St (k + 1) L17 := by rcases hcase with ⟨_, h1⟩ | ⟨h1, _⟩; exact h1; rw [h1] at h3; cases h3
      exact round (l.length - (k + 1)) [(0, .func (.yield lq) #[] #[]), (7, .slice _ l.length c7), (8, .int .i64 (l.length : Nat)), (9, .int .i64 ((k + 1) : Nat))] (by omega) ⟨rfl, rfl, rfl, rfl, trivial⟩ ⟨k + 1, _, rfl, rfl, rfl, by omega, hro.trans hle17, hS7.mono hle17, hst2⟩
  · try simp only [decide_eq_true_eq, decide_eq_false_iff_not, beq_iff_eq, bne_iff_ne, ne_eq, beq_eq_false_iff_ne, bne_eq_false_iff_eq, Bool.not_eq_true', Bool.not_eq_false', Bool.not_eq_true, Bool.not_eq_false, Decidable.not_not, Int.not_lt, Int.not_le] at h1
    refine exit ?_
    refine e_then ?_
    refine e_then ?_
    refine e_in ?_
    obtain rfl : k = l.length := by omega
    exact done' rfl (.nil) (hro) (_) (⟨_, .refl _, .refl _⟩) (.inl hst)

def kTs (l : List Sn) : List ByteArray := l.map fun s => keyT s.v
/-- the key of a store -/
def storeT (l : List Sn) : ByteArray := joinT (kTs l) ⟨#[59, 32]⟩
theorem kTs_size {l : List Sn} (h : ∀ s ∈ l, SvB s.v) : ∀ x ∈ kTs l, x.data.toList.length ≤ 5000000 := fun x hx => by
  obtain ⟨s, hs, rfl⟩ := List.mem_map.1 hx
  exact keyT_size (h s hs)

theorem SKey_c (l : List Sn) (A : Option Addr) (cap : Nat) (er : Nat → Addr) (ro : Ro) (L : List (List Blk)) (hG : Glob er ro) (hl : SSt ro A cap l) (hB : ∀ s ∈ l, SvB s.v) (hn : l.length ≤ 1000) :
    CT Tryz.prog 40 [.agg [.slice A l.length cap].toArray].toArray ro L (PV (.string (storeT l)) L) := by
  refine enter Tryz.func40 rfl Tryz.ntmps40 rfl ?_
  refine seq ?_
  refine region ?_
  refine op (e_box rfl rfl rfl fun b1 => ?_)
  refine op (y (x_assign rfl) rfl ?_)
  refine nil ?_
  refine n_then ?_
  refine seq ?_
  refine region ?_
  refine op (e_alloc rfl zc_54 rfl fun b3 => ?_)
  refine nil ?_
  refine n_then ?_
  refine seq ?_
  refine seq ?_
  refine region ?_
  refine op (y ((by first | exact x_loadOwn 0 _ ag_66 rfl rfl rfl rfl | exact x_loadOwn 1 _ ag_66 rfl rfl rfl rfl | exact x_loadOwn 2 _ ag_66 rfl rfl rfl rfl | exact x_loadOwn 3 _ ag_66 rfl rfl rfl rfl | exact x_loadOwn 4 _ ag_66 rfl rfl rfl rfl | exact x_loadOwn 5 _ ag_66 rfl rfl rfl rfl | exact x_loadOwn 6 _ ag_66 rfl rfl rfl rfl | exact x_loadOwn 7 _ ag_66 rfl rfl rfl rfl | exact x_loadOwn 8 _ ag_66 rfl rfl rfl rfl | exact x_loadOwn 9 _ ag_66 rfl rfl rfl rfl | exact x_loadOwn 10 _ ag_66 rfl rfl rfl rfl | exact x_loadOwn 11 _ ag_66 rfl rfl rfl rfl)) rfl ?_)
  refine op (e_call rfl fn_44 rfl rfl (Each_c l A cap _ _) fun v7 ro7 L7 hle7 hp7 => ?_)
  obtain ⟨b, rfl, hb0, rfl⟩ := hp7
  refine emp ?_
  refine nil ?_
  refine n_then ?_
  refine block ?_
  refine range2 (p1 := 8) (p2 := 9) (caps := [.pointer (some ⟨b, 0, none⟩)]) rfl fn_75 (fun _ L2 => ∃ (A3 : Option Addr) (c3 : Nat) (R3 : List Blk), OwnS 9 1 A3 l.length c3 ((kTs (l.take l.length)).flatMap encW) R3 ∧ L2 = R3 :: [(b3, Obj.cells [Value.slice A3 l.length c3].toArray 54 (0, 0))] :: [(b1, Obj.cells [Value.slice A l.length cap].toArray 66 (0, 0))] :: L) (fun _ _ _ => False) (fun fn tm lq D rc hrc hfa => ?_) (fun D ro5 L5 hle5 hd5 => ?_) (fun c D ro5 L5 hle5 hs5 => hs5.elim)
  · skip
    refine CT.mono (Each1_c l A cap b lq (fun k Lx => ∃ L2, Lx = [(lq, Obj.loop (rc .ready none))] :: [(D, Obj.deferred (some []))] :: L2 ∧ ∃ (A3 : Option Addr) (c3 : Nat) (R3 : List Blk), OwnS 9 1 A3 k c3 ((kTs (l.take k)).flatMap encW) R3 ∧ L2 = R3 :: [(b3, Obj.cells [Value.slice A3 k c3].toArray 54 (0, 0))] :: [(b1, Obj.cells [Value.slice A l.length cap].toArray 66 (0, 0))] :: L) (fun _ => False) _ _ hb0 (hl.sl.mono hle7) (by omega) ⟨_, rfl, none, 0, [], OwnS.none_ 9 1, rfl⟩ (fun i hi Lx ro5 hle5 hst => ?_)) (fun v ro6 L6 _ hp => by
      rcases hp with ⟨L2, rfl, h2⟩ | h2
      · exact .inl ⟨L2, rfl, h2⟩
      · exact h2.elim)
    obtain ⟨L2, rfl, A3, c3, R3, hO, rfl⟩ := hst
    refine YT.of2 hrc hfa rfl rfl (by simp) ?_
    have hx := List.getElem?_eq_getElem hi
    have hm := List.getElem_mem hi
    refine regionR (by kernel_rfl) (fun _ _ h => h) ?_
    refine op (e_alloc rfl zc_29 rfl fun b5 => ?_)
    first | refine op (e_store 0 rfl rfl ts_29 rfl rfl rfl rfl rfl rfl ?_) | refine op (e_store 1 rfl rfl ts_29 rfl rfl rfl rfl rfl rfl ?_) | refine op (e_store 2 rfl rfl ts_29 rfl rfl rfl rfl rfl rfl ?_) | refine op (e_store 3 rfl rfl ts_29 rfl rfl rfl rfl rfl rfl ?_) | refine op (e_store 4 rfl rfl ts_29 rfl rfl rfl rfl rfl rfl ?_) | refine op (e_store 5 rfl rfl ts_29 rfl rfl rfl rfl rfl rfl ?_) | refine op (e_store 6 rfl rfl ts_29 rfl rfl rfl rfl rfl rfl ?_) | refine op (e_store 7 rfl rfl ts_29 rfl rfl rfl rfl rfl rfl ?_) | refine op (e_store 8 rfl rfl ts_29 rfl rfl rfl rfl rfl rfl ?_) | refine op (e_store 9 rfl rfl ts_29 rfl rfl rfl rfl rfl rfl ?_)
    refine nil ?_
    refine n_then ?_
    refine begin_ hrc 1 rfl rfl ?_
    refine blockR ?_
    refine drawR ([(b5, Obj.cells (encSn (l[i])).toArray 29 (0, 0))]) (by kernel_rfl) (by kernel_rfl) (fun _ _ h => h) ?_
    refine d_take 1 rfl (by kernel_rfl) (by kernel_rfl) (by kernel_rfl) (fun _ _ _ h => h) rfl (.inl rfl) (x_loadN ag_29 rfl rfl ((fun j v hv => Cell.blk (List.mem_singleton.2 rfl) (by simpa using hv) : CellsAt _ _ b5 0 (encSn (l[i]))))) (fun w hi => J.of_le (by first | exact Ro.le.refl _ | exact hle12) (fun x hx => by first | exact List.mem_append_left _ hx | exact List.mem_append_right _ (List.mem_append_left _ hx)) hi) ?_
    refine d_two 0 2 (by kernel_rfl) ?_ ?_
    · skip
      refine d_the rfl (.inl rfl) (y (x_load1 ag_54 rfl (by first | assumption | exact Cell.own 0 rfl rfl | exact Cell.own 1 rfl rfl | exact Cell.own 2 rfl rfl | exact Cell.own 3 rfl rfl | exact Cell.own 4 rfl rfl | exact Cell.own 5 rfl rfl | exact Cell.own 6 rfl rfl | exact Cell.own 7 rfl rfl | exact Cell.own 8 rfl rfl | exact Cell.own 9 rfl rfl | exact Cell.ofRo (by assumption))) rfl ?_)
      refine d_next (fun w hi => J.of_le (by first | exact Ro.le.refl _ | exact hle12) (fun x hx => by first | exact List.mem_append_left _ hx | exact List.mem_append_right _ (List.mem_append_left _ hx)) hi) ?_
      refine d_one 2 rfl (by kernel_rfl) (.inl rfl) (e_call rfl fn_17 rfl rfl (Key_c (l[i]) er _ _ (hG.mono (hle7.trans hle5)) ((hl.ok _ hm).mono (hle7.trans hle5)) (hB _ hm)) fun v12 ro12 L12 hle12 hp12 => ?_)
      obtain ⟨rfl, rfl⟩ := hp12
      refine d_next (fun w hi => J.of_le (by first | exact Ro.le.refl _ | exact hle12) (fun x hx => by first | exact List.mem_append_left _ hx | exact List.mem_append_right _ (List.mem_append_left _ hx)) hi) ?_
      refine d_one 3 rfl (by kernel_rfl) (.inl rfl) (e_slice1 rfl Tryz.underlying54 ti_9 rfl rfl (by decide) (by decide) rfl rfl rfl fun b13 => ?_)
      refine d_next (fun w hi => J.of_le (by first | exact Ro.le.refl _ | exact hle12) (fun x hx => by first | exact List.mem_append_left _ hx | exact List.mem_append_right _ (List.mem_append_left _ hx)) hi) ?_
      refine d_one 4 rfl (by kernel_rfl) (.inl rfl) (e_append1 3 rfl st_54 rfl rfl rfl hO rfl rfl (by omega) (by omega) (fun _ => rfl) fun A14 cap14 R14 hO14 => ?_)
      refine d_next (fun w hi => J.of_le (by first | exact Ro.le.refl _ | exact hle12) (fun x hx => by first | exact List.mem_append_left _ hx | exact List.mem_append_right _ (List.mem_append_left _ hx)) hi) ?_
      first | refine d_one 5 rfl (by kernel_rfl) (.inl rfl) (e_store 0 rfl rfl ts_54 rfl rfl rfl rfl rfl rfl ?_) | refine d_one 5 rfl (by kernel_rfl) (.inl rfl) (e_store 1 rfl rfl ts_54 rfl rfl rfl rfl rfl rfl ?_) | refine d_one 5 rfl (by kernel_rfl) (.inl rfl) (e_store 2 rfl rfl ts_54 rfl rfl rfl rfl rfl rfl ?_) | refine d_one 5 rfl (by kernel_rfl) (.inl rfl) (e_store 3 rfl rfl ts_54 rfl rfl rfl rfl rfl rfl ?_) | refine d_one 5 rfl (by kernel_rfl) (.inl rfl) (e_store 4 rfl rfl ts_54 rfl rfl rfl rfl rfl rfl ?_) | refine d_one 5 rfl (by kernel_rfl) (.inl rfl) (e_store 5 rfl rfl ts_54 rfl rfl rfl rfl rfl rfl ?_) | refine d_one 5 rfl (by kernel_rfl) (.inl rfl) (e_store 6 rfl rfl ts_54 rfl rfl rfl rfl rfl rfl ?_) | refine d_one 5 rfl (by kernel_rfl) (.inl rfl) (e_store 7 rfl rfl ts_54 rfl rfl rfl rfl rfl rfl ?_) | refine d_one 5 rfl (by kernel_rfl) (.inl rfl) (e_store 8 rfl rfl ts_54 rfl rfl rfl rfl rfl rfl ?_) | refine d_one 5 rfl (by kernel_rfl) (.inl rfl) (e_store 9 rfl rfl ts_54 rfl rfl rfl rfl rfl rfl ?_)
      refine d_next (fun w hi => J.of_le (by first | exact Ro.le.refl _ | exact hle12) (fun x hx => by first | exact List.mem_append_left _ hx | exact List.mem_append_right _ (List.mem_append_left _ hx)) hi) ?_
      refine d_end (by kernel_rfl) ?_
      refine n_in ?_
      refine rend_n hrc 1 rfl rfl hle12 (L2 := [(lq, Obj.loop (rc .ready none))] :: [(D, Obj.deferred (some []))] :: R14 :: [(b3, Obj.cells [Value.slice A14 (i + 1) cap14].toArray 54 (0, 0))] :: [(b1, Obj.cells [Value.slice A l.length cap].toArray 66 (0, 0))] :: L) (subF (by (repeat (first | exact List.Sublist.refl _ | apply List.Sublist.cons_cons | apply List.Sublist.cons)); done)) (.inl ⟨rfl, _, rfl, A14, cap14, R14, by rw [take_snoc' hx]; unfold kTs at hO14 ⊢; rw [List.map_append]; exact hO14.snoc (enc := encW), rfl⟩)
    · skip
      refine d_the rfl (.inl rfl) (e_call rfl fn_17 rfl rfl (Key_c (l[i]) er _ _ (hG.mono (hle7.trans hle5)) ((hl.ok _ hm).mono (hle7.trans hle5)) (hB _ hm)) fun v12 ro12 L12 hle12 hp12 => ?_)
      obtain ⟨rfl, rfl⟩ := hp12
      refine d_next (fun w hi => J.of_le (by first | exact Ro.le.refl _ | exact hle12) (fun x hx => by first | exact List.mem_append_left _ hx | exact List.mem_append_right _ (List.mem_append_left _ hx)) hi) ?_
      refine d_two 0 3 (by kernel_rfl) ?_ ?_
      · skip
        refine d_the rfl (.inl rfl) (y (x_load1 ag_54 rfl (by first | assumption | exact Cell.own 0 rfl rfl | exact Cell.own 1 rfl rfl | exact Cell.own 2 rfl rfl | exact Cell.own 3 rfl rfl | exact Cell.own 4 rfl rfl | exact Cell.own 5 rfl rfl | exact Cell.own 6 rfl rfl | exact Cell.own 7 rfl rfl | exact Cell.own 8 rfl rfl | exact Cell.own 9 rfl rfl | exact Cell.ofRo (by assumption))) rfl ?_)
        refine d_next (fun w hi => J.of_le (by first | exact Ro.le.refl _ | exact hle12) (fun x hx => by first | exact List.mem_append_left _ hx | exact List.mem_append_right _ (List.mem_append_left _ hx)) hi) ?_
        refine d_one 3 rfl (by kernel_rfl) (.inl rfl) (e_slice1 rfl Tryz.underlying54 ti_9 rfl rfl (by decide) (by decide) rfl rfl rfl fun b13 => ?_)
        refine d_next (fun w hi => J.of_le (by first | exact Ro.le.refl _ | exact hle12) (fun x hx => by first | exact List.mem_append_left _ hx | exact List.mem_append_right _ (List.mem_append_left _ hx)) hi) ?_
        refine d_one 4 rfl (by kernel_rfl) (.inl rfl) (e_append1 3 rfl st_54 rfl rfl rfl hO rfl rfl (by omega) (by omega) (fun _ => rfl) fun A14 cap14 R14 hO14 => ?_)
        refine d_next (fun w hi => J.of_le (by first | exact Ro.le.refl _ | exact hle12) (fun x hx => by first | exact List.mem_append_left _ hx | exact List.mem_append_right _ (List.mem_append_left _ hx)) hi) ?_
        first | refine d_one 5 rfl (by kernel_rfl) (.inl rfl) (e_store 0 rfl rfl ts_54 rfl rfl rfl rfl rfl rfl ?_) | refine d_one 5 rfl (by kernel_rfl) (.inl rfl) (e_store 1 rfl rfl ts_54 rfl rfl rfl rfl rfl rfl ?_) | refine d_one 5 rfl (by kernel_rfl) (.inl rfl) (e_store 2 rfl rfl ts_54 rfl rfl rfl rfl rfl rfl ?_) | refine d_one 5 rfl (by kernel_rfl) (.inl rfl) (e_store 3 rfl rfl ts_54 rfl rfl rfl rfl rfl rfl ?_) | refine d_one 5 rfl (by kernel_rfl) (.inl rfl) (e_store 4 rfl rfl ts_54 rfl rfl rfl rfl rfl rfl ?_) | refine d_one 5 rfl (by kernel_rfl) (.inl rfl) (e_store 5 rfl rfl ts_54 rfl rfl rfl rfl rfl rfl ?_) | refine d_one 5 rfl (by kernel_rfl) (.inl rfl) (e_store 6 rfl rfl ts_54 rfl rfl rfl rfl rfl rfl ?_) | refine d_one 5 rfl (by kernel_rfl) (.inl rfl) (e_store 7 rfl rfl ts_54 rfl rfl rfl rfl rfl rfl ?_) | refine d_one 5 rfl (by kernel_rfl) (.inl rfl) (e_store 8 rfl rfl ts_54 rfl rfl rfl rfl rfl rfl ?_) | refine d_one 5 rfl (by kernel_rfl) (.inl rfl) (e_store 9 rfl rfl ts_54 rfl rfl rfl rfl rfl rfl ?_)
        refine d_next (fun w hi => J.of_le (by first | exact Ro.le.refl _ | exact hle12) (fun x hx => by first | exact List.mem_append_left _ hx | exact List.mem_append_right _ (List.mem_append_left _ hx)) hi) ?_
        refine d_end (by kernel_rfl) ?_
        refine n_in ?_
        refine rend_n hrc 1 rfl rfl hle12 (L2 := [(lq, Obj.loop (rc .ready none))] :: [(D, Obj.deferred (some []))] :: R14 :: [(b3, Obj.cells [Value.slice A14 (i + 1) cap14].toArray 54 (0, 0))] :: [(b1, Obj.cells [Value.slice A l.length cap].toArray 66 (0, 0))] :: L) (subF (by (repeat (first | exact List.Sublist.refl _ | apply List.Sublist.cons_cons | apply List.Sublist.cons)); done)) (.inl ⟨rfl, _, rfl, A14, cap14, R14, by rw [take_snoc' hx]; unfold kTs at hO14 ⊢; rw [List.map_append]; exact hO14.snoc (enc := encW), rfl⟩)
      · skip
        refine d_the rfl (.inl rfl) (e_slice1 rfl Tryz.underlying54 ti_9 rfl rfl (by decide) (by decide) rfl rfl rfl fun b13 => ?_)
        refine d_next (fun w hi => J.of_le (by first | exact Ro.le.refl _ | exact hle12) (fun x hx => by first | exact List.mem_append_left _ hx | exact List.mem_append_right _ (List.mem_append_left _ hx)) hi) ?_
        refine d_one 0 rfl (by kernel_rfl) (.inl rfl) (y (x_load1 ag_54 rfl (by first | assumption | exact Cell.own 0 rfl rfl | exact Cell.own 1 rfl rfl | exact Cell.own 2 rfl rfl | exact Cell.own 3 rfl rfl | exact Cell.own 4 rfl rfl | exact Cell.own 5 rfl rfl | exact Cell.own 6 rfl rfl | exact Cell.own 7 rfl rfl | exact Cell.own 8 rfl rfl | exact Cell.own 9 rfl rfl | exact Cell.ofRo (by assumption))) rfl ?_)
        refine d_next (fun w hi => J.of_le (by first | exact Ro.le.refl _ | exact hle12) (fun x hx => by first | exact List.mem_append_left _ hx | exact List.mem_append_right _ (List.mem_append_left _ hx)) hi) ?_
        refine d_one 4 rfl (by kernel_rfl) (.inl rfl) (e_append1 3 rfl st_54 rfl rfl rfl hO rfl rfl (by omega) (by omega) (fun _ => rfl) fun A14 cap14 R14 hO14 => ?_)
        refine d_next (fun w hi => J.of_le (by first | exact Ro.le.refl _ | exact hle12) (fun x hx => by first | exact List.mem_append_left _ hx | exact List.mem_append_right _ (List.mem_append_left _ hx)) hi) ?_
        first | refine d_one 5 rfl (by kernel_rfl) (.inl rfl) (e_store 0 rfl rfl ts_54 rfl rfl rfl rfl rfl rfl ?_) | refine d_one 5 rfl (by kernel_rfl) (.inl rfl) (e_store 1 rfl rfl ts_54 rfl rfl rfl rfl rfl rfl ?_) | refine d_one 5 rfl (by kernel_rfl) (.inl rfl) (e_store 2 rfl rfl ts_54 rfl rfl rfl rfl rfl rfl ?_) | refine d_one 5 rfl (by kernel_rfl) (.inl rfl) (e_store 3 rfl rfl ts_54 rfl rfl rfl rfl rfl rfl ?_) | refine d_one 5 rfl (by kernel_rfl) (.inl rfl) (e_store 4 rfl rfl ts_54 rfl rfl rfl rfl rfl rfl ?_) | refine d_one 5 rfl (by kernel_rfl) (.inl rfl) (e_store 5 rfl rfl ts_54 rfl rfl rfl rfl rfl rfl ?_) | refine d_one 5 rfl (by kernel_rfl) (.inl rfl) (e_store 6 rfl rfl ts_54 rfl rfl rfl rfl rfl rfl ?_) | refine d_one 5 rfl (by kernel_rfl) (.inl rfl) (e_store 7 rfl rfl ts_54 rfl rfl rfl rfl rfl rfl ?_) | refine d_one 5 rfl (by kernel_rfl) (.inl rfl) (e_store 8 rfl rfl ts_54 rfl rfl rfl rfl rfl rfl ?_) | refine d_one 5 rfl (by kernel_rfl) (.inl rfl) (e_store 9 rfl rfl ts_54 rfl rfl rfl rfl rfl rfl ?_)
        refine d_next (fun w hi => J.of_le (by first | exact Ro.le.refl _ | exact hle12) (fun x hx => by first | exact List.mem_append_left _ hx | exact List.mem_append_right _ (List.mem_append_left _ hx)) hi) ?_
        refine d_end (by kernel_rfl) ?_
        refine n_in ?_
        refine rend_n hrc 1 rfl rfl hle12 (L2 := [(lq, Obj.loop (rc .ready none))] :: [(D, Obj.deferred (some []))] :: R14 :: [(b3, Obj.cells [Value.slice A14 (i + 1) cap14].toArray 54 (0, 0))] :: [(b1, Obj.cells [Value.slice A l.length cap].toArray 66 (0, 0))] :: L) (subF (by (repeat (first | exact List.Sublist.refl _ | apply List.Sublist.cons_cons | apply List.Sublist.cons)); done)) (.inl ⟨rfl, _, rfl, A14, cap14, R14, by rw [take_snoc' hx]; unfold kTs at hO14 ⊢; rw [List.map_append]; exact hO14.snoc (enc := encW), rfl⟩)
  · skip
    obtain ⟨A3, c3, R3, hO, rfl⟩ := hd5
    rw [List.take_length] at hO
    have hkl : (kTs l).length = l.length := by simp [kTs]
    refine swap0 (R := [(D, Obj.deferred (some []))]) (S := R3) ?_
    refine ufreeze fun rz hz hR => ?_
    have hS := (hO.cast hkl.symm rfl).sl enc_w hR
    have hle := join_le (sep := ⟨#[59, 32]⟩) (kTs_size hB)
    refine n_in ?_
    refine n_then ?_
    refine seq ?_
    refine region ?_
    refine op (y (x_load1 ag_54 rfl (by first | assumption | exact Cell.own 0 rfl rfl | exact Cell.own 1 rfl rfl | exact Cell.own 2 rfl rfl | exact Cell.own 3 rfl rfl | exact Cell.own 4 rfl rfl | exact Cell.own 5 rfl rfl | exact Cell.own 6 rfl rfl | exact Cell.own 7 rfl rfl | exact Cell.own 8 rfl rfl | exact Cell.own 9 rfl rfl | exact Cell.ofRo (by assumption))) rfl ?_)
    refine said 15 (.slice A3 (kTs l).length c3) rfl (by rw [hkl]; rfl) ?_
    refine op (e_call rfl fn_71 rfl rfl (Join_c (kTs l) ⟨#[59, 32]⟩ A3 c3 _ _ hS (by omega) (by rw [hkl] at hle; simp at hle ⊢; omega)) fun v16 ro16 L16 hle16 hp16 => ?_)
    obtain ⟨rfl, rfl, rfl⟩ := hp16
    refine op (y (x_assign rfl) rfl ?_)
    refine nil ?_
    refine n_then ?_
    refine ret ?_
    exact (doneD (L0 := [(b3, Obj.cells [Value.slice A3 l.length c3].toArray 54 (0, 0))] :: [(b1, Obj.cells [Value.slice A l.length cap].toArray 66 (0, 0))] :: L) ⟨_, .refl _, List.Sublist.refl _⟩ rfl (Res.tmp rfl .nil) (hle7.trans (hle5.trans hz)) L (subF (by (repeat (first | exact List.Sublist.refl _ | apply List.Sublist.cons_cons | apply List.Sublist.cons)); done)) ⟨rfl, rfl⟩).1

/-- how an operation on a store ends -/
def sdoM (l : List Sn) (i op key val : Int) : Nat := match atL l i with
  | none => 4
  | some s => doM s.v op key val
def PSDo (er : Nat → Addr) (l : List Sn) (i op key val : Int) (L : List (List Blk)) : Value → Ro → List (List Blk) → Prop := fun v ro' L' => ∃ (A' : Option Addr) (cap' : Nat) (l' : List Sn) (r g : Int), v = .tuple [.agg [.slice A' l'.length cap'].toArray, .int .i64 r, .int .i64 g, errV er (sdoM l i op key val)].toArray ∧ SSt ro' A' cap' l' ∧ L = L' ∧
  ((sdoM l i op key val = 0 ∧ ∃ s s' : Sn, atL l i = some s ∧ (s'.v, r, g) = deedM op key val s.v ∧ l' = setL l i s') ∨ (sdoM l i op key val ≠ 0 ∧ l' = [] ∧ r = 0 ∧ g = 0))
theorem atL_mem {α : Type} {l : List α} {i : Int} {x : α} (h : atL l i = some x) : x ∈ l := by
  unfold atL at h
  split at h
  · exact List.mem_of_getElem? h
  · cases h
theorem setL_mem {α : Type} {l : List α} {i : Int} {x y : α} (h : y ∈ setL l i x) : y ∈ l ∨ y = x := by
  unfold setL at h
  split at h
  · exact (List.mem_or_eq_of_mem_set h)
  · exact .inl h

theorem SDo_c (l : List Sn) (A : Option Addr) (cap : Nat) (i oc key val : Int) (er : Nat → Addr) (ro : Ro) (L : List (List Blk)) (hG : Glob er ro) (hl : SSt ro A cap l) (hn : l.length ≤ 1000) (hb : ∀ s ∈ l, -1000000000000000 ≤ s.num ∧ s.num ≤ 1000000000000000)
    (hd : ∀ s, atL l i = some s → doM s.v oc key val = 0 → ∀ (ro' : Ro) (L' : List (List Blk)), ro.le ro' → CT Tryz.prog (deedF oc) [.agg (encSn s).toArray, .int .i64 key, .int .i64 val].toArray ro' L' (PDeed oc key val s L')) :
    CT Tryz.prog 37 [.agg [.slice A l.length cap].toArray, .int .i64 i, .int .i64 oc, .int .i64 key, .int .i64 val].toArray ro L (PSDo er l i oc key val L) := by
  refine enter Tryz.func37 rfl Tryz.ntmps37 rfl ?_
  refine seq ?_
  refine region ?_
  refine op (e_box rfl rfl rfl fun b5 => ?_)
  refine op (e_alloc rfl zc_66 rfl fun b10 => ?_)
  refine op (y (x_assign rfl) rfl ?_)
  refine op (y (x_assign rfl) rfl ?_)
  refine op (y (x_assign rfl) rfl ?_)
  refine nil ?_
  refine n_then ?_
  refine seq ?_
  refine region ?_
  refine op (y ((by first | exact x_loadOwn 0 _ ag_66 rfl rfl rfl rfl | exact x_loadOwn 1 _ ag_66 rfl rfl rfl rfl | exact x_loadOwn 2 _ ag_66 rfl rfl rfl rfl | exact x_loadOwn 3 _ ag_66 rfl rfl rfl rfl | exact x_loadOwn 4 _ ag_66 rfl rfl rfl rfl | exact x_loadOwn 5 _ ag_66 rfl rfl rfl rfl | exact x_loadOwn 6 _ ag_66 rfl rfl rfl rfl | exact x_loadOwn 7 _ ag_66 rfl rfl rfl rfl | exact x_loadOwn 8 _ ag_66 rfl rfl rfl rfl | exact x_loadOwn 9 _ ag_66 rfl rfl rfl rfl | exact x_loadOwn 10 _ ag_66 rfl rfl rfl rfl | exact x_loadOwn 11 _ ag_66 rfl rfl rfl rfl)) rfl ?_)
  refine op (y (x_move rfl) rfl ?_)
  refine op (e_call rfl fn_41 rfl rfl (SAt_c l A cap i _ _ hl.sl) fun v23 ro23 L23 hle23 hp23 => ?_)
  obtain ⟨rfl, rfl, rfl⟩ := hp23
  generalize hsx : (atL l i).getD zeroSn = sx at *
  refine op (y (x_move rfl) rfl ?_)
  refine op (y (x_extract rfl rfl) rfl ?_)
  refine op (y (x_extract rfl rfl) rfl ?_)
  refine op (e_alloc rfl zc_29 rfl fun b14 => ?_)
  first | refine op (e_store 0 rfl rfl ts_29 rfl rfl rfl rfl rfl rfl ?_) | refine op (e_store 1 rfl rfl ts_29 rfl rfl rfl rfl rfl rfl ?_) | refine op (e_store 2 rfl rfl ts_29 rfl rfl rfl rfl rfl rfl ?_) | refine op (e_store 3 rfl rfl ts_29 rfl rfl rfl rfl rfl rfl ?_) | refine op (e_store 4 rfl rfl ts_29 rfl rfl rfl rfl rfl rfl ?_) | refine op (e_store 5 rfl rfl ts_29 rfl rfl rfl rfl rfl rfl ?_) | refine op (e_store 6 rfl rfl ts_29 rfl rfl rfl rfl rfl rfl ?_) | refine op (e_store 7 rfl rfl ts_29 rfl rfl rfl rfl rfl rfl ?_) | refine op (e_store 8 rfl rfl ts_29 rfl rfl rfl rfl rfl rfl ?_) | refine op (e_store 9 rfl rfl ts_29 rfl rfl rfl rfl rfl rfl ?_)
  refine op (y (x_assign rfl) rfl ?_)
  refine nil ?_
  refine n_then ?_
  refine seq ?_
  refine seq ?_
  refine region ?_
  refine op (y (x_move rfl) rfl ?_)
  refine op (y (x_not rfl) rfl ?_)
  refine nil ?_
  refine n_then ?_
  refine cond rfl (fun h2 => ?_) (fun h2 => ?_)
  · try simp only [decide_eq_true_eq, decide_eq_false_iff_not, beq_iff_eq, bne_iff_ne, ne_eq, beq_eq_false_iff_ne, bne_eq_false_iff_eq, Bool.not_eq_true', Bool.not_eq_false', Bool.not_eq_true, Bool.not_eq_false, Decidable.not_not, Int.not_lt, Int.not_le] at h2
    refine seq ?_
    have hat : atL l i = none := by simpa using h2
    have hj : sdoM l i oc key val = 4 := by unfold sdoM; rw [hat]
    have hGc := hG.err 4 (by omega) (by omega) (by omega)
    refine draw (([] : List Blk)) (by kernel_rfl) ?_
    refine d_take 0 rfl (by kernel_rfl) (by kernel_rfl) (by kernel_rfl) (fun _ _ _ h => h) rfl (.inl rfl) (x_build bu_66 rfl rfl) (fun w hi => J.of_le (Ro.le.refl _) (fun x hx => absurd hx (by simp)) hi) ?_
    refine d_take 1 rfl (by kernel_rfl) (by kernel_rfl) (by kernel_rfl) (fun _ _ _ h => h) rfl (.inl rfl) (x_load1 ag_31 rfl (Cell.ofRo hGc)) (fun w hi => J.of_le (Ro.le.refl _) (fun x hx => absurd hx (by simp)) hi) ?_
    first | refine d_one 2 rfl (by kernel_rfl) (.inl rfl) (e_store 0 rfl rfl ts_66 rfl rfl rfl rfl rfl rfl ?_) | refine d_one 2 rfl (by kernel_rfl) (.inl rfl) (e_store 1 rfl rfl ts_66 rfl rfl rfl rfl rfl rfl ?_) | refine d_one 2 rfl (by kernel_rfl) (.inl rfl) (e_store 2 rfl rfl ts_66 rfl rfl rfl rfl rfl rfl ?_) | refine d_one 2 rfl (by kernel_rfl) (.inl rfl) (e_store 3 rfl rfl ts_66 rfl rfl rfl rfl rfl rfl ?_) | refine d_one 2 rfl (by kernel_rfl) (.inl rfl) (e_store 4 rfl rfl ts_66 rfl rfl rfl rfl rfl rfl ?_) | refine d_one 2 rfl (by kernel_rfl) (.inl rfl) (e_store 5 rfl rfl ts_66 rfl rfl rfl rfl rfl rfl ?_) | refine d_one 2 rfl (by kernel_rfl) (.inl rfl) (e_store 6 rfl rfl ts_66 rfl rfl rfl rfl rfl rfl ?_) | refine d_one 2 rfl (by kernel_rfl) (.inl rfl) (e_store 7 rfl rfl ts_66 rfl rfl rfl rfl rfl rfl ?_) | refine d_one 2 rfl (by kernel_rfl) (.inl rfl) (e_store 8 rfl rfl ts_66 rfl rfl rfl rfl rfl rfl ?_) | refine d_one 2 rfl (by kernel_rfl) (.inl rfl) (e_store 9 rfl rfl ts_66 rfl rfl rfl rfl rfl rfl ?_)
    refine d_next (fun w hi => J.of_le (Ro.le.refl _) (fun x hx => absurd hx (by simp)) hi) ?_
    refine d_take 3 rfl (by kernel_rfl) (by kernel_rfl) (by kernel_rfl) (fun _ _ _ h => h) rfl (.inl rfl) (x_assign rfl) (fun w hi => J.of_le (Ro.le.refl _) (fun x hx => absurd hx (by simp)) hi) ?_
    refine d_take 4 rfl (by kernel_rfl) (by kernel_rfl) (by kernel_rfl) (fun _ _ _ h => h) rfl (.inl rfl) (x_assign rfl) (fun w hi => J.of_le (Ro.le.refl _) (fun x hx => absurd hx (by simp)) hi) ?_
    refine d_take 5 rfl (by kernel_rfl) (by kernel_rfl) (by kernel_rfl) (fun _ _ _ h => h) rfl (.inl rfl) (x_assign rfl) (fun w hi => J.of_le (Ro.le.refl _) (fun x hx => absurd hx (by simp)) hi) ?_
    refine d_end (by kernel_rfl) ?_
    refine n_then ?_
    refine ret ?_
    refine r_then ?_
    exact done rfl (Res.cellN ag_66 rfl rfl (CellsAt.own 1 0 1 _ rfl rfl) (.tmp rfl (.tmp rfl (.tmp rfl (.nil))))) (Ro.le.refl _) (L) (subF (by (repeat (first | exact List.Sublist.refl _ | apply List.Sublist.cons_cons | apply List.Sublist.cons)); done)) (⟨none, 0, [], 0, 0, by rw [hj]; rfl, sst_nil, rfl, .inr ⟨by omega, rfl, rfl, rfl⟩⟩)
  · try simp only [decide_eq_true_eq, decide_eq_false_iff_not, beq_iff_eq, bne_iff_ne, ne_eq, beq_eq_false_iff_ne, bne_eq_false_iff_eq, Bool.not_eq_true', Bool.not_eq_false', Bool.not_eq_true, Bool.not_eq_false, Decidable.not_not, Int.not_lt, Int.not_le] at h2
    refine skip ?_
    refine n_then ?_
    refine seq ?_
    obtain ⟨s, hat⟩ : ∃ s, atL l i = some s := Option.isSome_iff_exists.1 (by simpa using h2)
    obtain rfl : sx = s := by rw [← hsx, hat]; rfl
    have hm := atL_mem hat
    have hsd : sdoM l i oc key val = doM sx.v oc key val := by unfold sdoM; rw [hat]
    refine region ?_
    refine op (y ((by first | exact x_loadOwn 0 _ ag_29 rfl rfl rfl rfl | exact x_loadOwn 1 _ ag_29 rfl rfl rfl rfl | exact x_loadOwn 2 _ ag_29 rfl rfl rfl rfl | exact x_loadOwn 3 _ ag_29 rfl rfl rfl rfl | exact x_loadOwn 4 _ ag_29 rfl rfl rfl rfl | exact x_loadOwn 5 _ ag_29 rfl rfl rfl rfl | exact x_loadOwn 6 _ ag_29 rfl rfl rfl rfl | exact x_loadOwn 7 _ ag_29 rfl rfl rfl rfl | exact x_loadOwn 8 _ ag_29 rfl rfl rfl rfl | exact x_loadOwn 9 _ ag_29 rfl rfl rfl rfl | exact x_loadOwn 10 _ ag_29 rfl rfl rfl rfl | exact x_loadOwn 11 _ ag_29 rfl rfl rfl rfl)) rfl ?_)
    refine op (y (x_move rfl) rfl ?_)
    refine op (y (x_move rfl) rfl ?_)
    refine op (y (x_move rfl) rfl ?_)
    refine op (e_call rfl fn_14 rfl rfl (Do_c sx oc key val er _ _ hG (hb sx hm) (hd sx hat)) fun v35 ro35 L35 hle35 hp35 => ?_)
    obtain ⟨s', r, g, rfl, hs', rfl, hc⟩ := hp35
    refine op (y (x_move rfl) rfl ?_)
    refine op (y (x_extract rfl rfl) rfl ?_)
    refine op (y (x_extract rfl rfl) rfl ?_)
    refine op (y (x_extract rfl rfl) rfl ?_)
    refine op (y (x_extract rfl rfl) rfl ?_)
    refine op (e_alloc rfl zc_29 rfl fun b16 => ?_)
    first | refine op (e_store 0 rfl rfl ts_29 rfl rfl rfl rfl rfl rfl ?_) | refine op (e_store 1 rfl rfl ts_29 rfl rfl rfl rfl rfl rfl ?_) | refine op (e_store 2 rfl rfl ts_29 rfl rfl rfl rfl rfl rfl ?_) | refine op (e_store 3 rfl rfl ts_29 rfl rfl rfl rfl rfl rfl ?_) | refine op (e_store 4 rfl rfl ts_29 rfl rfl rfl rfl rfl rfl ?_) | refine op (e_store 5 rfl rfl ts_29 rfl rfl rfl rfl rfl rfl ?_) | refine op (e_store 6 rfl rfl ts_29 rfl rfl rfl rfl rfl rfl ?_) | refine op (e_store 7 rfl rfl ts_29 rfl rfl rfl rfl rfl rfl ?_) | refine op (e_store 8 rfl rfl ts_29 rfl rfl rfl rfl rfl rfl ?_) | refine op (e_store 9 rfl rfl ts_29 rfl rfl rfl rfl rfl rfl ?_)
    refine op (y (x_assign rfl) rfl ?_)
    refine op (y (x_assign rfl) rfl ?_)
    refine op (y (x_assign rfl) rfl ?_)
    refine nil ?_
    refine n_then ?_
    refine seq ?_
    refine seq ?_
    refine region ?_
    refine op (y (x_move rfl) rfl ?_)
    refine op (y (x_ifNeNil Tryz.underlying31 rfl (errV_if er _)) rfl ?_)
    refine nil ?_
    refine n_then ?_
    refine cond rfl (fun h5 => ?_) (fun h5 => ?_)
    · try simp only [decide_eq_true_eq, decide_eq_false_iff_not, beq_iff_eq, bne_iff_ne, ne_eq, beq_eq_false_iff_ne, bne_eq_false_iff_eq, Bool.not_eq_true', Bool.not_eq_false', Bool.not_eq_true, Bool.not_eq_false, Decidable.not_not, Int.not_lt, Int.not_le] at h5
      refine seq ?_
      change isNilI (errV er (doM sx.v oc key val)) = false at h5
      rw [errV_nil] at h5
      have hne : doM sx.v oc key val ≠ 0 := by simpa using h5
      refine region ?_
      refine op (y (x_build bu_66 rfl rfl) rfl ?_)
      refine op (y (x_move rfl) rfl ?_)
      first | refine op (e_store 0 rfl rfl ts_66 rfl rfl rfl rfl rfl rfl ?_) | refine op (e_store 1 rfl rfl ts_66 rfl rfl rfl rfl rfl rfl ?_) | refine op (e_store 2 rfl rfl ts_66 rfl rfl rfl rfl rfl rfl ?_) | refine op (e_store 3 rfl rfl ts_66 rfl rfl rfl rfl rfl rfl ?_) | refine op (e_store 4 rfl rfl ts_66 rfl rfl rfl rfl rfl rfl ?_) | refine op (e_store 5 rfl rfl ts_66 rfl rfl rfl rfl rfl rfl ?_) | refine op (e_store 6 rfl rfl ts_66 rfl rfl rfl rfl rfl rfl ?_) | refine op (e_store 7 rfl rfl ts_66 rfl rfl rfl rfl rfl rfl ?_) | refine op (e_store 8 rfl rfl ts_66 rfl rfl rfl rfl rfl rfl ?_) | refine op (e_store 9 rfl rfl ts_66 rfl rfl rfl rfl rfl rfl ?_)
      refine op (y (x_assign rfl) rfl ?_)
      refine op (y (x_assign rfl) rfl ?_)
      refine op (y (x_assign rfl) rfl ?_)
      refine nil ?_
      refine n_then ?_
      refine ret ?_
      refine r_then ?_
      exact done rfl (Res.cellN ag_66 rfl rfl (CellsAt.own 2 0 1 _ rfl rfl) (.tmp rfl (.tmp rfl (.tmp rfl (.nil))))) (hle35) (L) (subF (by (repeat (first | exact List.Sublist.refl _ | apply List.Sublist.cons_cons | apply List.Sublist.cons)); done)) (⟨none, 0, [], 0, 0, by rw [hsd]; rfl, sst_nil, rfl, .inr ⟨by rw [hsd]; exact hne, rfl, rfl, rfl⟩⟩)
    · try simp only [decide_eq_true_eq, decide_eq_false_iff_not, beq_iff_eq, bne_iff_ne, ne_eq, beq_eq_false_iff_ne, bne_eq_false_iff_eq, Bool.not_eq_true', Bool.not_eq_false', Bool.not_eq_true, Bool.not_eq_false, Decidable.not_not, Int.not_lt, Int.not_le] at h5
      refine skip ?_
      refine n_then ?_
      refine seq ?_
      change isNilI (errV er (doM sx.v oc key val)) = true at h5
      rw [errV_nil] at h5
      have hz0 : doM sx.v oc key val = 0 := by simpa using h5
      rcases hc with ⟨_, hdm⟩ | ⟨hx, _⟩
      rotate_left
      · exact absurd hz0 hx
      refine region ?_
      refine op (y (x_fieldAddr fo_66_0 rfl) rfl ?_)
      refine op (y ((by first | exact x_loadOwn 0 _ ag_64 rfl rfl rfl rfl | exact x_loadOwn 1 _ ag_64 rfl rfl rfl rfl | exact x_loadOwn 2 _ ag_64 rfl rfl rfl rfl | exact x_loadOwn 3 _ ag_64 rfl rfl rfl rfl | exact x_loadOwn 4 _ ag_64 rfl rfl rfl rfl | exact x_loadOwn 5 _ ag_64 rfl rfl rfl rfl | exact x_loadOwn 6 _ ag_64 rfl rfl rfl rfl | exact x_loadOwn 7 _ ag_64 rfl rfl rfl rfl | exact x_loadOwn 8 _ ag_64 rfl rfl rfl rfl | exact x_loadOwn 9 _ ag_64 rfl rfl rfl rfl | exact x_loadOwn 10 _ ag_64 rfl rfl rfl rfl | exact x_loadOwn 11 _ ag_64 rfl rfl rfl rfl)) rfl ?_)
      refine op (y (x_move rfl) rfl ?_)
      refine op (y ((by first | exact x_loadOwn 0 _ ag_29 rfl rfl rfl rfl | exact x_loadOwn 1 _ ag_29 rfl rfl rfl rfl | exact x_loadOwn 2 _ ag_29 rfl rfl rfl rfl | exact x_loadOwn 3 _ ag_29 rfl rfl rfl rfl | exact x_loadOwn 4 _ ag_29 rfl rfl rfl rfl | exact x_loadOwn 5 _ ag_29 rfl rfl rfl rfl | exact x_loadOwn 6 _ ag_29 rfl rfl rfl rfl | exact x_loadOwn 7 _ ag_29 rfl rfl rfl rfl | exact x_loadOwn 8 _ ag_29 rfl rfl rfl rfl | exact x_loadOwn 9 _ ag_29 rfl rfl rfl rfl | exact x_loadOwn 10 _ ag_29 rfl rfl rfl rfl | exact x_loadOwn 11 _ ag_29 rfl rfl rfl rfl)) rfl ?_)
      refine op (e_call rfl fn_69 rfl rfl (WithS_c l A cap i s' _ _ (hl.sl.mono hle35) (by omega)) fun v48 ro48 L48 hle48 hp48 => ?_)
      obtain ⟨A48, c48, rfl, hS48, rfl⟩ := hp48
      refine op (y (x_build bu_66 rfl rfl) rfl ?_)
      refine op (y (x_move rfl) rfl ?_)
      refine op (y (x_move rfl) rfl ?_)
      first | refine op (e_store 0 rfl rfl ts_66 rfl rfl rfl rfl rfl rfl ?_) | refine op (e_store 1 rfl rfl ts_66 rfl rfl rfl rfl rfl rfl ?_) | refine op (e_store 2 rfl rfl ts_66 rfl rfl rfl rfl rfl rfl ?_) | refine op (e_store 3 rfl rfl ts_66 rfl rfl rfl rfl rfl rfl ?_) | refine op (e_store 4 rfl rfl ts_66 rfl rfl rfl rfl rfl rfl ?_) | refine op (e_store 5 rfl rfl ts_66 rfl rfl rfl rfl rfl rfl ?_) | refine op (e_store 6 rfl rfl ts_66 rfl rfl rfl rfl rfl rfl ?_) | refine op (e_store 7 rfl rfl ts_66 rfl rfl rfl rfl rfl rfl ?_) | refine op (e_store 8 rfl rfl ts_66 rfl rfl rfl rfl rfl rfl ?_) | refine op (e_store 9 rfl rfl ts_66 rfl rfl rfl rfl rfl rfl ?_)
      refine op (y (x_assign rfl) rfl ?_)
      refine op (y (x_assign rfl) rfl ?_)
      refine op (y (x_assign rfl) rfl ?_)
      refine nil ?_
      refine n_then ?_
      refine ret ?_
      exact done rfl (Res.cellN ag_66 rfl rfl (CellsAt.own 2 0 1 _ rfl rfl) (.tmp rfl (.tmp rfl (.tmp rfl (.nil))))) (hle35.trans hle48) (L) (subF (by (repeat (first | exact List.Sublist.refl _ | apply List.Sublist.cons_cons | apply List.Sublist.cons)); done)) (⟨A48, c48, setL l i s', r, g, by rw [hsd, hz0]; rfl, ⟨hS48, fun y hy => by rcases setL_mem hy with h | rfl; exact ((hl.ok y h).mono hle35).mono hle48; exact hs'.mono hle48⟩, rfl, .inl ⟨by rw [hsd]; exact hz0, sx, s', hat, hdm, rfl⟩⟩)

end Go.Proofs.YtgkngljojfkkfaaGreatDoor
