/- The walks of the table of transactions, of the check, of the search in the table. -/
import Derived.Test.YtijafcilfefafaaDoorV17
namespace Go.Proofs.YtijafcilfefafaaDoor
open Go Go.U
set_option maxRecDepth 20000
set_option linter.unusedSimpArgs false
set_option linter.unusedVariables false

def PTxs (txs : List Tm) (L : List (List Blk)) : Value → Ro → List (List Blk) → Prop := fun v ro' L' => ∃ (A : Option Addr) (cap : Nat) (tgs : List TG), v = .slice A tgs.length cap ∧ tgs.map (·.tm) = txs ∧ STb ro' A cap tgs ∧ L = L'
def PTable (h : Hi) (L : List (List Blk)) : Value → Ro → List (List Blk) → Prop := fun v ro' L' => ∃ (A : Option Addr) (cap : Nat) (tgs : List TG) (ev : Value), v = .tuple [.slice A tgs.length cap, ev].toArray ∧ IfV ev ∧
  ((isNilI ev = true ∧ (∃ sts, takenM h = some sts ∧ tgs.map (·.tm) = sts.map (·.tx)) ∧ STb ro' A cap tgs) ∨ (isNilI ev = false ∧ takenM h = none ∧ tgs = [])) ∧ L = L'
theorem yl_sub (Y L : List (List Blk)) (b : List Blk) : ∃ M, M.Perm (List.flatten (Y ++ (b :: L))) ∧ L.flatten.Sublist M := subF ((List.Sublist.refl _).cons _ |>.trans (List.sublist_append_right _ _))

theorem Txs_e (a : Nat) (oA : Option Addr) (oc : Nat) (os : List Ob) (n : Nat) (tA : Option Addr) (tc : Nat) (Rt : List Blk) (rb : Nat) (eb : Array MapEntry) (cb : Nat) (ru : Nat) (eu : Array MapEntry) (cu : Nat) (G : List SG) (ro : Ro) (L : List (List Blk))
    (ht : OwnS 88 1 tA G.length tc (G.flatMap encSG) Rt) (hg : ∀ g ∈ G, OwnD g.A g.cap g.s.tx.ds g.R) (hinv : Inv n (G.map (·.s))) (hn : n ≤ 400) :
    CT Tryd.prog 48 [.pointer (some ⟨a, 0, none⟩)].toArray ro ([(a, Obj.cells [Value.slice oA os.length oc, Value.int .i64 (n : Nat), Value.slice tA G.length tc, Value.map (some rb), Value.map (some ru)].toArray 87 (0, 0))] :: Rt :: [(rb, Obj.map eb cb)] :: [(ru, Obj.map eu cu)] :: G.flatMap SG.blks :: L) (PTxs (G.map (fun g => g.s.tx)) L) := by
  have hGl : G.length ≤ 400 := by have := hinv.len; simp at this; omega
  refine enter Tryd.func48 rfl Tryd.ntmps48 rfl ?_
  refine seq ?_
  refine region ?_
  refine op (y (x_assign rfl) rfl ?_)
  refine nil ?_
  refine n_then ?_
  refine seq ?_
  refine region ?_
  refine op (y (x_move rfl) rfl ?_)
  refine op (y (x_nilPtr rfl) rfl ?_)
  refine op (y (x_fieldAddr fo_87_2 rfl) rfl ?_)
  refine op (y (x_load1 ag_84 rfl (by first | assumption | exact Cell.own 0 rfl rfl | exact Cell.own 1 rfl rfl | exact Cell.own 2 rfl rfl | exact Cell.own 3 rfl rfl | exact Cell.own 4 rfl rfl | exact Cell.own 5 rfl rfl | exact Cell.own 6 rfl rfl | exact Cell.own 7 rfl rfl | exact Cell.own 8 rfl rfl | exact Cell.own 9 rfl rfl | exact Cell.ofRo (by assumption))) rfl ?_)
  refine op (y (x_lenSl sz_84 rfl) rfl ?_)
  refine op (e_make rfl st_55 rfl rfl (by omega) (by omega) (by omega) (by omega) fun b12 R12 xs12 hO12 hR12 => ?_)
  obtain rfl : xs12 = [] := List.eq_nil_of_length_eq_zero (by simpa using hO12.1)
  refine op (y (x_assign rfl) rfl ?_)
  refine nil ?_
  refine n_then ?_
  refine seq ?_
  refine seq ?_
  refine region ?_
  refine op (y (x_move rfl) rfl ?_)
  refine op (y (x_nilPtr rfl) rfl ?_)
  refine op (y (x_fieldAddr fo_87_2 rfl) rfl ?_)
  refine op (y (x_load1 ag_84 rfl (by first | assumption | exact Cell.own 0 rfl rfl | exact Cell.own 1 rfl rfl | exact Cell.own 2 rfl rfl | exact Cell.own 3 rfl rfl | exact Cell.own 4 rfl rfl | exact Cell.own 5 rfl rfl | exact Cell.own 6 rfl rfl | exact Cell.own 7 rfl rfl | exact Cell.own 8 rfl rfl | exact Cell.own 9 rfl rfl | exact Cell.ofRo (by assumption))) rfl ?_)
  refine op (y (x_lenSl sz_84 rfl) rfl ?_)
  refine op (y (x_move rfl) rfl ?_)
  refine nil ?_
  refine n_then ?_
  refine block ?_
  refine loop (fun m F ro' L' => ∃ (k : Nat) (A3 : Option Addr) (cap3 : Nat) (R3 : List Blk) (tgs : List TG), (m = G.length - k) ∧ (F = [(3, .slice A3 k cap3), (16, .slice tA G.length tc), (17, .int .i64 (G.length : Nat)), (18, .int .i64 (k : Nat))]) ∧ (L' = R3 :: [(a, Obj.cells [Value.slice oA os.length oc, Value.int .i64 (n : Nat), Value.slice tA G.length tc, Value.map (some rb), Value.map (some ru)].toArray 87 (0, 0))] :: Rt :: [(rb, Obj.map eb cb)] :: [(ru, Obj.map eu cu)] :: G.flatMap SG.blks :: L) ∧ (k ≤ G.length) ∧ (ro.le ro') ∧ (tgs.length = k) ∧ (OwnS 61 7 A3 k cap3 (tgs.flatMap encTG) R3) ∧ (tgs.map (·.tm) = (G.take k).map (fun g => g.s.tx)) ∧ (∀ t ∈ tgs, Sl ro' 8 encDe t.A t.cap t.tm.ds)) (G.length - 0) [(3, .slice _ 0 G.length), (16, .slice tA G.length tc), (17, .int .i64 (G.length : Nat)), (18, .int .i64 (0 : Nat))] ⟨rfl, rfl, rfl, rfl, trivial⟩ ⟨0, _, G.length, _, [], rfl, rfl, rfl, by omega, Ro.le.refl _, rfl, by simpa using hO12, rfl, by simp⟩ ?_
  rintro m F ro' L' ⟨k, A3, cap3, R3, tgs, rfl, rfl, rfl, hk, hro, hlen, hO, hmp, hsl⟩
  refine seq ?_
  refine region ?_
  refine op (y (x_lss rfl rfl) rfl ?_)
  refine nil ?_
  refine n_then ?_
  refine seq ?_
  refine cond rfl (fun h3 => ?_) (fun h3 => ?_)
  · try simp only [decide_eq_true_eq, decide_eq_false_iff_not, beq_iff_eq, bne_iff_ne, ne_eq, beq_eq_false_iff_ne, bne_eq_false_iff_eq, Bool.not_eq_true', Bool.not_eq_false', Bool.not_eq_true, Bool.not_eq_false, Decidable.not_not, Int.not_lt, Int.not_le] at h3
    refine skip ?_
    refine n_then ?_
    refine seq ?_
    refine block ?_
    refine seq ?_
    obtain ⟨bt, ot, curt, rfl, rfl, _, hct⟩ := ht.at_ (by omega)
    have hkl : k < G.length := by omega
    have hgk := List.getElem?_eq_getElem hkl
    have hgmem := List.getElem_mem hkl
    have hgm : stB (G[k]).p (G[k]).A (G[k]).cap (G[k]).s ∈ G.flatMap SG.blks := List.mem_flatMap.2 ⟨_, hgmem, by simp [SG.blks]⟩
    have hgR : ∀ q ∈ (G[k]).R, q ∈ G.flatMap SG.blks := fun q hq => List.mem_flatMap.2 ⟨_, hgmem, by simp [SG.blks, hq]⟩
    have hOg := hg _ hgmem
    have hgd := (hinv.ds _ (List.mem_map_of_mem hgmem)).1
    refine region ?_
    refine op (y (x_indexNat sz_84 rfl rfl (by omega)) rfl ?_)
    refine op (y (x_load1 ag_88 rfl (Cell.own 2 rfl (hct (k * 1) _ (flat_sg G k hgk)))) rfl ?_)
    refine op (y (x_assign rfl) rfl ?_)
    refine nil ?_
    refine n_then ?_
    refine seq ?_
    refine region ?_
    refine op (y (x_move rfl) rfl ?_)
    refine op (y (x_nilPtr rfl) rfl ?_)
    refine op (y (x_fieldAddr fo_90_0 rfl) rfl ?_)
    refine op (y (x_loadN ag_61 rfl rfl (show CellsAt _ _ _ (0 + 0) (tmC (G[k]).A (G[k]).cap (G[k]).s.tx) from fun j v hv => Cell.blk (mem1 (mem1 (mem1 (mem1 (mem1 (mem0 hgm)))))) (stc_tm hv))) rfl ?_)
    refine op (e_alloc rfl zc_61 rfl fun b6 => ?_)
    first | refine op (e_store 0 rfl rfl ts_61 rfl rfl rfl rfl rfl rfl ?_) | refine op (e_store 1 rfl rfl ts_61 rfl rfl rfl rfl rfl rfl ?_) | refine op (e_store 2 rfl rfl ts_61 rfl rfl rfl rfl rfl rfl ?_) | refine op (e_store 3 rfl rfl ts_61 rfl rfl rfl rfl rfl rfl ?_) | refine op (e_store 4 rfl rfl ts_61 rfl rfl rfl rfl rfl rfl ?_) | refine op (e_store 5 rfl rfl ts_61 rfl rfl rfl rfl rfl rfl ?_) | refine op (e_store 6 rfl rfl ts_61 rfl rfl rfl rfl rfl rfl ?_) | refine op (e_store 7 rfl rfl ts_61 rfl rfl rfl rfl rfl rfl ?_) | refine op (e_store 8 rfl rfl ts_61 rfl rfl rfl rfl rfl rfl ?_) | refine op (e_store 9 rfl rfl ts_61 rfl rfl rfl rfl rfl rfl ?_)
    refine nil ?_
    refine n_then ?_
    refine seqM (fun F ro7' L7' => ∃ (A32 : Option Addr) (cap32 : Nat) (R32 : List Blk), (F = [(3, .slice A3 k cap3), (6, .pointer (some ⟨b6, 0, none⟩)), (16, .slice (some ⟨bt, ot, none⟩) G.length tc), (17, .int .i64 (G.length : Nat)), (18, .int .i64 (k : Nat))]) ∧ (ro' = ro7') ∧ (L7' = R32 :: [(b6, Obj.cells (tmC A32 cap32 (G[k]).s.tx).toArray 61 (0, 0))] :: R3 :: [(a, Obj.cells [Value.slice oA os.length oc, Value.int .i64 (n : Nat), Value.slice (some ⟨bt, ot, none⟩) G.length tc, Value.map (some rb), Value.map (some ru)].toArray 87 (0, 0))] :: [(bt, Obj.cells curt 88 (0, 0))] :: [(rb, Obj.map eb cb)] :: [(ru, Obj.map eu cu)] :: G.flatMap SG.blks :: L) ∧ (OwnD A32 cap32 (G[k]).s.tx.ds R32)) ?_ ?_
    · skip
      refine draw (([] : List Blk)) (by kernel_rfl) ?_
      refine d_take 0 rfl (by kernel_rfl) (by kernel_rfl) (by kernel_rfl) (fun _ _ _ h => h) rfl (.inl rfl) (x_fieldAddr fo_61_6 rfl) (fun w hi => J.of_le (Ro.le.refl _) (fun x hx => absurd hx (by simp)) hi) ?_
      refine d_take 4 rfl (by kernel_rfl) (by kernel_rfl) (by kernel_rfl) (fun _ _ _ h => h) rfl (.inl rfl) (x_fieldAddr fo_61_6 rfl) (fun w hi => J.of_le (Ro.le.refl _) (fun x hx => absurd hx (by simp)) hi) ?_
      refine d_two 1 5 (by kernel_rfl) ?_ ?_
      · skip
        refine d_the rfl (.inl rfl) (y (x_load1 ag_59 rfl (by first | assumption | exact Cell.own 0 rfl rfl | exact Cell.own 1 rfl rfl | exact Cell.own 2 rfl rfl | exact Cell.own 3 rfl rfl | exact Cell.own 4 rfl rfl | exact Cell.own 5 rfl rfl | exact Cell.own 6 rfl rfl | exact Cell.own 7 rfl rfl | exact Cell.own 8 rfl rfl | exact Cell.own 9 rfl rfl | exact Cell.ofRo (by assumption))) rfl ?_)
        refine d_next (fun w hi => J.of_le (Ro.le.refl _) (fun x hx => absurd hx (by simp)) hi) ?_
        refine d_take 2 rfl (by kernel_rfl) (by kernel_rfl) (by kernel_rfl) (fun _ _ _ h => h) rfl (.inl rfl) (x_lenSl sz_59 rfl) (fun w hi => J.of_le (Ro.le.refl _) (fun x hx => absurd hx (by simp)) hi) ?_
        refine d_two 3 5 (by kernel_rfl) ?_ ?_
        · skip
          refine d_the rfl (.inl rfl) (e_make rfl st_59 rfl rfl (by omega) (by omega) (by omega) (by omega) fun b29 R29 xs29 hO29 hR29 => ?_)
          obtain rfl : xs29 = [] := List.eq_nil_of_length_eq_zero (by simpa using hO29.1)
          refine d_next (fun w hi => J.of_le (Ro.le.refl _) (fun x hx => absurd hx (by simp)) hi) ?_
          refine d_one 5 rfl (by kernel_rfl) (.inl rfl) (y (x_load1 ag_59 rfl (by first | assumption | exact Cell.own 0 rfl rfl | exact Cell.own 1 rfl rfl | exact Cell.own 2 rfl rfl | exact Cell.own 3 rfl rfl | exact Cell.own 4 rfl rfl | exact Cell.own 5 rfl rfl | exact Cell.own 6 rfl rfl | exact Cell.own 7 rfl rfl | exact Cell.own 8 rfl rfl | exact Cell.own 9 rfl rfl | exact Cell.ofRo (by assumption))) rfl ?_)
          refine d_next (fun w hi => J.of_le (Ro.le.refl _) (fun x hx => absurd hx (by simp)) hi) ?_
          refine d_one 6 rfl (by kernel_rfl) (.inl rfl) (e_append 0 rfl st_59 rfl rfl rfl hO29 (OwnS.src hOg (fun q hq => mem1 (mem1 (mem1 (mem1 (mem1 (mem1 (mem1 (mem0 (hgR q hq)))))))))) (ok_de _) (by omega) (by omega) (fun _ => rfl) fun A32 cap32 R32 hO32 => ?_)
          refine said 32 (.slice A32 (G[k]).s.tx.ds.length cap32) rfl (by simp) ?_
          refine d_next (fun w hi => J.of_le (Ro.le.refl _) (fun x hx => absurd hx (by simp)) hi) ?_
          refine d_take 7 rfl (by kernel_rfl) (by kernel_rfl) (by kernel_rfl) (fun _ _ _ h => h) rfl (.inl rfl) (x_fieldAddr fo_61_6 rfl) (fun w hi => J.of_le (Ro.le.refl _) (fun x hx => absurd hx (by simp)) hi) ?_
          first | refine d_one 8 rfl (by kernel_rfl) (.inl rfl) (e_store 0 rfl rfl ts_59 rfl rfl rfl rfl rfl rfl ?_) | refine d_one 8 rfl (by kernel_rfl) (.inl rfl) (e_store 1 rfl rfl ts_59 rfl rfl rfl rfl rfl rfl ?_) | refine d_one 8 rfl (by kernel_rfl) (.inl rfl) (e_store 2 rfl rfl ts_59 rfl rfl rfl rfl rfl rfl ?_) | refine d_one 8 rfl (by kernel_rfl) (.inl rfl) (e_store 3 rfl rfl ts_59 rfl rfl rfl rfl rfl rfl ?_) | refine d_one 8 rfl (by kernel_rfl) (.inl rfl) (e_store 4 rfl rfl ts_59 rfl rfl rfl rfl rfl rfl ?_) | refine d_one 8 rfl (by kernel_rfl) (.inl rfl) (e_store 5 rfl rfl ts_59 rfl rfl rfl rfl rfl rfl ?_) | refine d_one 8 rfl (by kernel_rfl) (.inl rfl) (e_store 6 rfl rfl ts_59 rfl rfl rfl rfl rfl rfl ?_) | refine d_one 8 rfl (by kernel_rfl) (.inl rfl) (e_store 7 rfl rfl ts_59 rfl rfl rfl rfl rfl rfl ?_) | refine d_one 8 rfl (by kernel_rfl) (.inl rfl) (e_store 8 rfl rfl ts_59 rfl rfl rfl rfl rfl rfl ?_) | refine d_one 8 rfl (by kernel_rfl) (.inl rfl) (e_store 9 rfl rfl ts_59 rfl rfl rfl rfl rfl rfl ?_)
          refine d_next (fun w hi => J.of_le (Ro.le.refl _) (fun x hx => absurd hx (by simp)) hi) ?_
          refine d_end (by kernel_rfl) ?_
          exact mid [(3, .slice A3 k cap3), (6, .pointer (some ⟨b6, 0, none⟩)), (16, .slice (some ⟨bt, ot, none⟩) G.length tc), (17, .int .i64 (G.length : Nat)), (18, .int .i64 (k : Nat))] ⟨rfl, rfl, rfl, rfl, rfl, trivial⟩ ⟨A32, cap32, R32, rfl, rfl, rfl, by simpa using hO32⟩
        · skip
          refine d_the rfl (.inl rfl) (y (x_load1 ag_59 rfl (by first | assumption | exact Cell.own 0 rfl rfl | exact Cell.own 1 rfl rfl | exact Cell.own 2 rfl rfl | exact Cell.own 3 rfl rfl | exact Cell.own 4 rfl rfl | exact Cell.own 5 rfl rfl | exact Cell.own 6 rfl rfl | exact Cell.own 7 rfl rfl | exact Cell.own 8 rfl rfl | exact Cell.own 9 rfl rfl | exact Cell.ofRo (by assumption))) rfl ?_)
          refine d_next (fun w hi => J.of_le (Ro.le.refl _) (fun x hx => absurd hx (by simp)) hi) ?_
          refine d_one 3 rfl (by kernel_rfl) (.inl rfl) (e_make rfl st_59 rfl rfl (by omega) (by omega) (by omega) (by omega) fun b29 R29 xs29 hO29 hR29 => ?_)
          obtain rfl : xs29 = [] := List.eq_nil_of_length_eq_zero (by simpa using hO29.1)
          refine d_next (fun w hi => J.of_le (Ro.le.refl _) (fun x hx => absurd hx (by simp)) hi) ?_
          refine d_one 6 rfl (by kernel_rfl) (.inl rfl) (e_append 0 rfl st_59 rfl rfl rfl hO29 (OwnS.src hOg (fun q hq => mem1 (mem1 (mem1 (mem1 (mem1 (mem1 (mem1 (mem0 (hgR q hq)))))))))) (ok_de _) (by omega) (by omega) (fun _ => rfl) fun A32 cap32 R32 hO32 => ?_)
          refine said 32 (.slice A32 (G[k]).s.tx.ds.length cap32) rfl (by simp) ?_
          refine d_next (fun w hi => J.of_le (Ro.le.refl _) (fun x hx => absurd hx (by simp)) hi) ?_
          refine d_take 7 rfl (by kernel_rfl) (by kernel_rfl) (by kernel_rfl) (fun _ _ _ h => h) rfl (.inl rfl) (x_fieldAddr fo_61_6 rfl) (fun w hi => J.of_le (Ro.le.refl _) (fun x hx => absurd hx (by simp)) hi) ?_
          first | refine d_one 8 rfl (by kernel_rfl) (.inl rfl) (e_store 0 rfl rfl ts_59 rfl rfl rfl rfl rfl rfl ?_) | refine d_one 8 rfl (by kernel_rfl) (.inl rfl) (e_store 1 rfl rfl ts_59 rfl rfl rfl rfl rfl rfl ?_) | refine d_one 8 rfl (by kernel_rfl) (.inl rfl) (e_store 2 rfl rfl ts_59 rfl rfl rfl rfl rfl rfl ?_) | refine d_one 8 rfl (by kernel_rfl) (.inl rfl) (e_store 3 rfl rfl ts_59 rfl rfl rfl rfl rfl rfl ?_) | refine d_one 8 rfl (by kernel_rfl) (.inl rfl) (e_store 4 rfl rfl ts_59 rfl rfl rfl rfl rfl rfl ?_) | refine d_one 8 rfl (by kernel_rfl) (.inl rfl) (e_store 5 rfl rfl ts_59 rfl rfl rfl rfl rfl rfl ?_) | refine d_one 8 rfl (by kernel_rfl) (.inl rfl) (e_store 6 rfl rfl ts_59 rfl rfl rfl rfl rfl rfl ?_) | refine d_one 8 rfl (by kernel_rfl) (.inl rfl) (e_store 7 rfl rfl ts_59 rfl rfl rfl rfl rfl rfl ?_) | refine d_one 8 rfl (by kernel_rfl) (.inl rfl) (e_store 8 rfl rfl ts_59 rfl rfl rfl rfl rfl rfl ?_) | refine d_one 8 rfl (by kernel_rfl) (.inl rfl) (e_store 9 rfl rfl ts_59 rfl rfl rfl rfl rfl rfl ?_)
          refine d_next (fun w hi => J.of_le (Ro.le.refl _) (fun x hx => absurd hx (by simp)) hi) ?_
          refine d_end (by kernel_rfl) ?_
          exact mid [(3, .slice A3 k cap3), (6, .pointer (some ⟨b6, 0, none⟩)), (16, .slice (some ⟨bt, ot, none⟩) G.length tc), (17, .int .i64 (G.length : Nat)), (18, .int .i64 (k : Nat))] ⟨rfl, rfl, rfl, rfl, rfl, trivial⟩ ⟨A32, cap32, R32, rfl, rfl, rfl, by simpa using hO32⟩
      · skip
        refine d_the rfl (.inl rfl) (y (x_load1 ag_59 rfl (by first | assumption | exact Cell.own 0 rfl rfl | exact Cell.own 1 rfl rfl | exact Cell.own 2 rfl rfl | exact Cell.own 3 rfl rfl | exact Cell.own 4 rfl rfl | exact Cell.own 5 rfl rfl | exact Cell.own 6 rfl rfl | exact Cell.own 7 rfl rfl | exact Cell.own 8 rfl rfl | exact Cell.own 9 rfl rfl | exact Cell.ofRo (by assumption))) rfl ?_)
        refine d_next (fun w hi => J.of_le (Ro.le.refl _) (fun x hx => absurd hx (by simp)) hi) ?_
        refine d_one 1 rfl (by kernel_rfl) (.inl rfl) (y (x_load1 ag_59 rfl (by first | assumption | exact Cell.own 0 rfl rfl | exact Cell.own 1 rfl rfl | exact Cell.own 2 rfl rfl | exact Cell.own 3 rfl rfl | exact Cell.own 4 rfl rfl | exact Cell.own 5 rfl rfl | exact Cell.own 6 rfl rfl | exact Cell.own 7 rfl rfl | exact Cell.own 8 rfl rfl | exact Cell.own 9 rfl rfl | exact Cell.ofRo (by assumption))) rfl ?_)
        refine d_next (fun w hi => J.of_le (Ro.le.refl _) (fun x hx => absurd hx (by simp)) hi) ?_
        refine d_take 2 rfl (by kernel_rfl) (by kernel_rfl) (by kernel_rfl) (fun _ _ _ h => h) rfl (.inl rfl) (x_lenSl sz_59 rfl) (fun w hi => J.of_le (Ro.le.refl _) (fun x hx => absurd hx (by simp)) hi) ?_
        refine d_one 3 rfl (by kernel_rfl) (.inl rfl) (e_make rfl st_59 rfl rfl (by omega) (by omega) (by omega) (by omega) fun b29 R29 xs29 hO29 hR29 => ?_)
        obtain rfl : xs29 = [] := List.eq_nil_of_length_eq_zero (by simpa using hO29.1)
        refine d_next (fun w hi => J.of_le (Ro.le.refl _) (fun x hx => absurd hx (by simp)) hi) ?_
        refine d_one 6 rfl (by kernel_rfl) (.inl rfl) (e_append 0 rfl st_59 rfl rfl rfl hO29 (OwnS.src hOg (fun q hq => mem1 (mem1 (mem1 (mem1 (mem1 (mem1 (mem1 (mem0 (hgR q hq)))))))))) (ok_de _) (by omega) (by omega) (fun _ => rfl) fun A32 cap32 R32 hO32 => ?_)
        refine said 32 (.slice A32 (G[k]).s.tx.ds.length cap32) rfl (by simp) ?_
        refine d_next (fun w hi => J.of_le (Ro.le.refl _) (fun x hx => absurd hx (by simp)) hi) ?_
        refine d_take 7 rfl (by kernel_rfl) (by kernel_rfl) (by kernel_rfl) (fun _ _ _ h => h) rfl (.inl rfl) (x_fieldAddr fo_61_6 rfl) (fun w hi => J.of_le (Ro.le.refl _) (fun x hx => absurd hx (by simp)) hi) ?_
        first | refine d_one 8 rfl (by kernel_rfl) (.inl rfl) (e_store 0 rfl rfl ts_59 rfl rfl rfl rfl rfl rfl ?_) | refine d_one 8 rfl (by kernel_rfl) (.inl rfl) (e_store 1 rfl rfl ts_59 rfl rfl rfl rfl rfl rfl ?_) | refine d_one 8 rfl (by kernel_rfl) (.inl rfl) (e_store 2 rfl rfl ts_59 rfl rfl rfl rfl rfl rfl ?_) | refine d_one 8 rfl (by kernel_rfl) (.inl rfl) (e_store 3 rfl rfl ts_59 rfl rfl rfl rfl rfl rfl ?_) | refine d_one 8 rfl (by kernel_rfl) (.inl rfl) (e_store 4 rfl rfl ts_59 rfl rfl rfl rfl rfl rfl ?_) | refine d_one 8 rfl (by kernel_rfl) (.inl rfl) (e_store 5 rfl rfl ts_59 rfl rfl rfl rfl rfl rfl ?_) | refine d_one 8 rfl (by kernel_rfl) (.inl rfl) (e_store 6 rfl rfl ts_59 rfl rfl rfl rfl rfl rfl ?_) | refine d_one 8 rfl (by kernel_rfl) (.inl rfl) (e_store 7 rfl rfl ts_59 rfl rfl rfl rfl rfl rfl ?_) | refine d_one 8 rfl (by kernel_rfl) (.inl rfl) (e_store 8 rfl rfl ts_59 rfl rfl rfl rfl rfl rfl ?_) | refine d_one 8 rfl (by kernel_rfl) (.inl rfl) (e_store 9 rfl rfl ts_59 rfl rfl rfl rfl rfl rfl ?_)
        refine d_next (fun w hi => J.of_le (Ro.le.refl _) (fun x hx => absurd hx (by simp)) hi) ?_
        refine d_end (by kernel_rfl) ?_
        exact mid [(3, .slice A3 k cap3), (6, .pointer (some ⟨b6, 0, none⟩)), (16, .slice (some ⟨bt, ot, none⟩) G.length tc), (17, .int .i64 (G.length : Nat)), (18, .int .i64 (k : Nat))] ⟨rfl, rfl, rfl, rfl, rfl, trivial⟩ ⟨A32, cap32, R32, rfl, rfl, rfl, by simpa using hO32⟩
    · rintro F ro7' L7' ⟨A32, cap32, R32, rfl, rfl, rfl, hO32⟩
      refine ufreeze fun ro7 hle7 hR7 => ?_
      have hS7 := OwnS.sl hO32 enc_de hR7
      refine region ?_
      refine op (y (x_move rfl) rfl ?_)
      refine op (y ((by first | exact x_loadOwn 0 _ ag_61 rfl rfl rfl rfl | exact x_loadOwn 1 _ ag_61 rfl rfl rfl rfl | exact x_loadOwn 2 _ ag_61 rfl rfl rfl rfl | exact x_loadOwn 3 _ ag_61 rfl rfl rfl rfl | exact x_loadOwn 4 _ ag_61 rfl rfl rfl rfl | exact x_loadOwn 5 _ ag_61 rfl rfl rfl rfl | exact x_loadOwn 6 _ ag_61 rfl rfl rfl rfl | exact x_loadOwn 7 _ ag_61 rfl rfl rfl rfl | exact x_loadOwn 8 _ ag_61 rfl rfl rfl rfl | exact x_loadOwn 9 _ ag_61 rfl rfl rfl rfl | exact x_loadOwn 10 _ ag_61 rfl rfl rfl rfl | exact x_loadOwn 11 _ ag_61 rfl rfl rfl rfl)) rfl ?_)
      refine op (e_slice1 rfl Tryd.underlying55 ti_61 rfl rfl (by decide) (by decide) rfl rfl rfl fun b36 => ?_)
      refine op (e_append1 1 rfl st_55 rfl rfl rfl hO rfl rfl (by omega) (by omega) (fun _ => rfl) fun A37 cap37 R37 hO37 => ?_)
      refine op (y (x_assign rfl) rfl ?_)
      refine nil ?_
      refine n_in ?_
      refine n_then ?_
      refine region ?_
      refine op (y (x_add rfl rfl _ (wr (by omega) (by omega))) rfl ?_)
      refine op (y (x_move rfl) rfl ?_)
      refine nil ?_
      refine drop0 ?_
      exact round (G.length - (k + 1)) [(3, .slice _ (k + 1) _), (16, .slice _ G.length tc), (17, .int .i64 (G.length : Nat)), (18, .int .i64 ((k + 1) : Nat))] (by omega) ⟨rfl, rfl, rfl, rfl, trivial⟩ ⟨k + 1, _, _, _, tgs ++ [⟨A32, cap32, (G[k]).s.tx⟩], rfl, rfl, rfl, by omega, hro.trans hle7, by simp [hlen], hO37.snoc (enc := encTG) (x := ⟨A32, cap32, (G[k]).s.tx⟩), by rw [List.map_append, hmp, take_snoc' hgk, List.map_append]; rfl, fun t htm => by rcases List.mem_append.1 htm with h | h; exact (hsl t h).mono hle7; rw [List.mem_singleton] at h; subst h; exact hS7⟩
  · try simp only [decide_eq_true_eq, decide_eq_false_iff_not, beq_iff_eq, bne_iff_ne, ne_eq, beq_eq_false_iff_ne, bne_eq_false_iff_eq, Bool.not_eq_true', Bool.not_eq_false', Bool.not_eq_true, Bool.not_eq_false, Decidable.not_not, Int.not_lt, Int.not_le] at h3
    refine exit ?_
    refine e_then ?_
    refine e_then ?_
    refine e_in ?_
    refine n_then ?_
    refine seq ?_
    obtain rfl : k = G.length := by omega
    rw [List.take_length] at hmp
    refine ufreeze fun ro9 hle9 hR9 => ?_
    have hS9 := (hO.cast hlen.symm rfl).sl enc_tg hR9
    refine said 3 (.slice A3 tgs.length cap3) rfl (by rw [hlen]) ?_
    refine region ?_
    refine op (y (x_move rfl) rfl ?_)
    refine op (y (x_assign rfl) rfl ?_)
    refine nil ?_
    refine n_then ?_
    refine ret ?_
    exact done rfl (.tmp rfl (.nil)) (hro.trans hle9) (L) (subF (by (repeat (first | exact List.Sublist.refl _ | apply List.Sublist.cons_cons | apply List.Sublist.cons)); done)) (⟨A3, cap3, tgs, rfl, hmp, ⟨hS9, fun t htm => (hsl t htm).mono hle9⟩, rfl⟩)

theorem Txs_c (yx : AX) (os : List Ob) (n : Nat) (ro : Ro) (L : List (List Blk)) (hy : yx.Ok os n ro) : CT Tryd.prog 48 [.pointer (some ⟨yx.a, 0, none⟩)].toArray ro (yx.L os n ++ L) (PTxs (yx.G.map (fun g => g.s.tx)) L) :=
  Txs_e yx.a yx.oA yx.oc os n yx.tA yx.tc yx.Rt yx.rb yx.eb yx.cb yx.ru yx.eu yx.cu yx.G ro L hy.t hy.g hy.inv hy.n

theorem Table_c (h : Hi) (A : Option Addr) (cA : Nat) (B : Option Addr) (cB : Nat) (ro : Ro) (L : List (List Blk)) (hh : SH ro A cA B cB h) (hn1 : h.os.length ≤ 100) (hn2 : h.es.length ≤ 600) (hI : HI h) (er : Nat → Addr) (hG : Glob er ro) :
    CT Tryd.prog 32 [.agg [.slice A h.os.length cA, .slice B h.es.length cB].toArray].toArray ro L (PTable h L) := by
  refine enter Tryd.func32 rfl Tryd.ntmps32 rfl ?_
  refine seq ?_
  refine region ?_
  refine op (e_box rfl rfl rfl fun b1 => ?_)
  refine op (y (x_assign rfl) rfl ?_)
  refine op (y (x_assign rfl) rfl ?_)
  refine nil ?_
  refine n_then ?_
  refine seq ?_
  refine region ?_
  refine op (y ((by first | exact x_loadOwn 0 _ ag_25 rfl rfl rfl rfl | exact x_loadOwn 1 _ ag_25 rfl rfl rfl rfl | exact x_loadOwn 2 _ ag_25 rfl rfl rfl rfl | exact x_loadOwn 3 _ ag_25 rfl rfl rfl rfl | exact x_loadOwn 4 _ ag_25 rfl rfl rfl rfl | exact x_loadOwn 5 _ ag_25 rfl rfl rfl rfl | exact x_loadOwn 6 _ ag_25 rfl rfl rfl rfl | exact x_loadOwn 7 _ ag_25 rfl rfl rfl rfl | exact x_loadOwn 8 _ ag_25 rfl rfl rfl rfl | exact x_loadOwn 9 _ ag_25 rfl rfl rfl rfl | exact x_loadOwn 10 _ ag_25 rfl rfl rfl rfl | exact x_loadOwn 11 _ ag_25 rfl rfl rfl rfl)) rfl ?_)
  refine op (e_call rfl fn_47 rfl rfl (taken_c h A cA B cB _ _ hh hn1 hn2 hI er hG) fun v8 ro8 L8 hle8 hp8 => ?_)
  obtain ⟨pv8, ev8, rfl, hev8, hcase8⟩ := hp8
  refine op (y (x_move rfl) rfl ?_)
  refine op (y (x_extract rfl rfl) rfl ?_)
  refine op (y (x_extract rfl rfl) rfl ?_)
  refine op (y (x_assign rfl) rfl ?_)
  refine op (y (x_assign rfl) rfl ?_)
  refine nil ?_
  refine n_then ?_
  refine seq ?_
  refine seq ?_
  refine region ?_
  refine op (y (x_move rfl) rfl ?_)
  refine op (y (x_ifNeNil Tryd.underlying43 rfl (by assumption)) rfl ?_)
  refine nil ?_
  refine n_then ?_
  refine cond rfl (fun h2 => ?_) (fun h2 => ?_)
  · try simp only [decide_eq_true_eq, decide_eq_false_iff_not, beq_iff_eq, bne_iff_ne, ne_eq, beq_eq_false_iff_ne, bne_eq_false_iff_eq, Bool.not_eq_true', Bool.not_eq_false', Bool.not_eq_true, Bool.not_eq_false, Decidable.not_not, Int.not_lt, Int.not_le] at h2
    refine seq ?_
    change isNilI ev8 = false at h2
    rcases hcase8 with ⟨hx, _⟩ | ⟨_, hno, rfl⟩
    · rw [hx] at h2; cases h2
    refine region ?_
    refine op (y (x_move rfl) rfl ?_)
    refine op (y (x_assign rfl) rfl ?_)
    refine op (y (x_assign rfl) rfl ?_)
    refine nil ?_
    refine n_then ?_
    refine ret ?_
    refine r_then ?_
    exact done rfl (.tmp rfl (.tmp rfl (.nil))) (hle8) (L) (subF (by (repeat (first | exact List.Sublist.refl _ | apply List.Sublist.cons_cons | apply List.Sublist.cons)); done)) (⟨none, 0, [], ev8, rfl, hev8, .inr ⟨h2, hno, rfl⟩, rfl⟩)
  · try simp only [decide_eq_true_eq, decide_eq_false_iff_not, beq_iff_eq, bne_iff_ne, ne_eq, beq_eq_false_iff_ne, bne_eq_false_iff_eq, Bool.not_eq_true', Bool.not_eq_false', Bool.not_eq_true, Bool.not_eq_false, Decidable.not_not, Int.not_lt, Int.not_le] at h2
    refine skip ?_
    refine n_then ?_
    refine seq ?_
    change isNilI ev8 = true at h2
    rcases hcase8.symm with ⟨hx, _⟩ | ⟨_, yx, hyt, rfl, hy, rfl⟩
    · rw [hx] at h2; cases h2
    refine region ?_
    refine op (y (x_move rfl) rfl ?_)
    refine op (e_call rfl fn_48 rfl rfl (Txs_c yx h.os h.es.length _ _ hy) fun v15 ro15 L15 hle15 hp15 => ?_)
    obtain ⟨A15, cap15, tgs, rfl, hmp, hS15, rfl⟩ := hp15
    refine op (y (x_assign rfl) rfl ?_)
    refine op (y (x_assign rfl) rfl ?_)
    refine nil ?_
    refine n_then ?_
    refine ret ?_
    exact done rfl (.tmp rfl (.tmp rfl (.nil))) (hle8.trans hle15) (L) (subF (by (repeat (first | exact List.Sublist.refl _ | apply List.Sublist.cons_cons | apply List.Sublist.cons)); done)) (⟨A15, cap15, tgs, .nilIface, rfl, IfV.nil, .inl ⟨rfl, ⟨_, hyt, by rw [hmp]; simp⟩, hS15⟩, rfl⟩)

theorem Check_c (h : Hi) (A : Option Addr) (cA : Nat) (B : Option Addr) (cB : Nat) (ro : Ro) (L : List (List Blk)) (hh : SH ro A cA B cB h) (hn1 : h.os.length ≤ 100) (hn2 : h.es.length ≤ 600) (hI : HI h) (er : Nat → Addr) (hG : Glob er ro) :
    CT Tryd.prog 34 [.agg [.slice A h.os.length cA, .slice B h.es.length cB].toArray].toArray ro L (PE ((takenM h).isSome = true) L) := by
  refine enter Tryd.func34 rfl Tryd.ntmps34 rfl ?_
  refine seq ?_
  refine region ?_
  refine op (e_box rfl rfl rfl fun b1 => ?_)
  refine op (y (x_assign rfl) rfl ?_)
  refine nil ?_
  refine n_then ?_
  refine seq ?_
  refine region ?_
  refine op (y ((by first | exact x_loadOwn 0 _ ag_25 rfl rfl rfl rfl | exact x_loadOwn 1 _ ag_25 rfl rfl rfl rfl | exact x_loadOwn 2 _ ag_25 rfl rfl rfl rfl | exact x_loadOwn 3 _ ag_25 rfl rfl rfl rfl | exact x_loadOwn 4 _ ag_25 rfl rfl rfl rfl | exact x_loadOwn 5 _ ag_25 rfl rfl rfl rfl | exact x_loadOwn 6 _ ag_25 rfl rfl rfl rfl | exact x_loadOwn 7 _ ag_25 rfl rfl rfl rfl | exact x_loadOwn 8 _ ag_25 rfl rfl rfl rfl | exact x_loadOwn 9 _ ag_25 rfl rfl rfl rfl | exact x_loadOwn 10 _ ag_25 rfl rfl rfl rfl | exact x_loadOwn 11 _ ag_25 rfl rfl rfl rfl)) rfl ?_)
  refine op (e_call rfl fn_47 rfl rfl (taken_c h A cA B cB _ _ hh hn1 hn2 hI er hG) fun v7 ro7 L7 hle7 hp7 => ?_)
  obtain ⟨pv7, ev7, rfl, hev7, hcase7⟩ := hp7
  refine op (y (x_move rfl) rfl ?_)
  refine op (y (x_extract rfl rfl) rfl ?_)
  refine op (y (x_extract rfl rfl) rfl ?_)
  refine op (y (x_assign rfl) rfl ?_)
  refine op (y (x_assign rfl) rfl ?_)
  refine nil ?_
  refine n_then ?_
  refine seq ?_
  refine region ?_
  refine op (y (x_move rfl) rfl ?_)
  refine op (y (x_assign rfl) rfl ?_)
  refine nil ?_
  refine n_then ?_
  refine ret ?_
  rcases hcase7 with ⟨hnil, yx, hyt, rfl, hy, rfl⟩ | ⟨hnil, hno, rfl⟩
  · exact done rfl (.tmp rfl (.nil)) (hle7) (L) (yl_sub _ _ _) (⟨hev7, ⟨fun _ => by rw [hyt]; rfl, fun _ => hnil⟩, rfl⟩)
  · exact done rfl (.tmp rfl (.nil)) (hle7) (L) (subF (by (repeat (first | exact List.Sublist.refl _ | apply List.Sublist.cons_cons | apply List.Sublist.cons)); done)) (⟨hev7, ⟨fun hx => (by change isNilI ev7 = true at hx; rw [hnil] at hx; cases hx), fun hx => (by rw [hno] at hx; cases hx)⟩, rfl⟩)

theorem Find_c (l : List TG) (A : Option Addr) (cap : Nat) (id : Int) (ro : Ro) (L : List (List Blk)) (hl : Sl ro 7 encTG A cap l) :
    CT Tryd.prog 44 [.slice A l.length cap, .int .i64 id].toArray ro L (PQ (findV (findM (l.map (·.tm)) id)) ro L) := by
  have hcap : l.length ≤ 9223372036854775807 := by have := hl.1; have := hl.2.1; unfold maxLen at this; omega
  refine enter Tryd.func44 rfl Tryd.ntmps44 rfl ?_
  refine seq ?_
  refine region ?_
  refine op (y (x_assign rfl) rfl ?_)
  refine op (y (x_assign rfl) rfl ?_)
  refine nil ?_
  refine n_then ?_
  refine seq ?_
  refine seq ?_
  refine region ?_
  refine op (y (x_move rfl) rfl ?_)
  refine op (y (x_lenSl sz_55 rfl) rfl ?_)
  refine op (y (x_move rfl) rfl ?_)
  refine nil ?_
  refine n_then ?_
  refine block ?_
  refine loop (fun m F ro' L' => ∃ (k : Nat), (m = l.length - k) ∧ (F = [(1, .int .i64 id), (8, .slice A l.length cap), (9, .int .i64 (l.length : Nat)), (10, .int .i64 (k : Nat))]) ∧ (ro = ro') ∧ (L = L') ∧ (k ≤ l.length) ∧ (∀ q : Nat, q < k → ∀ t, (l.map (·.tm))[q]? = some t → t.id ≠ id)) (l.length - 0) [(1, .int .i64 id), (8, .slice A l.length cap), (9, .int .i64 (l.length : Nat)), (10, .int .i64 (0 : Nat))] ⟨rfl, rfl, rfl, rfl, trivial⟩ ⟨0, rfl, rfl, rfl, rfl, by omega, by omega⟩ ?_
  rintro m F ro' L' ⟨k, rfl, rfl, rfl, rfl, hk, hall⟩
  refine seq ?_
  refine region ?_
  refine op (y (x_lss rfl rfl) rfl ?_)
  refine nil ?_
  refine n_then ?_
  refine seq ?_
  refine cond rfl (fun h2 => ?_) (fun h2 => ?_)
  · try simp only [decide_eq_true_eq, decide_eq_false_iff_not, beq_iff_eq, bne_iff_ne, ne_eq, beq_eq_false_iff_ne, bne_eq_false_iff_eq, Bool.not_eq_true', Bool.not_eq_false', Bool.not_eq_true, Bool.not_eq_false, Decidable.not_not, Int.not_lt, Int.not_le] at h2
    refine skip ?_
    refine n_then ?_
    refine seq ?_
    refine block ?_
    refine seq ?_
    obtain ⟨bbx, offx, rfl, hcx⟩ := hl.at_ (i := k) (by omega)
    have hx := List.getElem?_eq_getElem (show k < l.length from by omega)
    have hxm : (l.map (·.tm))[k]? = some (l[k]).tm := by rw [List.getElem?_map, hx]; rfl
    refine region ?_
    refine op (y (x_move rfl) rfl ?_)
    refine op (y (x_indexNat sz_55 rfl rfl (by omega)) rfl ?_)
    refine op (y (x_loadN ag_61 rfl rfl (CellsAt.ofRo (hcx k _ hx))) rfl ?_)
    refine op (e_alloc rfl zc_61 rfl fun b7 => ?_)
    refine op (y (x_assign rfl) rfl ?_)
    first | refine op (e_store 0 rfl rfl ts_61 rfl rfl rfl rfl rfl rfl ?_) | refine op (e_store 1 rfl rfl ts_61 rfl rfl rfl rfl rfl rfl ?_) | refine op (e_store 2 rfl rfl ts_61 rfl rfl rfl rfl rfl rfl ?_) | refine op (e_store 3 rfl rfl ts_61 rfl rfl rfl rfl rfl rfl ?_) | refine op (e_store 4 rfl rfl ts_61 rfl rfl rfl rfl rfl rfl ?_) | refine op (e_store 5 rfl rfl ts_61 rfl rfl rfl rfl rfl rfl ?_) | refine op (e_store 6 rfl rfl ts_61 rfl rfl rfl rfl rfl rfl ?_) | refine op (e_store 7 rfl rfl ts_61 rfl rfl rfl rfl rfl rfl ?_) | refine op (e_store 8 rfl rfl ts_61 rfl rfl rfl rfl rfl rfl ?_) | refine op (e_store 9 rfl rfl ts_61 rfl rfl rfl rfl rfl rfl ?_)
    refine nil ?_
    refine n_then ?_
    refine seq ?_
    refine region ?_
    refine op (y (x_fieldAddr fo_61_0 rfl) rfl ?_)
    refine op (y (x_load1 ag_3 rfl (by first | assumption | exact Cell.own 0 rfl rfl | exact Cell.own 1 rfl rfl | exact Cell.own 2 rfl rfl | exact Cell.own 3 rfl rfl | exact Cell.own 4 rfl rfl | exact Cell.own 5 rfl rfl | exact Cell.own 6 rfl rfl | exact Cell.own 7 rfl rfl | exact Cell.own 8 rfl rfl | exact Cell.own 9 rfl rfl | exact Cell.ofRo (by assumption))) rfl ?_)
    refine op (y (x_move rfl) rfl ?_)
    refine op (y (x_eql rfl rfl) rfl ?_)
    refine nil ?_
    refine n_then ?_
    refine cond rfl (fun h4 => ?_) (fun h4 => ?_)
    · try simp only [decide_eq_true_eq, decide_eq_false_iff_not, beq_iff_eq, bne_iff_ne, ne_eq, beq_eq_false_iff_ne, bne_eq_false_iff_eq, Bool.not_eq_true', Bool.not_eq_false', Bool.not_eq_true, Bool.not_eq_false, Decidable.not_not, Int.not_lt, Int.not_le] at h4
      refine seq ?_
      refine region ?_
      refine op (y (x_move rfl) rfl ?_)
      refine op (y (x_assign rfl) rfl ?_)
      refine op (y (x_assign rfl) rfl ?_)
      refine nil ?_
      refine n_then ?_
      refine ret ?_
      refine r_in ?_
      refine r_then ?_
      refine r_then ?_
      refine r_in ?_
      refine r_then ?_
      exact done rfl (.tmp rfl (.tmp rfl (.nil))) (Ro.le.refl _) (L) (subF (by (repeat (first | exact List.Sublist.refl _ | apply List.Sublist.cons_cons | apply List.Sublist.cons)); done)) (⟨by rw [findM_some hxm h4 hall]; rfl, rfl, rfl⟩)
    · try simp only [decide_eq_true_eq, decide_eq_false_iff_not, beq_iff_eq, bne_iff_ne, ne_eq, beq_eq_false_iff_ne, bne_eq_false_iff_eq, Bool.not_eq_true', Bool.not_eq_false', Bool.not_eq_true, Bool.not_eq_false, Decidable.not_not, Int.not_lt, Int.not_le] at h4
      refine skip ?_
      refine n_in ?_
      refine n_then ?_
      refine region ?_
      refine op (y (x_add rfl rfl _ (wr (by omega) (by omega))) rfl ?_)
      refine op (y (x_move rfl) rfl ?_)
      refine nil ?_
      refine drop0 ?_
      exact round (l.length - (k + 1)) [(1, .int .i64 id), (8, .slice _ l.length cap), (9, .int .i64 (l.length : Nat)), (10, .int .i64 ((k + 1) : Nat))] (by omega) ⟨rfl, rfl, rfl, rfl, trivial⟩ ⟨k + 1, rfl, rfl, rfl, rfl, by omega, upto (p := fun q => ∀ t, (l.map (·.tm))[q]? = some t → t.id ≠ id) hall (fun t htm => by rw [hxm] at htm; cases htm; exact h4)⟩
  · try simp only [decide_eq_true_eq, decide_eq_false_iff_not, beq_iff_eq, bne_iff_ne, ne_eq, beq_eq_false_iff_ne, bne_eq_false_iff_eq, Bool.not_eq_true', Bool.not_eq_false', Bool.not_eq_true, Bool.not_eq_false, Decidable.not_not, Int.not_lt, Int.not_le] at h2
    refine exit ?_
    refine e_then ?_
    refine e_then ?_
    refine e_in ?_
    refine n_then ?_
    refine seq ?_
    refine region ?_
    refine op (y (x_assign rfl) rfl ?_)
    refine op (y (x_assign rfl) rfl ?_)
    refine nil ?_
    refine n_then ?_
    refine ret ?_
    exact done rfl (.tmp rfl (.tmp rfl (.nil))) (Ro.le.refl _) (L) (subF (by (repeat (first | exact List.Sublist.refl _ | apply List.Sublist.cons_cons | apply List.Sublist.cons)); done)) (⟨by rw [findM_none (fun q hq => hall q (by simp at hq; omega))]; rfl, rfl, rfl⟩)

end Go.Proofs.YtijafcilfefafaaDoor
