/- The walks of graphs of numbers: what a node leads to, one edge behind the other. -/
import Derived.Test.YtlmeblhcipkgmaaGC
import Derived.Test.YtlmeblhcipkgmaaU21
namespace Go.Proofs.Ytlmeblhcipkgmaa
open Go Go.U
set_option maxRecDepth 20000
set_option linter.unusedSimpArgs false
set_option linter.unusedVariables false

open Go.RowKit
theorem QI.cong {S C C' : List (Int × Int)} {D : List Int} {a : Int} {todo : List Int} (h : QI S C D a todo) (hc : ∀ p, p ∈ C' ↔ p ∈ C) : QI S C' D a todo :=
  ⟨fun c d hm => h.snd c d ((hc _).1 hm), fun c d hm => h.fst c d ((hc _).1 hm), fun c hD d t => (hc _).2 (h.don c hD d t), h.tod, fun d hd => (h.p1 d hd).imp (hc _).2 id, fun c d hm hd => (h.p2 c d ((hc _).1 hm) hd).imp (hc _).2 id⟩
theorem RelG.i64 {x : Nat} {N : List Int} {E : List Ed} {R : List Blk} (h : RelG x N E R) {e : Ed} (he : e ∈ E) : I64 e.1 ∧ I64 e.2.1 ∧ I64 e.2.2 := by
  obtain ⟨G, mo, es, clk, I, h1, h2, h3, h4, h5, h6⟩ := h
  obtain ⟨a, b, c⟩ := e
  obtain ⟨p, M, q, ks, h7, h8, h9⟩ := mem_edg.1 (h4.mem_iff.1 he)
  exact ⟨(h2.okk _ h7).1, ((h2.okk _ h7).2 _ h8).1, ((h2.okk _ h7).2 _ h8).2 _ h9⟩
theorem RelG.i64N {x : Nat} {N : List Int} {E : List Ed} {R : List Blk} (h : RelG x N E R) {a : Int} (he : a ∈ N) : I64 a := by
  obtain ⟨G, mo, es, clk, I, h1, h2, h3, h4, h5, h6⟩ := h
  obtain ⟨g, h7, rfl⟩ := List.mem_map.1 (h3.mem_iff.1 he)
  exact (h2.okk _ h7).1
def mpk (a : Int) (ks : List Int) : List (Int × Int) := ks.map (fun b => (a, b))
theorem mem_mpk {a : Int} {ks : List Int} {p : Int × Int} : p ∈ mpk a ks ↔ p.1 = a ∧ p.2 ∈ ks := by
  obtain ⟨c, d⟩ := p
  unfold mpk
  rw [List.mem_map]
  constructor
  · rintro ⟨b, hb, e⟩; cases e; exact ⟨rfl, hb⟩
  · rintro ⟨rfl, h⟩; exact ⟨d, h, rfl⟩
theorem mpk_nodup {a : Int} {ks : List Int} (h : ks.Nodup) : (mpk a ks).Nodup := by
  unfold mpk
  rw [List.Nodup, List.pairwise_map]
  exact h.imp (fun h e => h (by simpa using e))
theorem mpk_add {a y : Int} {ks : List Int} (h : y ∉ ks) (p : Int × Int) : p ∈ mpk a (ks ++ [y]) ↔ p ∈ addP (mpk a ks) (a, y) := by
  obtain ⟨c, d⟩ := p
  rw [mem_addP, mem_mpk, mem_mpk, List.mem_append, List.mem_singleton]
  simp only [Prod.mk.injEq]
  grind
/-- a map of what a node leads to -/
def PMR (P : List (Int × Int)) (a : Int) (ro : Ro) (L : List (List Blk)) : Value → Ro → List (List Blk) → Prop := fun v ro' L' => ∃ mr es clk ks, v = .map (some mr) ∧ MapE encZ (im ks) es clk ∧ ks.Nodup ∧ (∀ b, b ∈ ks ↔ TG P a b) ∧ ro = ro' ∧ L' = [(mr, .map es clk)] :: L
theorem tg_len {P : List (Int × Int)} {a : Int} {ks : List Int} (hn : ks.Nodup) (h : ∀ b, b ∈ ks → TG P a b) : ks.length ≤ P.length := by
  have := nodup_le hn (m := P.map (·.2)) (fun b hb => (h b hb).snd)
  simpa using this

theorem GrReached_c (x : Nat) (N : List Int) (E : List Ed) (R : List Blk) (ro : Ro) (L : List (List Blk)) (hR : RelG x N E R) (hL : R ∈ L) (hnN : N.length ≤ 1000) (hnE : E.length ≤ 1000) (a : Int) :
    CT Try.prog 92 [.pointer (some ⟨x, 0, none⟩), .int .i64 a].toArray ro L (PMR (prE E) a ro L) := by
  refine enter Try.func92 rfl Try.ntmps92 rfl ?_
  have hpl := (prE_spec E).2.1
  refine seq ?_
  refine region ?_
  refine op (y (x_assign rfl) rfl ?_)
  refine nil ?_
  refine n_then ?_
  refine seq ?_
  refine region ?_
  refine op (e_makeMap rfl fun b8 => ?_)
  refine op (y (x_assign rfl) rfl ?_)
  refine nil ?_
  refine n_then ?_
  refine seq ?_
  refine region ?_
  refine op (y (x_move rfl) rfl ?_)
  refine op (y (x_move rfl) rfl ?_)
  refine op (e_call rfl fn_54 rfl rfl (GrOut_c x N E R _ _ hR (List.mem_cons_of_mem _ hL) (by omega) (by omega) a) fun v11 ro11 L11 hle11 hp11 => ?_)
  obtain ⟨A5, cap5, R5, rfl, hT, rfl, rfl⟩ := hp11
  have hbl : (BehindR (prE E) a).length ≤ (prE E).length := len_prs (nodup_lt (BehindR_spec (prE E) a).1) (fun b hb => ((BehindR_spec (prE E) a).2 b).1 hb)
  refine op (y (x_assign rfl) rfl ?_)
  refine nil ?_
  refine n_then ?_
  refine seq ?_
  refine block ?_
  refine loop (fun m F ro' L' => ∃ (ks : List Int) (es : Array MapEntry) (clk : Nat) (todo : List Int) (A5 : Option Addr) (cap5 : Nat) (R5 : List Blk), (m = ((prE E).length * (prE E).length - ks.length) * ((prE E).length + 1) + todo.length) ∧ (F = [(0, .pointer (some ⟨x, 0, none⟩)), (5, .map (some b8)), (6, .slice A5 todo.length cap5)]) ∧ (ro = ro') ∧ (L' = R5 :: [(b8, .map es clk)] :: L) ∧ (MapE encZ (im ks) es clk) ∧ (ks.Nodup) ∧ (QI (prE E) (mpk a ks) [] a todo) ∧ (OwnS 3 1 A5 todo.length cap5 (todo.flatMap encInt) R5) ∧ (todo.length ≤ (ks.length + 1) * (prE E).length)) (((prE E).length * (prE E).length - ([]).length) * ((prE E).length + 1) + ((BehindR (prE E) a)).length) [(0, .pointer (some ⟨x, 0, none⟩)), (5, .map (some b8)), (6, .slice _ ((BehindR (prE E) a)).length _)] ⟨rfl, rfl, rfl, trivial⟩ ⟨[], _, _, (BehindR (prE E) a), _, _, _, rfl, rfl, rfl, rfl, MapE.empty, by simp, QO.init.start (by simp) (BehindR_spec (prE E) a).2, hT, by simp; omega⟩ ?_
  rintro m F ro' L' ⟨ks, es, clk, todo, A5, cap5, R5, rfl, rfl, rfl, rfl, hE, hks, hQ, hT, htl⟩
  have hcl := clo_len (mpk_nodup hks) hQ.snd
  rw [show (mpk a ks).length = ks.length by simp [mpk]] at hcl
  have hnn : (prE E).length * (prE E).length ≤ 1000 * 1000 := Nat.mul_le_mul (by omega) (by omega)
  refine seq ?_
  refine seq ?_
  refine region ?_
  refine op (y (x_move rfl) rfl ?_)
  refine op (y (x_lenSl sz_23 rfl) rfl ?_)
  refine op (y (x_gtr rfl rfl) rfl ?_)
  refine nil ?_
  refine n_then ?_
  refine cond rfl (fun h3 => ?_) (fun h3 => ?_)
  · try simp only [decide_eq_true_eq, decide_eq_false_iff_not, beq_iff_eq, bne_iff_ne, ne_eq, beq_eq_false_iff_ne, bne_eq_false_iff_eq, Bool.not_eq_true', Bool.not_eq_false', Bool.not_eq_true, Bool.not_eq_false, Decidable.not_not, Int.not_lt, Int.not_le] at h3
    refine skip ?_
    refine n_then ?_
    refine block ?_
    refine seq ?_
    have hpos : 0 < todo.length := by omega
    obtain ⟨y1, tl, rfl⟩ : ∃ y1 tl, todo = y1 :: tl := by
      cases todo with
      | nil => simp at hpos
      | cons y1 tl => exact ⟨y1, tl, rfl⟩
    obtain ⟨b5, off5, cur5, rfl, rfl, y2, hy2, hc5⟩ := OwnS.intAt hT (k := 0) (by simp) rfl
    simp only [List.getElem?_cons_zero, Option.some.injEq] at hy2
    subst hy2
    have hT2 := OwnS.tail (v := .int .i64 y1) (xs := tl.flatMap encInt) hT
    have htl2 : tl.length + 1 ≤ (ks.length + 1) * (prE E).length := by simpa using htl
    have hcs : (ks.length + 1) * (prE E).length ≤ (1000 * 1000 + 1) * 1000 := Nat.mul_le_mul (by omega) (by omega)
    refine region ?_
    refine op (y (x_move rfl) rfl ?_)
    refine op (y (x_indexNat (j := 0) sz_23 rfl rfl (by omega)) rfl ?_)
    refine op (y (x_load1 ag_3 rfl (Cell.own 0 rfl hc5)) rfl ?_)
    refine op (y (x_assign rfl) rfl ?_)
    refine nil ?_
    refine n_then ?_
    refine seq ?_
    refine region ?_
    refine op (y (x_move rfl) rfl ?_)
    refine op (y (x_sliceTl tl.length sz_23 rfl) rfl ?_)
    refine op (y (x_assign rfl) rfl ?_)
    refine nil ?_
    refine n_then ?_
    refine seq ?_
    refine region ?_
    refine op (y (x_move rfl) rfl ?_)
    refine op (y (x_move rfl) rfl ?_)
    refine op (y (x_lookupV Try.underlying110 kI zc_4 rfl rfl (mem1 (mem0 (List.mem_singleton.2 rfl))) hE (mget_im hks)) rfl ?_)
    refine op (y (x_not rfl) rfl ?_)
    refine nil ?_
    refine n_then ?_
    refine cond rfl (fun h6 => ?_) (fun h6 => ?_)
    · try simp only [decide_eq_true_eq, decide_eq_false_iff_not, beq_iff_eq, bne_iff_ne, ne_eq, beq_eq_false_iff_ne, bne_eq_false_iff_eq, Bool.not_eq_true', Bool.not_eq_false', Bool.not_eq_true, Bool.not_eq_false, Decidable.not_not, Int.not_lt, Int.not_le] at h6
      refine seq ?_
      refine region ?_
      refine op (y (x_move rfl) rfl ?_)
      refine op (y (x_move rfl) rfl ?_)
      refine op (e_mapSet 1 Try.underlying110 kI rfl rfl rfl rfl hE (fun _ _ => rfl) fun es2 clk2 hE2 => ?_)
      rw [mset_im] at hE2
      refine nil ?_
      refine n_then ?_
      refine region ?_
      refine op (y (x_move rfl) rfl ?_)
      refine op (y (x_move rfl) rfl ?_)
      refine op (y (x_move rfl) rfl ?_)
      refine op (e_call rfl fn_54 rfl rfl (GrOut_c x N E R _ _ hR (List.mem_cons_of_mem _ (List.mem_cons_of_mem _ hL)) (by omega) (by omega) _) fun v29 ro29 L29 hle29 hp29 => ?_)
      obtain ⟨A7, cap7, R7, rfl, hO7, rfl, rfl⟩ := hp29
      have hbl7 : (BehindR (prE E) y1).length ≤ (prE E).length := len_prs (nodup_lt (BehindR_spec (prE E) y1).1) (fun b hb => ((BehindR_spec (prE E) y1).2 b).1 hb)
      refine op (e_append 1 rfl st_23 rfl rfl rfl hT2 (hO7.src (fun q hq => List.mem_append_left _ hq)) (int_ok _) (by omega) (by omega) (fun _ => rfl) fun A8 cap8 R8 hO8 => ?_)
      refine drop0 ?_
      refine op (y (x_assign rfl) rfl ?_)
      refine nil ?_
      refine n_in ?_
      have hnk : y1 ∉ ks := by simpa using h6
      rw [if_neg hnk] at hE2
      have hQ2 := QI.cong (hQ.add (more := BehindR (prE E) y1) (BehindR_spec (prE E) y1).2) (mpk_add hnk)
      have hks2 : (ks ++ [y1]).Nodup := by rw [List.nodup_append]; exact ⟨hks, by simp, fun u hu w hw e => by rw [List.mem_singleton.1 hw] at e; subst e; exact hnk hu⟩
      have hcl2 : ks.length + 1 ≤ (prE E).length * (prE E).length := by
        have h := clo_len (mpk_nodup hks2) hQ2.snd
        simpa [mpk] using h
      rw [← List.flatMap_append, ← List.length_append] at hO8
      rw [← List.length_append]
      exact round (((prE E).length * (prE E).length - ((ks ++ [y1])).length) * ((prE E).length + 1) + ((tl ++ BehindR (prE E) y1)).length) [(0, .pointer (some ⟨x, 0, none⟩)), (5, .map (some b8)), (6, .slice _ ((tl ++ BehindR (prE E) y1)).length _)] (by simp only [List.length_append, List.length_cons, List.length_nil]; exact measure_lt hcl2 hbl7) ⟨rfl, rfl, rfl, trivial⟩ ⟨(ks ++ [y1]), _, _, (tl ++ BehindR (prE E) y1), _, _, _, rfl, rfl, rfl, rfl, hE2, hks2, hQ2, hO8, by simp only [List.length_append, List.length_cons, List.length_nil, Nat.add_mul] at htl2 ⊢; omega⟩
    · try simp only [decide_eq_true_eq, decide_eq_false_iff_not, beq_iff_eq, bne_iff_ne, ne_eq, beq_eq_false_iff_ne, bne_eq_false_iff_eq, Bool.not_eq_true', Bool.not_eq_false', Bool.not_eq_true, Bool.not_eq_false, Decidable.not_not, Int.not_lt, Int.not_le] at h6
      refine skip ?_
      refine n_in ?_
      have hyk : y1 ∈ ks := by simpa using h6
      exact round (((prE E).length * (prE E).length - ks.length) * ((prE E).length + 1) + tl.length) [(0, .pointer (some ⟨x, 0, none⟩)), (5, .map (some b8)), (6, .slice _ tl.length _)] (by simp only [List.length_cons]; omega) ⟨rfl, rfl, rfl, trivial⟩ ⟨ks, _, _, tl, _, _, _, rfl, rfl, rfl, rfl, hE, hks, hQ.skip (mem_mpk.2 ⟨rfl, hyk⟩), hT2, by omega⟩
  · try simp only [decide_eq_true_eq, decide_eq_false_iff_not, beq_iff_eq, bne_iff_ne, ne_eq, beq_eq_false_iff_ne, bne_eq_false_iff_eq, Bool.not_eq_true', Bool.not_eq_false', Bool.not_eq_true, Bool.not_eq_false, Decidable.not_not, Int.not_lt, Int.not_le] at h3
    refine exit ?_
    refine e_then ?_
    refine e_then ?_
    refine e_in ?_
    refine n_then ?_
    refine seq ?_
    refine region ?_
    refine op (y (x_move rfl) rfl ?_)
    refine op (y (x_assign rfl) rfl ?_)
    refine nil ?_
    refine n_then ?_
    refine ret ?_
    have ht0 : todo = [] := List.eq_nil_of_length_eq_zero (by omega)
    subst ht0
    have hQ3 := hQ.fin
    refine drop0 ?_
    exact done rfl (.tmp rfl (.nil)) (Ro.le.refl _) (_) (⟨_, .refl _, .refl _⟩) (⟨b8, es, clk, ks, rfl, hE, hks, fun b => ⟨fun hb => hQ3.snd a b (mem_mpk.2 ⟨rfl, hb⟩), fun t => (mem_mpk.1 (hQ3.don a (by simp) b t)).2⟩, rfl, rfl⟩)

theorem GrReach_c (x : Nat) (N : List Int) (E : List Ed) (R : List Blk) (ro : Ro) (L : List (List Blk)) (hR : RelG x N E R) (hL : R ∈ L) (hnN : N.length ≤ 1000) (hnE : E.length ≤ 1000) (a : Int) :
    CT Try.prog 53 [.pointer (some ⟨x, 0, none⟩), .int .i64 a].toArray ro L (fun v ro' L' => ∃ to, RS (prE E) a to ∧ PN 3 1 encInt to ro L v ro' L') := by
  refine enter Try.func53 rfl Try.ntmps53 rfl ?_
  have hpl := (prE_spec E).2.1
  refine seq ?_
  refine region ?_
  refine op (y (x_assign rfl) rfl ?_)
  refine nil ?_
  refine n_then ?_
  refine seq ?_
  refine region ?_
  refine op (y (x_move rfl) rfl ?_)
  refine op (y (x_move rfl) rfl ?_)
  refine op (e_call rfl fn_92 rfl rfl (GrReached_c x N E R _ _ hR hL hnN hnE a) fun v7 ro7 L7 hle7 hp7 => ?_)
  obtain ⟨mr, es, clk, ks, rfl, hE, hks, hmem, rfl, rfl⟩ := hp7
  have hkl := tg_len hks (fun b hb => (hmem b).1 hb)
  refine op (e_call rfl fn_87 rfl rfl (KeysI_c _ _ _) fun v8 ro8 L8 hle8 hp8 => ?_)
  obtain ⟨bx, rfl, rfl, rfl⟩ := hp8
  have hok9 : ∀ k ∈ ks, I64 k := fun k hk => by
    obtain ⟨q, hq, rfl⟩ := List.mem_map.1 ((hmem k).1 hk).snd
    obtain ⟨q1, q2⟩ := q
    obtain ⟨c, hc⟩ := ((prE_spec E).2.2 _ _).1 hq
    exact (hR.i64 hc).2.1
  refine op (e_call rfl fn_83 rfl rfl (SortedB_c ks _ bx _ _ (.inr ⟨mr, es, clk, rfl, mem1 (mem0 (List.mem_singleton.2 rfl)), hE⟩) hok9 (by omega) (mem0 (List.mem_singleton.2 rfl))) fun v9 ro9 L9 hle9 hp9 => ?_)
  obtain ⟨A, cap, R2, rfl, hO, rfl, rfl⟩ := hp9
  have hRS : RS (prE E) a (srt ks) := ⟨srt_sorted hks, fun b => by rw [mem_srt]; exact hmem b⟩
  refine op (y (x_assign rfl) rfl ?_)
  refine nil ?_
  refine n_then ?_
  refine ret ?_
  refine drop1 ?_
  refine drop1 ?_
  exact done rfl (.tmp rfl (.nil)) (Ro.le.refl _) (_) (⟨_, .refl _, .refl _⟩) (⟨srt ks, hRS, _, _, _, rfl, hO, rfl, rfl⟩)

end Go.Proofs.Ytlmeblhcipkgmaa
namespace Go.Proofs.Ytlmeblhcipkgmaa
open Go Go.U
set_option maxRecDepth 20000
set_option linter.unusedSimpArgs false
set_option linter.unusedVariables false

open Go.RowKit
abbrev Ob (E : List Ed) : Int → List Int := fun a => BehindR (prE E) a
theorem mem_Ob {E : List Ed} {a b : Int} : b ∈ Ob E a ↔ ∃ c, (a, b, c) ∈ E := by rw [(BehindR_spec _ a).2, (prE_spec E).2.2]
theorem outs_of {G : GrN} {es : Array MapEntry} {clk : Nat} {I : List Blk} {E : List Ed} (hA : GrI G es clk I) (hE : E.Perm (edg G)) (hNe : ∀ g ∈ G, ∀ h ∈ g.2.2, h.2.2 ≠ []) {a : Int} {p : Nat} {M : List (Int × Nat × List Int)} (hm : (a, p, M) ∈ G) (b : Int) : b ∈ M.map (·.1) ↔ b ∈ Ob E a := by
  rw [mem_Ob, List.mem_map]
  constructor
  · rintro ⟨⟨b', q, ks⟩, h, rfl⟩
    obtain ⟨c, hc⟩ : ∃ c, c ∈ ks := List.exists_mem_of_ne_nil _ (hNe _ hm _ h)
    exact ⟨c, hE.mem_iff.2 (mem_edg.2 ⟨p, M, q, ks, hm, h, hc⟩)⟩
  · rintro ⟨c, hc⟩
    obtain ⟨p', M', q, ks, h1, h2, h3⟩ := mem_edg.1 (hE.mem_iff.1 hc)
    obtain ⟨rfl, rfl⟩ := keyg_uniq hA.nodup hm h1
    exact ⟨_, h2, rfl⟩
theorem RelG.ob {x : Nat} {N : List Int} {E : List Ed} {R : List Blk} (h : RelG x N E R) (a b : Int) (hb : b ∈ Ob E a) : a ∈ N := by
  obtain ⟨c, hc⟩ := mem_Ob.1 hb
  exact h.fstE hc
/-- how far the nodes are -/
def FarM (E : List Ed) (N : List Int) (k : Int) (D : Int → Option Nat) (m : List (Int × Value)) : Prop := ∀ a, mget m a = (D a).map (fun d => Value.int .i64 (d : Nat))
def PF (E : List Ed) (N : List Int) (k : Int) (ro : Ro) (L : List (List Blk)) : Value → Ro → List (List Blk) → Prop := fun v ro' L' => ∃ mf m es clk, v = .map (some mf) ∧ MapE encZ m es clk ∧ FarM E N k (fin (Ob E) N k) m ∧ ro = ro' ∧ L' = [(mf, .map es clk)] :: L
def nwf (E : List Ed) (N : List Int) (k : Int) (n : Nat) (a : Int) : Bool := decide (fr (Ob E) N k (n + 1) a = some (n + 1))
theorem nwf_met {E : List Ed} {N : List Int} {k : Int} {n : Nat} {a : Int} (hN : ∀ a b, b ∈ Ob E a → a ∈ N) (h : (fr (Ob E) N k n a).isSome = true) : nwf E N k n a = false := by
  obtain ⟨d, hd⟩ := Option.isSome_iff_exists.1 h
  have h1 := ((fr_spec hN _ _ _).1 hd).1
  refine decide_eq_false fun h2 => ?_
  rw [fr_keep hd] at h2
  cases h2
  omega
def frs (E : List Ed) (N : List Int) (k : Int) (n : Nat) (l : List Int) : List Int := l.filter (nwf E N k n)

theorem GrFar_c (x : Nat) (N : List Int) (E : List Ed) (R : List Blk) (ro : Ro) (L : List (List Blk)) (hR : RelG x N E R) (hL : R ∈ L) (hnN : N.length ≤ 1000) (hnE : E.length ≤ 1000) (k : Int) :
    CT Try.prog 91 [.pointer (some ⟨x, 0, none⟩), .int .i64 k].toArray ro L (PF E N k ro L) := by
  refine enter Try.func91 rfl Try.ntmps91 rfl ?_
  have hRP := hR
  obtain ⟨G, mo, es, clk, I, hRB, hA, hN, hE, hGl, hNe⟩ := hR
  have hroot := relB_root hRB hL
  have hmap := relB_map hRB hL
  have hin := relB_in hRB hL
  have hnd := hA.nodup
  have hNO := RelG.ob hRP
  refine seq ?_
  refine region ?_
  refine op (y (x_assign rfl) rfl ?_)
  refine nil ?_
  refine n_then ?_
  refine seq ?_
  refine region ?_
  refine op (e_makeMap rfl fun b17 => ?_)
  refine op (y (x_assign rfl) rfl ?_)
  refine nil ?_
  refine n_then ?_
  refine seq ?_
  refine region ?_
  refine op (y (x_assign rfl) rfl ?_)
  refine nil ?_
  refine n_then ?_
  refine block ?_
  refine loop (fun m F ro' L' => ∃ (n : Nat) (mq : List (Int × Value)) (esf : Array MapEntry) (clkf : Nat), (m = N.length + 1 - n) ∧ (F = [(0, .pointer (some ⟨x, 0, none⟩)), (1, .int .i64 k), (5, .map (some b17)), (6, .int .i64 ((n + 1 : Nat) : Int))]) ∧ (ro = ro') ∧ (L' = [(b17, .map esf clkf)] :: L) ∧ (n ≤ N.length) ∧ (MapE encZ mq esf clkf) ∧ (FarM E N k (fr (Ob E) N k n) mq)) (N.length + 1 - 0) [(0, .pointer (some ⟨x, 0, none⟩)), (1, .int .i64 k), (5, .map (some b17)), (6, .int .i64 ((0 + 1 : Nat) : Int))] ⟨rfl, rfl, rfl, rfl, trivial⟩ ⟨0, [], #[], 0, rfl, rfl, rfl, rfl, by omega, MapE.empty, fun a => rfl⟩ ?_
  rintro m F ro' L' ⟨n, mq, esf, clkf, rfl, rfl, rfl, rfl, hn, hEf, hmf⟩
  refine seq ?_
  refine block ?_
  refine seq ?_
  refine region ?_
  refine op (y (x_assign rfl) rfl ?_)
  refine nil ?_
  refine n_then ?_
  refine seq ?_
  refine seq ?_
  refine region ?_
  refine op (y (x_move rfl) rfl ?_)
  refine op (y (x_nilPtr rfl) rfl ?_)
  refine op (y (x_fieldAddr fo_120_0 rfl) rfl ?_)
  refine op (y (x_load1 ag_118 rfl (Cell.blk (mem1 hroot) rfl)) rfl ?_)
  refine op (e_range rfl Try.underlying118 rfl (mem1 hmap) fun b24 => ?_)
  refine emp ?_
  refine nil ?_
  refine n_then ?_
  refine block ?_
  refine loop (fun m F ro' L' => ∃ (Gs : GrN) (Gr : GrN) (rem : List (Int × Value)) (seen : Array Nat) (A7 : Option Addr) (cap7 : Nat) (R7 : List Blk), (m = rem.length) ∧ (F = [(0, .pointer (some ⟨x, 0, none⟩)), (1, .int .i64 k), (5, .map (some b17)), (6, .int .i64 ((n + 1 : Nat) : Int)), (24, .pointer (some ⟨b24, 0, none⟩)), (7, .slice A7 (frs E N k n (Gs.map (·.1))).length cap7)]) ∧ (ro = ro') ∧ (L' = R7 :: [(b24, .mapIter (some mo) clk seen clk)] :: [(b17, .map esf clkf)] :: L) ∧ (rem.Perm (omg Gr)) ∧ ((Gs ++ Gr).Perm G) ∧ (IterM encZ es clk seen rem) ∧ (OwnS 3 1 A7 (frs E N k n (Gs.map (·.1))).length cap7 ((frs E N k n (Gs.map (·.1))).flatMap encInt) R7)) ((omg G).length) [(0, .pointer (some ⟨x, 0, none⟩)), (1, .int .i64 k), (5, .map (some b17)), (6, .int .i64 ((n + 1 : Nat) : Int)), (24, .pointer (some ⟨b24, 0, none⟩)), (7, .slice none (frs E N k n ((([] : GrN)).map (·.1))).length 0)] ⟨rfl, rfl, rfl, rfl, rfl, rfl, trivial⟩ ⟨([] : GrN), G, omg G, #[], none, 0, [], rfl, rfl, rfl, rfl, .refl _, by simp, hA.outer.iter, OwnS.none_ 3 1⟩ ?_
  rintro m F ro' L' ⟨Gs, Gr, rem, seen, A7, cap7, R7, rfl, rfl, rfl, rfl, hrem, hG, hIt, hT⟩
  refine seq ?_
  refine region ?_
  refine op (e_next 1 rfl rfl rfl (mem1 (mem1 (mem1 hmap))) (hA.outer) (hIt) (fun _ => rfl) (fun hend => ?_) (fun kk vv rem2 seen2 hrem2 hI2 hl2 => ?_))
  · skip
    subst hend
    have hGr0 : Gr = [] := List.eq_nil_of_length_eq_zero (by have := hrem.length_eq; simpa [omg] using this.symm)
    subst hGr0
    have hGp : Gs.Perm G := by simpa using hG
    have hfm : ∀ a, a ∈ frs E N k n (Gs.map (·.1)) ↔ Lst (Ob E) k (n + 1) a := fun a => by
      unfold frs nwf
      rw [List.mem_filter, decide_eq_true_eq, fr_lst hNO]
      exact ⟨fun h => h.2, fun h => ⟨(hGp.map (·.1)).mem_iff.2 (hN.mem_iff.1 (h.inN hNO)), h⟩⟩
    have hfl : (frs E N k n (Gs.map (·.1))).length ≤ 1000 := by
      have h1 : (frs E N k n (Gs.map (·.1))).length ≤ (Gs.map (·.1)).length := List.length_filter_le _ _
      have h2 := (hGp.map (·.1)).length_eq
      have h3 := hN.length_eq
      have h4 : (nds G).length = (G.map (·.1)).length := rfl
      omega
    refine swap0 ?_
    refine drop0 ?_
    generalize frs E N k n (Gs.map (·.1)) = fl at *
    refine op (y (x_extract rfl rfl) rfl ?_)
    refine nil ?_
    refine n_then ?_
    refine seq ?_
    refine condF rfl ?_
    refine exit ?_
    refine e_then ?_
    refine e_then ?_
    refine e_in ?_
    refine n_then ?_
    refine seq ?_
    refine seq ?_
    refine region ?_
    refine op (y (x_move rfl) rfl ?_)
    refine op (y (x_lenSl sz_23 rfl) rfl ?_)
    refine op (y (x_eql rfl rfl) rfl ?_)
    refine nil ?_
    refine n_then ?_
    refine cond rfl (fun h16 => ?_) (fun h16 => ?_)
    · try simp only [decide_eq_true_eq, decide_eq_false_iff_not, beq_iff_eq, bne_iff_ne, ne_eq, beq_eq_false_iff_ne, bne_eq_false_iff_eq, Bool.not_eq_true', Bool.not_eq_false', Bool.not_eq_true, Bool.not_eq_false, Decidable.not_not, Int.not_lt, Int.not_le] at h16
      refine seq ?_
      refine region ?_
      refine op (y (x_move rfl) rfl ?_)
      refine op (y (x_assign rfl) rfl ?_)
      refine nil ?_
      refine n_then ?_
      refine ret ?_
      refine r_then ?_
      refine r_in ?_
      refine r_then ?_
      refine r_then ?_
      refine r_in ?_
      have hnil : fl = [] := List.eq_nil_of_length_eq_zero (by omega)
      subst hnil
      refine drop0 ?_
      exact done rfl (.tmp rfl (.nil)) (Ro.le.refl _) (_) (⟨_, .refl _, .refl _⟩) (⟨b17, mq, esf, clkf, rfl, hEf, fun a => by rw [hmf, fr_last hNO (fun a h => absurd ((hfm a).2 h) (by simp))], rfl, rfl⟩)
    · try simp only [decide_eq_true_eq, decide_eq_false_iff_not, beq_iff_eq, bne_iff_ne, ne_eq, beq_eq_false_iff_ne, bne_eq_false_iff_eq, Bool.not_eq_true', Bool.not_eq_false', Bool.not_eq_true, Bool.not_eq_false, Decidable.not_not, Int.not_lt, Int.not_le] at h16
      refine skip ?_
      refine n_then ?_
      refine seq ?_
      refine region ?_
      refine op (y (x_move rfl) rfl ?_)
      refine op (y (x_lenSl sz_23 rfl) rfl ?_)
      refine op (y (x_move rfl) rfl ?_)
      refine nil ?_
      refine n_then ?_
      refine block ?_
      refine loop (fun m F ro' L' => ∃ (j : Nat) (m2 : List (Int × Value)) (esf2 : Array MapEntry) (clkf2 : Nat), (m = fl.length - j) ∧ (F = [(0, .pointer (some ⟨x, 0, none⟩)), (1, .int .i64 k), (5, .map (some b17)), (6, .int .i64 ((n + 1 : Nat) : Int)), (78, .slice A7 fl.length cap7), (79, .int .i64 (fl.length : Nat)), (80, .int .i64 (j : Nat))]) ∧ (ro = ro') ∧ (L' = R7 :: [(b17, .map esf2 clkf2)] :: L) ∧ (j ≤ fl.length) ∧ (MapE encZ m2 esf2 clkf2) ∧ (∀ a, mget m2 a = if a ∈ fl.take j then some (.int .i64 ((n + 1 : Nat) : Int)) else (fr (Ob E) N k n a).map (fun d => Value.int .i64 (d : Nat)))) (fl.length - 0) [(0, .pointer (some ⟨x, 0, none⟩)), (1, .int .i64 k), (5, .map (some b17)), (6, .int .i64 ((n + 1 : Nat) : Int)), (78, .slice A7 fl.length cap7), (79, .int .i64 (fl.length : Nat)), (80, .int .i64 (0 : Nat))] ⟨rfl, rfl, rfl, rfl, rfl, rfl, rfl, trivial⟩ ⟨0, mq, _, _, rfl, rfl, rfl, rfl, by omega, hEf, fun a => by rw [hmf]; simp⟩ ?_
      rintro m F ro' L' ⟨j, m2, esf2, clkf2, rfl, rfl, rfl, rfl, hj, hE2, hm2⟩
      refine seq ?_
      refine region ?_
      refine op (y (x_lss rfl rfl) rfl ?_)
      refine nil ?_
      refine n_then ?_
      refine seq ?_
      refine cond rfl (fun h19 => ?_) (fun h19 => ?_)
      · try simp only [decide_eq_true_eq, decide_eq_false_iff_not, beq_iff_eq, bne_iff_ne, ne_eq, beq_eq_false_iff_ne, bne_eq_false_iff_eq, Bool.not_eq_true', Bool.not_eq_false', Bool.not_eq_true, Bool.not_eq_false, Decidable.not_not, Int.not_lt, Int.not_le] at h19
        refine skip ?_
        refine n_then ?_
        refine seq ?_
        refine block ?_
        refine seq ?_
        have hjl : j < fl.length := by omega
        have hT2 := hT
        obtain ⟨b5, off5, cur5, rfl, rfl, y2, hy2, hc5⟩ := OwnS.intAt hT hjl rfl
        refine region ?_
        refine op (y (x_indexNat sz_23 rfl rfl (by omega)) rfl ?_)
        refine op (y (x_load1 ag_3 rfl (Cell.own 0 rfl hc5)) rfl ?_)
        refine op (y (x_assign rfl) rfl ?_)
        refine nil ?_
        refine n_then ?_
        refine region ?_
        refine op (y (x_move rfl) rfl ?_)
        refine op (y (x_move rfl) rfl ?_)
        refine op (y (x_move rfl) rfl ?_)
        refine op (e_mapSet 1 Try.underlying117 kI rfl rfl rfl rfl hE2 (fun _ _ => rfl) fun es4 clk4 hE4 => ?_)
        refine nil ?_
        refine n_in ?_
        refine n_then ?_
        refine region ?_
        refine op (y (x_add rfl rfl _ (wr (by omega) (by omega))) rfl ?_)
        refine op (y (x_move rfl) rfl ?_)
        refine nil ?_
        exact round (fl.length - (j + 1)) [(0, .pointer (some ⟨x, 0, none⟩)), (1, .int .i64 k), (5, .map (some b17)), (6, .int .i64 ((n + 1 : Nat) : Int)), (78, .slice _ fl.length cap7), (79, .int .i64 (fl.length : Nat)), (80, .int .i64 ((j + 1) : Nat))] (by omega) ⟨rfl, rfl, rfl, rfl, rfl, rfl, rfl, trivial⟩ ⟨j + 1, _, _, _, rfl, rfl, rfl, rfl, by omega, hE4, fun a => by
            rw [mget_mset, hm2, take_snoc' hy2]
            by_cases h1 : y2 = a
            · subst h1; simp
            · have h3 : ¬ a = y2 := fun e => h1 e.symm
              simp [h1, h3]⟩
      · try simp only [decide_eq_true_eq, decide_eq_false_iff_not, beq_iff_eq, bne_iff_ne, ne_eq, beq_eq_false_iff_ne, bne_eq_false_iff_eq, Bool.not_eq_true', Bool.not_eq_false', Bool.not_eq_true, Bool.not_eq_false, Decidable.not_not, Int.not_lt, Int.not_le] at h19
        refine exit ?_
        refine e_then ?_
        refine e_then ?_
        refine e_in ?_
        refine n_in ?_
        refine n_then ?_
        refine region ?_
        refine op (y (x_move rfl) rfl ?_)
        refine op (y (x_add rfl rfl _ (wr (by omega) (by omega))) rfl ?_)
        refine op (y (x_assign rfl) rfl ?_)
        refine nil ?_
        have hje : j = fl.length := by omega
        subst hje
        rw [List.take_length] at hm2
        have hfe : ∃ a, a ∈ fl := by
          cases hfl2 : fl with
          | nil => rw [hfl2] at h16; simp at h16
          | cons a l => exact ⟨a, by simp⟩
        obtain ⟨af, haf⟩ := hfe
        have hnl := ((hfm af).1 haf).le hNO
        refine drop0 ?_
        exact round (N.length + 1 - (n + 1)) [(0, .pointer (some ⟨x, 0, none⟩)), (1, .int .i64 k), (5, .map (some b17)), (6, .int .i64 (((n + 1) + 1 : Nat) : Int))] (by omega) ⟨rfl, rfl, rfl, rfl, trivial⟩ ⟨n + 1, _, _, _, rfl, rfl, rfl, rfl, hnl, hE2, fun a => by
            rw [hm2]
            by_cases h1 : a ∈ fl
            · rw [if_pos h1, fr_new ((hfm a).1 h1) hNO]; rfl
            · rw [if_neg h1]
              cases hfn : fr (Ob E) N k n a with
              | some d => rw [fr_keep hfn]
              | none => rw [fr_none n a hfn (fun h => h1 ((hfm a).2 h)) hNO]⟩
  · skip
    obtain ⟨ka, hka⟩ : ∃ z, z = kk := ⟨_, rfl⟩
    subst hka
    obtain ⟨sa, hsa⟩ : ∃ z, z = seen2 := ⟨_, rfl⟩
    subst hsa
    have hIa := hI2
    have hla := hl2
    obtain ⟨p, M, Gr2, hGr2, rfl, hrem3⟩ := next_omg hrem hrem2
    have hG2 : (Gs ++ (ka, p, M) :: Gr2).Perm G := (hGr2.symm.append_left Gs).trans hG
    have hG3 : ((Gs ++ [(ka, p, M)]) ++ Gr2).Perm G := by simpa using hG2
    have hmg : (ka, p, M) ∈ G := hG2.mem_iff.1 (by simp)
    have hrl : rem.length = rem2.length + 1 := by simpa using hrem2.length_eq
    obtain ⟨ra, hra⟩ : ∃ z, z = rem2 := ⟨_, rfl⟩
    subst hra
    obtain ⟨es5, clk5, J5, hm5, hE5, _, _⟩ := hA.inner.mem hmg
    have hm6 := hin _ hm5
    have hO := outs_of hA hE hNe hmg
    have hfl0 : (frs E N k n (Gs.map (·.1))).length ≤ 1000 := by
      have h1 : (frs E N k n (Gs.map (·.1))).length ≤ (Gs.map (·.1)).length := List.length_filter_le _ _
      have h2 := (hG2.map (·.1)).length_eq
      have h3 := hN.length_eq
      have h4 : (nds G).length = (G.map (·.1)).length := rfl
      simp only [List.map_append, List.length_append] at h2
      omega
    refine op (y (x_extract rfl rfl) rfl ?_)
    refine nil ?_
    refine n_then ?_
    refine seq ?_
    refine condT rfl ?_
    refine skip ?_
    refine n_then ?_
    refine block ?_
    refine seq ?_
    refine region ?_
    refine op (y (x_entry rfl (mem1 (mem0 (List.mem_singleton.2 rfl))) (mem1 (mem1 (mem1 hmap))) hla) rfl ?_)
    refine op (y (x_extract rfl rfl) rfl ?_)
    refine op (y (x_extract rfl rfl) rfl ?_)
    refine op (y (x_assign rfl) rfl ?_)
    refine op (y (x_assign rfl) rfl ?_)
    refine nil ?_
    refine n_then ?_
    refine seq ?_
    refine seq ?_
    refine region ?_
    refine op (y (x_move rfl) rfl ?_)
    refine op (y (x_move rfl) rfl ?_)
    refine op (y ((x_lookup2 Try.underlying117 kI zc_3 rfl rfl (mem1 (mem1 (mem0 (List.mem_singleton.2 rfl)))) hEf).as (v' := .tuple #[.int .i64 (((fr (Ob E) N k n ka).getD 0 : Nat) : Int), .bool (fr (Ob E) N k n ka).isSome]) (by rw [hmf]; cases fr (Ob E) N k n ka <;> rfl)) rfl ?_)
    refine op (y (x_move rfl) rfl ?_)
    refine op (y (x_extract rfl rfl) rfl ?_)
    refine op (y (x_extract rfl rfl) rfl ?_)
    refine op (y (x_assign rfl) rfl ?_)
    refine op (y (x_assign rfl) rfl ?_)
    refine nil ?_
    refine n_then ?_
    refine seq ?_
    refine region ?_
    refine op (y (x_move rfl) rfl ?_)
    refine nil ?_
    refine n_then ?_
    refine cond rfl (fun h9 => ?_) (fun h9 => ?_)
    · try simp only [decide_eq_true_eq, decide_eq_false_iff_not, beq_iff_eq, bne_iff_ne, ne_eq, beq_eq_false_iff_ne, bne_eq_false_iff_eq, Bool.not_eq_true', Bool.not_eq_false', Bool.not_eq_true, Bool.not_eq_false, Decidable.not_not, Int.not_lt, Int.not_le] at h9
      have hnw := nwf_met hNO h9
      have hfs : frs E N k n ((Gs ++ [(ka, p, M)]).map (·.1)) = frs E N k n (Gs.map (·.1)) := by simp [frs, hnw]
      refine exit ?_
      refine e_then ?_
      refine e_in ?_
      rw [← hfs] at hT ⊢
      exact round (ra.length) [(0, .pointer (some ⟨x, 0, none⟩)), (1, .int .i64 k), (5, .map (some b17)), (6, .int .i64 ((n + 1 : Nat) : Int)), (24, .pointer (some ⟨b24, 0, none⟩)), (7, .slice _ (frs E N k n ((Gs ++ [(ka, p, M)]).map (·.1))).length _)] (by omega) ⟨rfl, rfl, rfl, rfl, rfl, rfl, trivial⟩ ⟨Gs ++ [(ka, p, M)], Gr2, ra, sa, _, _, _, rfl, rfl, rfl, rfl, hrem3, hG3, hIa, hT⟩
    · try simp only [decide_eq_true_eq, decide_eq_false_iff_not, beq_iff_eq, bne_iff_ne, ne_eq, beq_eq_false_iff_ne, bne_eq_false_iff_eq, Bool.not_eq_true', Bool.not_eq_false', Bool.not_eq_true, Bool.not_eq_false, Decidable.not_not, Int.not_lt, Int.not_le] at h9
      refine skip ?_
      refine n_then ?_
      refine seq ?_
      refine region ?_
      refine op (y (x_move rfl) rfl ?_)
      refine op (e_range rfl Try.underlying98 rfl (mem1 (mem1 (mem1 hm6))) fun b38 => ?_)
      refine nil ?_
      refine n_then ?_
      refine block ?_
      refine loop (fun m F ro' L' => ∃ (Ms : List (Int × Nat × List Int)) (Mr : List (Int × Nat × List Int)) (rem : List (Int × Value)) (seen : Array Nat), (m = rem.length) ∧ (F = [(0, .pointer (some ⟨x, 0, none⟩)), (1, .int .i64 k), (5, .map (some b17)), (6, .int .i64 ((n + 1 : Nat) : Int)), (24, .pointer (some ⟨b24, 0, none⟩)), (7, .slice A7 (frs E N k n (Gs.map (·.1))).length cap7), (8, .int .i64 ka), (38, .pointer (some ⟨b38, 0, none⟩))]) ∧ (ro = ro') ∧ (L' = [(b38, .mapIter (some p) clk5 seen clk5)] :: R7 :: [(b24, .mapIter (some mo) clk sa clk)] :: [(b17, .map esf clkf)] :: L) ∧ (rem.Perm (omg Mr)) ∧ ((Ms ++ Mr).Perm M) ∧ (IterM encZ es5 clk5 seen rem) ∧ (∀ h ∈ Ms, ¬ ((h.1 = k ∧ n = 0) ∨ (fr (Ob E) N k n h.1 = some n ∧ h.1 ≠ k)))) ((omg M).length) [(0, .pointer (some ⟨x, 0, none⟩)), (1, .int .i64 k), (5, .map (some b17)), (6, .int .i64 ((n + 1 : Nat) : Int)), (24, .pointer (some ⟨b24, 0, none⟩)), (7, .slice A7 (frs E N k n (Gs.map (·.1))).length cap7), (8, .int .i64 ka), (38, .pointer (some ⟨b38, 0, none⟩))] ⟨rfl, rfl, rfl, rfl, rfl, rfl, rfl, rfl, trivial⟩ ⟨[], M, omg M, #[], rfl, rfl, rfl, rfl, .refl _, by simp, hE5.iter, by simp⟩ ?_
      rintro m F ro' L' ⟨Ms, Mr, rem, seen, rfl, rfl, rfl, rfl, hrem, hM, hIt, hno⟩
      refine seq ?_
      refine region ?_
      refine op (e_next 0 rfl rfl rfl (mem1 (mem1 (mem1 (mem1 hm6)))) (hE5) (hIt) (fun _ => rfl) (fun hend => ?_) (fun kk vv rem2 seen2 hrem2 hI2 hl2 => ?_))
      · skip
        subst hend
        have hMr0 : Mr = [] := List.eq_nil_of_length_eq_zero (by have := hrem.length_eq; simpa [omg] using this.symm)
        subst hMr0
        have hMp : Ms.Perm M := by simpa using hM
        have hnw : nwf E N k n ka = false := decide_eq_false (fr_no hNO (fun b hb => by
          obtain ⟨h, hh, e⟩ := List.mem_map.1 ((hO b).2 hb)
          rw [← e]; exact hno h (hMp.mem_iff.2 hh)))
        have hfs : frs E N k n ((Gs ++ [(ka, p, M)]).map (·.1)) = frs E N k n (Gs.map (·.1)) := by simp [frs, hnw]
        refine drop0 ?_
        refine op (y (x_extract rfl rfl) rfl ?_)
        refine nil ?_
        refine n_then ?_
        refine seq ?_
        refine condF rfl ?_
        refine exit ?_
        refine e_then ?_
        refine e_then ?_
        refine e_in ?_
        refine n_in ?_
        rw [← hfs] at hT ⊢
        exact round (ra.length) [(0, .pointer (some ⟨x, 0, none⟩)), (1, .int .i64 k), (5, .map (some b17)), (6, .int .i64 ((n + 1 : Nat) : Int)), (24, .pointer (some ⟨b24, 0, none⟩)), (7, .slice _ (frs E N k n ((Gs ++ [(ka, p, M)]).map (·.1))).length _)] (by omega) ⟨rfl, rfl, rfl, rfl, rfl, rfl, trivial⟩ ⟨Gs ++ [(ka, p, M)], Gr2, ra, sa, _, _, _, rfl, rfl, rfl, rfl, hrem3, hG3, hIa, hT⟩
      · skip
        obtain ⟨q, ksq, Mr2, hMr2, rfl, hrem5⟩ := next_omg hrem hrem2
        have hM2 : (Ms ++ (kk, q, ksq) :: Mr2).Perm M := (hMr2.symm.append_left Ms).trans hM
        have hM3 : ((Ms ++ [(kk, q, ksq)]) ++ Mr2).Perm M := by simpa using hM2
        have hrl2 : rem.length = rem2.length + 1 := by simpa using hrem2.length_eq
        have hmq : (kk, q, ksq) ∈ M := hM2.mem_iff.1 (by simp)
        have hkO : kk ∈ Ob E ka := (hO kk).1 (List.mem_map.2 ⟨_, hmq, rfl⟩)
        have hfn : fr (Ob E) N k n ka = none := by simpa using h9
        refine op (y (x_extract rfl rfl) rfl ?_)
        refine nil ?_
        refine n_then ?_
        refine seq ?_
        refine condT rfl ?_
        refine skip ?_
        refine n_then ?_
        refine block ?_
        refine seq ?_
        refine region ?_
        refine op (y (x_entry rfl (mem0 (List.mem_singleton.2 rfl)) (mem1 (mem1 (mem1 (mem1 hm6)))) hl2) rfl ?_)
        refine op (y (x_extract rfl rfl) rfl ?_)
        refine op (y (x_assign rfl) rfl ?_)
        refine nil ?_
        refine n_then ?_
        refine seq ?_
        refine region ?_
        refine op (y (x_move rfl) rfl ?_)
        refine op (y (x_move rfl) rfl ?_)
        refine op (y ((x_lookup2 Try.underlying117 kI zc_3 rfl rfl (mem1 (mem1 (mem1 (mem0 (List.mem_singleton.2 rfl))))) hEf).as (v' := .tuple #[.int .i64 (((fr (Ob E) N k n kk).getD 0 : Nat) : Int), .bool (fr (Ob E) N k n kk).isSome]) (by rw [hmf]; cases fr (Ob E) N k n kk <;> rfl)) rfl ?_)
        refine op (y (x_move rfl) rfl ?_)
        refine op (y (x_extract rfl rfl) rfl ?_)
        refine op (y (x_extract rfl rfl) rfl ?_)
        refine op (y (x_assign rfl) rfl ?_)
        refine op (y (x_assign rfl) rfl ?_)
        refine nil ?_
        refine n_then ?_
        refine seq ?_
        refine region ?_
        refine op (y (x_move rfl) rfl ?_)
        refine op (y (x_move rfl) rfl ?_)
        refine op (y (x_eql rfl rfl) rfl ?_)
        refine op (y (x_move rfl) rfl ?_)
        refine bsplit 52 rfl (fun g52 => ?_) (fun g52 => ?_)
        · try simp only [decide_eq_true_eq, decide_eq_false_iff_not, beq_iff_eq, bne_iff_ne, ne_eq, beq_eq_false_iff_ne, bne_eq_false_iff_eq, Bool.not_eq_true', Bool.not_eq_false', Bool.not_eq_true, Bool.not_eq_false, Decidable.not_not, Int.not_lt, Int.not_le] at g52
          refine opG rfl rfl (y (x_move rfl) rfl ?_)
          refine opG rfl rfl (y (x_eql rfl rfl) rfl ?_)
          refine op (y (x_pickT rfl rfl) rfl ?_)
          refine op (y (x_move rfl) rfl ?_)
          refine bsplit 56 rfl (fun g56 => ?_) (fun g56 => ?_)
          · try simp only [decide_eq_true_eq, decide_eq_false_iff_not, beq_iff_eq, bne_iff_ne, ne_eq, beq_eq_false_iff_ne, bne_eq_false_iff_eq, Bool.not_eq_true', Bool.not_eq_false', Bool.not_eq_true, Bool.not_eq_false, Decidable.not_not, Int.not_lt, Int.not_le] at g56
            refine opN rfl rfl rfl rfl ?_
            refine opN rfl rfl rfl rfl ?_
            refine opU rfl rfl rfl ?_
            refine opU rfl rfl rfl ?_
            refine opU rfl rfl rfl ?_
            refine opU rfl rfl rfl ?_
            refine opN rfl rfl rfl rfl ?_
            refine opN rfl rfl rfl rfl ?_
            refine opU rfl rfl rfl ?_
            refine opU rfl rfl rfl ?_
            refine opU rfl rfl rfl ?_
            refine opN rfl rfl rfl rfl ?_
            refine op (y (x_pickT rfl rfl) rfl ?_)
            refine nil ?_
            refine n_then ?_
            refine condT rfl ?_
            refine seq ?_
            refine region ?_
            refine op (y (x_move rfl) rfl ?_)
            refine op (y (x_move rfl) rfl ?_)
            refine op (e_slice1 rfl Try.underlying23 ti_3 rfl rfl (by decide) (by decide) rfl rfl rfl fun b72 => ?_)
            refine op (e_append1 1 rfl st_23 rfl rfl rfl hT rfl rfl (by omega) (by omega) (fun _ => rfl) fun A73 cap73 R73 hO73 => ?_)
            refine op (y (x_assign rfl) rfl ?_)
            refine nil ?_
            refine n_then ?_
            refine exit ?_
            refine e_out rfl ?_
            refine e_then ?_
            refine e_in ?_
            refine n_in ?_
            have hcc : (kk = k ∧ n = 0) ∨ (fr (Ob E) N k n kk = some n ∧ kk ≠ k) := by
              first
              | exact .inl ⟨by assumption, by omega⟩
              | (right; cases hfk : fr (Ob E) N k n kk <;> simp_all <;> omega)
            have hnw : nwf E N k n ka = true := decide_eq_true (fr_yes hNO hfn hkO hcc)
            have hfs : frs E N k n ((Gs ++ [(ka, p, M)]).map (·.1)) = frs E N k n (Gs.map (·.1)) ++ [ka] := by simp [frs, hnw]
            have hfl2 : (frs E N k n ((Gs ++ [(ka, p, M)]).map (·.1))).length = (frs E N k n (Gs.map (·.1))).length + 1 := by rw [hfs]; simp
            rw [← hfl2] at hO73 ⊢
            refine drop0 ?_
            exact round (ra.length) [(0, .pointer (some ⟨x, 0, none⟩)), (1, .int .i64 k), (5, .map (some b17)), (6, .int .i64 ((n + 1 : Nat) : Int)), (24, .pointer (some ⟨b24, 0, none⟩)), (7, .slice _ (frs E N k n ((Gs ++ [(ka, p, M)]).map (·.1))).length _)] (by omega) ⟨rfl, rfl, rfl, rfl, rfl, rfl, trivial⟩ ⟨Gs ++ [(ka, p, M)], Gr2, ra, sa, _, _, _, rfl, rfl, rfl, rfl, hrem3, hG3, hIa, by rw [hfs] at hO73 ⊢; exact hO73.snoc⟩
          · try simp only [decide_eq_true_eq, decide_eq_false_iff_not, beq_iff_eq, bne_iff_ne, ne_eq, beq_eq_false_iff_ne, bne_eq_false_iff_eq, Bool.not_eq_true', Bool.not_eq_false', Bool.not_eq_true, Bool.not_eq_false, Decidable.not_not, Int.not_lt, Int.not_le] at g56
            refine opG rfl rfl (y (x_move rfl) rfl ?_)
            refine opG rfl rfl (y (x_move rfl) rfl ?_)
            refine bsplit 58 rfl (fun g58 => ?_) (fun g58 => ?_)
            · try simp only [decide_eq_true_eq, decide_eq_false_iff_not, beq_iff_eq, bne_iff_ne, ne_eq, beq_eq_false_iff_ne, bne_eq_false_iff_eq, Bool.not_eq_true', Bool.not_eq_false', Bool.not_eq_true, Bool.not_eq_false, Decidable.not_not, Int.not_lt, Int.not_le] at g58
              refine opG rfl rfl (y (x_move rfl) rfl ?_)
              refine opG rfl rfl (y (x_move rfl) rfl ?_)
              refine opG rfl rfl (y (x_sub rfl rfl _ (wr (by omega) (by omega))) rfl ?_)
              refine opG rfl rfl (y (x_eql rfl rfl) rfl ?_)
              refine opG rfl rfl (y (x_pickT rfl rfl) rfl ?_)
              refine opG rfl rfl (y (x_move rfl) rfl ?_)
              refine bsplit 64 rfl (fun g64 => ?_) (fun g64 => ?_)
              · try simp only [decide_eq_true_eq, decide_eq_false_iff_not, beq_iff_eq, bne_iff_ne, ne_eq, beq_eq_false_iff_ne, bne_eq_false_iff_eq, Bool.not_eq_true', Bool.not_eq_false', Bool.not_eq_true, Bool.not_eq_false, Decidable.not_not, Int.not_lt, Int.not_le] at g64
                refine opG rfl rfl (y (x_move rfl) rfl ?_)
                refine opG rfl rfl (y (x_move rfl) rfl ?_)
                refine opG rfl rfl (y (x_neq rfl rfl) rfl ?_)
                refine opG rfl rfl (y (x_pickT rfl rfl) rfl ?_)
                refine op (y (x_pickF rfl rfl) rfl ?_)
                refine nil ?_
                refine n_then ?_
                refine cond rfl (fun h14 => ?_) (fun h14 => ?_)
                · try simp only [decide_eq_true_eq, decide_eq_false_iff_not, beq_iff_eq, bne_iff_ne, ne_eq, beq_eq_false_iff_ne, bne_eq_false_iff_eq, Bool.not_eq_true', Bool.not_eq_false', Bool.not_eq_true, Bool.not_eq_false, Decidable.not_not, Int.not_lt, Int.not_le] at h14
                  refine seq ?_
                  refine region ?_
                  refine op (y (x_move rfl) rfl ?_)
                  refine op (y (x_move rfl) rfl ?_)
                  refine op (e_slice1 rfl Try.underlying23 ti_3 rfl rfl (by decide) (by decide) rfl rfl rfl fun b72 => ?_)
                  refine op (e_append1 1 rfl st_23 rfl rfl rfl hT rfl rfl (by omega) (by omega) (fun _ => rfl) fun A73 cap73 R73 hO73 => ?_)
                  refine op (y (x_assign rfl) rfl ?_)
                  refine nil ?_
                  refine n_then ?_
                  refine exit ?_
                  refine e_out rfl ?_
                  refine e_then ?_
                  refine e_in ?_
                  refine n_in ?_
                  have hcc : (kk = k ∧ n = 0) ∨ (fr (Ob E) N k n kk = some n ∧ kk ≠ k) := by
                    first
                    | exact .inl ⟨by assumption, by omega⟩
                    | (right; cases hfk : fr (Ob E) N k n kk <;> simp_all <;> omega)
                  have hnw : nwf E N k n ka = true := decide_eq_true (fr_yes hNO hfn hkO hcc)
                  have hfs : frs E N k n ((Gs ++ [(ka, p, M)]).map (·.1)) = frs E N k n (Gs.map (·.1)) ++ [ka] := by simp [frs, hnw]
                  have hfl2 : (frs E N k n ((Gs ++ [(ka, p, M)]).map (·.1))).length = (frs E N k n (Gs.map (·.1))).length + 1 := by rw [hfs]; simp
                  rw [← hfl2] at hO73 ⊢
                  refine drop0 ?_
                  exact round (ra.length) [(0, .pointer (some ⟨x, 0, none⟩)), (1, .int .i64 k), (5, .map (some b17)), (6, .int .i64 ((n + 1 : Nat) : Int)), (24, .pointer (some ⟨b24, 0, none⟩)), (7, .slice _ (frs E N k n ((Gs ++ [(ka, p, M)]).map (·.1))).length _)] (by omega) ⟨rfl, rfl, rfl, rfl, rfl, rfl, trivial⟩ ⟨Gs ++ [(ka, p, M)], Gr2, ra, sa, _, _, _, rfl, rfl, rfl, rfl, hrem3, hG3, hIa, by rw [hfs] at hO73 ⊢; exact hO73.snoc⟩
                · try simp only [decide_eq_true_eq, decide_eq_false_iff_not, beq_iff_eq, bne_iff_ne, ne_eq, beq_eq_false_iff_ne, bne_eq_false_iff_eq, Bool.not_eq_true', Bool.not_eq_false', Bool.not_eq_true, Bool.not_eq_false, Decidable.not_not, Int.not_lt, Int.not_le] at h14
                  refine skip ?_
                  refine n_in ?_
                  have hcc : ¬ ((kk = k ∧ n = 0) ∨ (fr (Ob E) N k n kk = some n ∧ kk ≠ k)) := by
                    cases hfk : fr (Ob E) N k n kk <;> simp_all <;> omega
                  exact round (rem2.length) [(0, .pointer (some ⟨x, 0, none⟩)), (1, .int .i64 k), (5, .map (some b17)), (6, .int .i64 ((n + 1 : Nat) : Int)), (24, .pointer (some ⟨b24, 0, none⟩)), (7, .slice _ (frs E N k n (Gs.map (·.1))).length _), (8, .int .i64 ka), (38, .pointer (some ⟨b38, 0, none⟩))] (by omega) ⟨rfl, rfl, rfl, rfl, rfl, rfl, rfl, rfl, trivial⟩ ⟨Ms ++ [(kk, q, ksq)], Mr2, rem2, seen2, rfl, rfl, rfl, rfl, hrem5, hM3, hI2, fun h hh => by
                    rcases List.mem_append.1 hh with hh | hh
                    · exact hno h hh
                    · rw [List.mem_singleton.1 hh]; exact hcc⟩
              · try simp only [decide_eq_true_eq, decide_eq_false_iff_not, beq_iff_eq, bne_iff_ne, ne_eq, beq_eq_false_iff_ne, bne_eq_false_iff_eq, Bool.not_eq_true', Bool.not_eq_false', Bool.not_eq_true, Bool.not_eq_false, Decidable.not_not, Int.not_lt, Int.not_le] at g64
                refine opN rfl rfl rfl rfl ?_
                refine opN rfl rfl rfl rfl ?_
                refine opN rfl rfl rfl rfl ?_
                refine opG rfl rfl (y (x_pickF rfl rfl) rfl ?_)
                refine op (y (x_pickF rfl rfl) rfl ?_)
                refine nil ?_
                refine n_then ?_
                refine condF rfl ?_
                refine skip ?_
                refine n_in ?_
                have hcc : ¬ ((kk = k ∧ n = 0) ∨ (fr (Ob E) N k n kk = some n ∧ kk ≠ k)) := by
                  cases hfk : fr (Ob E) N k n kk <;> simp_all <;> omega
                exact round (rem2.length) [(0, .pointer (some ⟨x, 0, none⟩)), (1, .int .i64 k), (5, .map (some b17)), (6, .int .i64 ((n + 1 : Nat) : Int)), (24, .pointer (some ⟨b24, 0, none⟩)), (7, .slice _ (frs E N k n (Gs.map (·.1))).length _), (8, .int .i64 ka), (38, .pointer (some ⟨b38, 0, none⟩))] (by omega) ⟨rfl, rfl, rfl, rfl, rfl, rfl, rfl, rfl, trivial⟩ ⟨Ms ++ [(kk, q, ksq)], Mr2, rem2, seen2, rfl, rfl, rfl, rfl, hrem5, hM3, hI2, fun h hh => by
                  rcases List.mem_append.1 hh with hh | hh
                  · exact hno h hh
                  · rw [List.mem_singleton.1 hh]; exact hcc⟩
            · try simp only [decide_eq_true_eq, decide_eq_false_iff_not, beq_iff_eq, bne_iff_ne, ne_eq, beq_eq_false_iff_ne, bne_eq_false_iff_eq, Bool.not_eq_true', Bool.not_eq_false', Bool.not_eq_true, Bool.not_eq_false, Decidable.not_not, Int.not_lt, Int.not_le] at g58
              refine opN rfl rfl rfl rfl ?_
              refine opN rfl rfl rfl rfl ?_
              refine opN rfl rfl rfl rfl ?_
              refine opN rfl rfl rfl rfl ?_
              refine opG rfl rfl (y (x_pickF rfl rfl) rfl ?_)
              refine opG rfl rfl (y (x_move rfl) rfl ?_)
              refine opN rfl rfl rfl rfl ?_
              refine opN rfl rfl rfl rfl ?_
              refine opN rfl rfl rfl rfl ?_
              refine opG rfl rfl (y (x_pickF rfl rfl) rfl ?_)
              refine op (y (x_pickF rfl rfl) rfl ?_)
              refine nil ?_
              refine n_then ?_
              refine condF rfl ?_
              refine skip ?_
              refine n_in ?_
              have hcc : ¬ ((kk = k ∧ n = 0) ∨ (fr (Ob E) N k n kk = some n ∧ kk ≠ k)) := by
                cases hfk : fr (Ob E) N k n kk <;> simp_all <;> omega
              exact round (rem2.length) [(0, .pointer (some ⟨x, 0, none⟩)), (1, .int .i64 k), (5, .map (some b17)), (6, .int .i64 ((n + 1 : Nat) : Int)), (24, .pointer (some ⟨b24, 0, none⟩)), (7, .slice _ (frs E N k n (Gs.map (·.1))).length _), (8, .int .i64 ka), (38, .pointer (some ⟨b38, 0, none⟩))] (by omega) ⟨rfl, rfl, rfl, rfl, rfl, rfl, rfl, rfl, trivial⟩ ⟨Ms ++ [(kk, q, ksq)], Mr2, rem2, seen2, rfl, rfl, rfl, rfl, hrem5, hM3, hI2, fun h hh => by
                rcases List.mem_append.1 hh with hh | hh
                · exact hno h hh
                · rw [List.mem_singleton.1 hh]; exact hcc⟩
        · try simp only [decide_eq_true_eq, decide_eq_false_iff_not, beq_iff_eq, bne_iff_ne, ne_eq, beq_eq_false_iff_ne, bne_eq_false_iff_eq, Bool.not_eq_true', Bool.not_eq_false', Bool.not_eq_true, Bool.not_eq_false, Decidable.not_not, Int.not_lt, Int.not_le] at g52
          refine opN rfl rfl rfl rfl ?_
          refine opN rfl rfl rfl rfl ?_
          refine op (y (x_pickF rfl rfl) rfl ?_)
          refine op (y (x_move rfl) rfl ?_)
          refine opG rfl rfl (y (x_move rfl) rfl ?_)
          refine opG rfl rfl (y (x_move rfl) rfl ?_)
          refine bsplit 58 rfl (fun g58 => ?_) (fun g58 => ?_)
          · try simp only [decide_eq_true_eq, decide_eq_false_iff_not, beq_iff_eq, bne_iff_ne, ne_eq, beq_eq_false_iff_ne, bne_eq_false_iff_eq, Bool.not_eq_true', Bool.not_eq_false', Bool.not_eq_true, Bool.not_eq_false, Decidable.not_not, Int.not_lt, Int.not_le] at g58
            refine opG rfl rfl (y (x_move rfl) rfl ?_)
            refine opG rfl rfl (y (x_move rfl) rfl ?_)
            refine opG rfl rfl (y (x_sub rfl rfl _ (wr (by omega) (by omega))) rfl ?_)
            refine opG rfl rfl (y (x_eql rfl rfl) rfl ?_)
            refine opG rfl rfl (y (x_pickT rfl rfl) rfl ?_)
            refine opG rfl rfl (y (x_move rfl) rfl ?_)
            refine bsplit 64 rfl (fun g64 => ?_) (fun g64 => ?_)
            · try simp only [decide_eq_true_eq, decide_eq_false_iff_not, beq_iff_eq, bne_iff_ne, ne_eq, beq_eq_false_iff_ne, bne_eq_false_iff_eq, Bool.not_eq_true', Bool.not_eq_false', Bool.not_eq_true, Bool.not_eq_false, Decidable.not_not, Int.not_lt, Int.not_le] at g64
              refine opG rfl rfl (y (x_move rfl) rfl ?_)
              refine opG rfl rfl (y (x_move rfl) rfl ?_)
              refine opG rfl rfl (y (x_neq rfl rfl) rfl ?_)
              refine opG rfl rfl (y (x_pickT rfl rfl) rfl ?_)
              refine op (y (x_pickF rfl rfl) rfl ?_)
              refine nil ?_
              refine n_then ?_
              refine cond rfl (fun h14 => ?_) (fun h14 => ?_)
              · try simp only [decide_eq_true_eq, decide_eq_false_iff_not, beq_iff_eq, bne_iff_ne, ne_eq, beq_eq_false_iff_ne, bne_eq_false_iff_eq, Bool.not_eq_true', Bool.not_eq_false', Bool.not_eq_true, Bool.not_eq_false, Decidable.not_not, Int.not_lt, Int.not_le] at h14
                refine seq ?_
                refine region ?_
                refine op (y (x_move rfl) rfl ?_)
                refine op (y (x_move rfl) rfl ?_)
                refine op (e_slice1 rfl Try.underlying23 ti_3 rfl rfl (by decide) (by decide) rfl rfl rfl fun b72 => ?_)
                refine op (e_append1 1 rfl st_23 rfl rfl rfl hT rfl rfl (by omega) (by omega) (fun _ => rfl) fun A73 cap73 R73 hO73 => ?_)
                refine op (y (x_assign rfl) rfl ?_)
                refine nil ?_
                refine n_then ?_
                refine exit ?_
                refine e_out rfl ?_
                refine e_then ?_
                refine e_in ?_
                refine n_in ?_
                have hcc : (kk = k ∧ n = 0) ∨ (fr (Ob E) N k n kk = some n ∧ kk ≠ k) := by
                  first
                  | exact .inl ⟨by assumption, by omega⟩
                  | (right; cases hfk : fr (Ob E) N k n kk <;> simp_all <;> omega)
                have hnw : nwf E N k n ka = true := decide_eq_true (fr_yes hNO hfn hkO hcc)
                have hfs : frs E N k n ((Gs ++ [(ka, p, M)]).map (·.1)) = frs E N k n (Gs.map (·.1)) ++ [ka] := by simp [frs, hnw]
                have hfl2 : (frs E N k n ((Gs ++ [(ka, p, M)]).map (·.1))).length = (frs E N k n (Gs.map (·.1))).length + 1 := by rw [hfs]; simp
                rw [← hfl2] at hO73 ⊢
                refine drop0 ?_
                exact round (ra.length) [(0, .pointer (some ⟨x, 0, none⟩)), (1, .int .i64 k), (5, .map (some b17)), (6, .int .i64 ((n + 1 : Nat) : Int)), (24, .pointer (some ⟨b24, 0, none⟩)), (7, .slice _ (frs E N k n ((Gs ++ [(ka, p, M)]).map (·.1))).length _)] (by omega) ⟨rfl, rfl, rfl, rfl, rfl, rfl, trivial⟩ ⟨Gs ++ [(ka, p, M)], Gr2, ra, sa, _, _, _, rfl, rfl, rfl, rfl, hrem3, hG3, hIa, by rw [hfs] at hO73 ⊢; exact hO73.snoc⟩
              · try simp only [decide_eq_true_eq, decide_eq_false_iff_not, beq_iff_eq, bne_iff_ne, ne_eq, beq_eq_false_iff_ne, bne_eq_false_iff_eq, Bool.not_eq_true', Bool.not_eq_false', Bool.not_eq_true, Bool.not_eq_false, Decidable.not_not, Int.not_lt, Int.not_le] at h14
                refine skip ?_
                refine n_in ?_
                have hcc : ¬ ((kk = k ∧ n = 0) ∨ (fr (Ob E) N k n kk = some n ∧ kk ≠ k)) := by
                  cases hfk : fr (Ob E) N k n kk <;> simp_all <;> omega
                exact round (rem2.length) [(0, .pointer (some ⟨x, 0, none⟩)), (1, .int .i64 k), (5, .map (some b17)), (6, .int .i64 ((n + 1 : Nat) : Int)), (24, .pointer (some ⟨b24, 0, none⟩)), (7, .slice _ (frs E N k n (Gs.map (·.1))).length _), (8, .int .i64 ka), (38, .pointer (some ⟨b38, 0, none⟩))] (by omega) ⟨rfl, rfl, rfl, rfl, rfl, rfl, rfl, rfl, trivial⟩ ⟨Ms ++ [(kk, q, ksq)], Mr2, rem2, seen2, rfl, rfl, rfl, rfl, hrem5, hM3, hI2, fun h hh => by
                  rcases List.mem_append.1 hh with hh | hh
                  · exact hno h hh
                  · rw [List.mem_singleton.1 hh]; exact hcc⟩
            · try simp only [decide_eq_true_eq, decide_eq_false_iff_not, beq_iff_eq, bne_iff_ne, ne_eq, beq_eq_false_iff_ne, bne_eq_false_iff_eq, Bool.not_eq_true', Bool.not_eq_false', Bool.not_eq_true, Bool.not_eq_false, Decidable.not_not, Int.not_lt, Int.not_le] at g64
              refine opN rfl rfl rfl rfl ?_
              refine opN rfl rfl rfl rfl ?_
              refine opN rfl rfl rfl rfl ?_
              refine opG rfl rfl (y (x_pickF rfl rfl) rfl ?_)
              refine op (y (x_pickF rfl rfl) rfl ?_)
              refine nil ?_
              refine n_then ?_
              refine condF rfl ?_
              refine skip ?_
              refine n_in ?_
              have hcc : ¬ ((kk = k ∧ n = 0) ∨ (fr (Ob E) N k n kk = some n ∧ kk ≠ k)) := by
                cases hfk : fr (Ob E) N k n kk <;> simp_all <;> omega
              exact round (rem2.length) [(0, .pointer (some ⟨x, 0, none⟩)), (1, .int .i64 k), (5, .map (some b17)), (6, .int .i64 ((n + 1 : Nat) : Int)), (24, .pointer (some ⟨b24, 0, none⟩)), (7, .slice _ (frs E N k n (Gs.map (·.1))).length _), (8, .int .i64 ka), (38, .pointer (some ⟨b38, 0, none⟩))] (by omega) ⟨rfl, rfl, rfl, rfl, rfl, rfl, rfl, rfl, trivial⟩ ⟨Ms ++ [(kk, q, ksq)], Mr2, rem2, seen2, rfl, rfl, rfl, rfl, hrem5, hM3, hI2, fun h hh => by
                rcases List.mem_append.1 hh with hh | hh
                · exact hno h hh
                · rw [List.mem_singleton.1 hh]; exact hcc⟩
          · try simp only [decide_eq_true_eq, decide_eq_false_iff_not, beq_iff_eq, bne_iff_ne, ne_eq, beq_eq_false_iff_ne, bne_eq_false_iff_eq, Bool.not_eq_true', Bool.not_eq_false', Bool.not_eq_true, Bool.not_eq_false, Decidable.not_not, Int.not_lt, Int.not_le] at g58
            refine opN rfl rfl rfl rfl ?_
            refine opN rfl rfl rfl rfl ?_
            refine opN rfl rfl rfl rfl ?_
            refine opN rfl rfl rfl rfl ?_
            refine opG rfl rfl (y (x_pickF rfl rfl) rfl ?_)
            refine opG rfl rfl (y (x_move rfl) rfl ?_)
            refine opN rfl rfl rfl rfl ?_
            refine opN rfl rfl rfl rfl ?_
            refine opN rfl rfl rfl rfl ?_
            refine opG rfl rfl (y (x_pickF rfl rfl) rfl ?_)
            refine op (y (x_pickF rfl rfl) rfl ?_)
            refine nil ?_
            refine n_then ?_
            refine condF rfl ?_
            refine skip ?_
            refine n_in ?_
            have hcc : ¬ ((kk = k ∧ n = 0) ∨ (fr (Ob E) N k n kk = some n ∧ kk ≠ k)) := by
              cases hfk : fr (Ob E) N k n kk <;> simp_all <;> omega
            exact round (rem2.length) [(0, .pointer (some ⟨x, 0, none⟩)), (1, .int .i64 k), (5, .map (some b17)), (6, .int .i64 ((n + 1 : Nat) : Int)), (24, .pointer (some ⟨b24, 0, none⟩)), (7, .slice _ (frs E N k n (Gs.map (·.1))).length _), (8, .int .i64 ka), (38, .pointer (some ⟨b38, 0, none⟩))] (by omega) ⟨rfl, rfl, rfl, rfl, rfl, rfl, rfl, rfl, trivial⟩ ⟨Ms ++ [(kk, q, ksq)], Mr2, rem2, seen2, rfl, rfl, rfl, rfl, hrem5, hM3, hI2, fun h hh => by
              rcases List.mem_append.1 hh with hh | hh
              · exact hno h hh
              · rw [List.mem_singleton.1 hh]; exact hcc⟩

end Go.Proofs.Ytlmeblhcipkgmaa
namespace Go.Proofs.Ytlmeblhcipkgmaa
open Go Go.U
set_option maxRecDepth 20000
set_option linter.unusedSimpArgs false
set_option linter.unusedVariables false

open Go.RowKit
theorem find_at {p : Int → Bool} : ∀ {l : List Int} {j : Nat} {b : Int}, (∀ i : Nat, i < j → ∀ c, l[i]? = some c → p c = false) → l[j]? = some b → p b = true → l.find? p = some b
  | [], j, b, _, h, _ => by simp at h
  | a :: l, 0, b, _, h, hp => by simp at h; subst h; simp [hp]
  | a :: l, j + 1, b, hall, h, hp => by
    rw [List.find?_cons, hall 0 (by omega) a rfl]
    exact find_at (j := j) (fun i hi c hc => hall (i + 1) (by omega) c (by simpa using hc)) (by simpa using h) hp
theorem mem2 {α : Type} {a b c : α} {l : List α} (h : a ∈ l) : a ∈ b :: c :: l := List.mem_cons_of_mem _ (List.mem_cons_of_mem _ h)
theorem find_no {p : Int → Bool} {l : List Int} (hall : ∀ i : Nat, i < l.length → ∀ c, l[i]? = some c → p c = false) : l.find? p = none := by
  rw [List.find?_eq_none]
  intro c hc
  obtain ⟨i, hi, e⟩ := List.getElem_of_mem hc
  have := hall i hi c (by rw [List.getElem?_eq_getElem hi, e])
  simp [this]

theorem GrCycle_c (x : Nat) (N : List Int) (E : List Ed) (R : List Blk) (ro : Ro) (L : List (List Blk)) (hR : RelG x N E R) (hL : R ∈ L) (hNs : N.Pairwise (· < ·)) (hnN : N.length ≤ 1000) (hnE : E.length ≤ 1000) :
    CT Try.prog 47 [.pointer (some ⟨x, 0, none⟩)].toArray ro L (PO 3 1 encInt (cycR (Ob E) N) L) := by
  refine enter Try.func47 rfl Try.ntmps47 rfl ?_
  have hNO := RelG.ob hR
  refine seq ?_
  refine region ?_
  refine op (y (x_assign rfl) rfl ?_)
  refine nil ?_
  refine n_then ?_
  refine seq ?_
  refine seq ?_
  refine region ?_
  refine op (y (x_move rfl) rfl ?_)
  refine op (e_call rfl fn_50 rfl rfl (GrNodes_c x N E R _ _ hR hL (by omega) (by omega)) fun v14 ro14 L14 hle14 hp14 => ?_)
  obtain ⟨A14, cap14, R14, rfl, hO14, rfl, rfl⟩ := hp14
  refine ufreeze fun ro2 hle2 hR2 => ?_
  rw [srt_id hNs] at hO14 ⊢
  have hK := OwnS.sl hO14 (fun _ _ => rfl) hR2
  refine op (y (x_lenSl sz_23 rfl) rfl ?_)
  refine op (y (x_move rfl) rfl ?_)
  refine nil ?_
  refine n_then ?_
  refine block ?_
  refine loop (fun m F ro' L' => ∃ (i : Nat), (m = N.length - i) ∧ (F = [(0, .pointer (some ⟨x, 0, none⟩)), (14, .slice A14 N.length cap14), (15, .int .i64 (N.length : Nat)), (16, .int .i64 (i : Nat))]) ∧ (ro2 = ro') ∧ (L = L') ∧ (i ≤ N.length) ∧ (∀ j : Nat, j < i → ∀ a, N[j]? = some a → (fin (Ob E) N a a).isSome = false)) (N.length - 0) [(0, .pointer (some ⟨x, 0, none⟩)), (14, .slice A14 N.length cap14), (15, .int .i64 (N.length : Nat)), (16, .int .i64 (0 : Nat))] ⟨rfl, rfl, rfl, rfl, trivial⟩ ⟨0, rfl, rfl, rfl, rfl, by omega, by intro j hj; omega⟩ ?_
  rintro m F ro' L' ⟨i, rfl, rfl, rfl, rfl, hi, hall⟩
  refine seq ?_
  refine region ?_
  refine op (y (x_lss rfl rfl) rfl ?_)
  refine nil ?_
  refine n_then ?_
  refine seq ?_
  refine cond rfl (fun h2 => ?_) (fun h2 => ?_)
  · try simp only [decide_eq_true_eq, decide_eq_false_iff_not, beq_iff_eq, bne_iff_ne, ne_eq, beq_eq_false_iff_ne, bne_eq_false_iff_eq, Bool.not_eq_true', Bool.not_eq_false', Bool.not_eq_true, Bool.not_eq_false, Decidable.not_not, Int.not_lt, Int.not_le] at h2
    refine skip ?_
    refine n_then ?_
    refine seq ?_
    refine block ?_
    refine seq ?_
    have hil : i < N.length := by omega
    obtain ⟨bbx, offx, rfl, hcx⟩ := hK.at_ (i := i) (by omega)
    have hx := List.getElem?_eq_getElem (show i < N.length from by omega)
    have cx0 := hcx i _ hx 0 _ rfl
    refine region ?_
    refine op (y (x_indexNat sz_23 rfl rfl (by omega)) rfl ?_)
    refine op (y (x_load1 ag_3 rfl (by first | assumption | exact Cell.own 0 rfl rfl | exact Cell.own 1 rfl rfl | exact Cell.own 2 rfl rfl | exact Cell.own 3 rfl rfl | exact Cell.own 4 rfl rfl | exact Cell.own 5 rfl rfl | exact Cell.ofRo (by assumption))) rfl ?_)
    refine op (y (x_assign rfl) rfl ?_)
    refine nil ?_
    refine n_then ?_
    refine seq ?_
    refine region ?_
    refine op (y (x_move rfl) rfl ?_)
    refine op (y (x_move rfl) rfl ?_)
    refine op (e_call rfl fn_91 rfl rfl (GrFar_c x N E R _ _ hR hL hnN hnE N[i]) fun v22 ro22 L22 hle22 hp22 => ?_)
    obtain ⟨mf, mq, es, clk, rfl, hEf, hmf, rfl, rfl⟩ := hp22
    refine op (y (x_assign rfl) rfl ?_)
    refine nil ?_
    refine n_then ?_
    refine seq ?_
    refine region ?_
    refine op (y (x_move rfl) rfl ?_)
    refine op (y (x_move rfl) rfl ?_)
    refine op (y ((x_lookup2 Try.underlying117 kI zc_3 rfl rfl (mem0 (List.mem_singleton.2 rfl)) hEf).as (v' := .tuple #[.int .i64 (((fin (Ob E) N N[i] N[i]).getD 0 : Nat) : Int), .bool (fin (Ob E) N N[i] N[i]).isSome]) (by rw [hmf]; cases fin (Ob E) N N[i] N[i] <;> rfl)) rfl ?_)
    refine op (y (x_move rfl) rfl ?_)
    refine op (y (x_extract rfl rfl) rfl ?_)
    refine op (y (x_extract rfl rfl) rfl ?_)
    refine op (y (x_assign rfl) rfl ?_)
    refine op (y (x_assign rfl) rfl ?_)
    refine nil ?_
    refine n_then ?_
    refine seq ?_
    refine seq ?_
    refine region ?_
    refine op (y (x_move rfl) rfl ?_)
    refine op (y (x_not rfl) rfl ?_)
    refine nil ?_
    refine n_then ?_
    refine cond rfl (fun h6 => ?_) (fun h6 => ?_)
    · try simp only [decide_eq_true_eq, decide_eq_false_iff_not, beq_iff_eq, bne_iff_ne, ne_eq, beq_eq_false_iff_ne, bne_eq_false_iff_eq, Bool.not_eq_true', Bool.not_eq_false', Bool.not_eq_true, Bool.not_eq_false, Decidable.not_not, Int.not_lt, Int.not_le] at h6
      refine exit ?_
      refine e_then ?_
      refine e_in ?_
      refine n_then ?_
      refine region ?_
      refine op (y (x_add rfl rfl _ (wr (by omega) (by omega))) rfl ?_)
      refine op (y (x_move rfl) rfl ?_)
      refine nil ?_
      refine drop0 ?_
      exact round (N.length - (i + 1)) [(0, .pointer (some ⟨x, 0, none⟩)), (14, .slice _ N.length cap14), (15, .int .i64 (N.length : Nat)), (16, .int .i64 ((i + 1) : Nat))] (by omega) ⟨rfl, rfl, rfl, rfl, trivial⟩ ⟨i + 1, rfl, rfl, rfl, rfl, by omega, upto (p := fun j => ∀ a, N[j]? = some a → (fin (Ob E) N a a).isSome = false) hall (fun a e => by rw [hx] at e; cases e; exact h6)⟩
    · try simp only [decide_eq_true_eq, decide_eq_false_iff_not, beq_iff_eq, bne_iff_ne, ne_eq, beq_eq_false_iff_ne, bne_eq_false_iff_eq, Bool.not_eq_true', Bool.not_eq_false', Bool.not_eq_true, Bool.not_eq_false, Decidable.not_not, Int.not_lt, Int.not_le] at h6
      refine skip ?_
      refine n_then ?_
      refine seq ?_
      obtain ⟨nn, hnn⟩ := Option.isSome_iff_exists.1 h6
      have hLs := (fin_spec hNO _ _).1 hnn
      have hn1 := hLs.1
      have hnN2 := hLs.le hNO
      rw [hnn, Option.getD_some]
      refine region ?_
      refine op (y (x_move rfl) rfl ?_)
      refine op (e_slice1 rfl Try.underlying23 ti_3 rfl rfl (by decide) (by decide) rfl rfl rfl fun b32 => ?_)
      refine op (y (x_assign rfl) rfl ?_)
      refine nil ?_
      refine n_then ?_
      refine seq ?_
      refine block ?_
      rw [show (nn : Int) = ((nn - 1 + 1 : Nat) : Int) by omega]
      refine loop (fun m F ro' L' => ∃ (r : Nat) (pre : List Int) (la : Int) (A8 : Option Addr) (cap8 : Nat) (R8 : List Blk), (m = r + 1) ∧ (F = [(0, .pointer (some ⟨x, 0, none⟩)), (4, .int .i64 N[i]), (5, .map (some mf)), (6, .int .i64 ((r + 1 : Nat) : Int)), (8, .slice A8 (pre.length + 1) cap8)]) ∧ (ro2 = ro') ∧ (L' = R8 :: [(mf, .map es clk)] :: L) ∧ (OwnS 3 1 A8 (pre.length + 1) cap8 ((pre ++ [la]).flatMap encInt) R8) ∧ (N[i] :: cg (Ob E) (fin (Ob E) N N[i]) N[i] (nn - 1) N[i] = (pre ++ [la]) ++ cg (Ob E) (fin (Ob E) N N[i]) N[i] r la) ∧ (pre.length + 1 + r ≤ nn)) (((nn - 1)) + 1) [(0, .pointer (some ⟨x, 0, none⟩)), (4, .int .i64 N[i]), (5, .map (some mf)), (6, .int .i64 ((((nn - 1)) + 1 : Nat) : Int)), (8, .slice _ ((([] : List Int)).length + 1) 1)] ⟨rfl, rfl, rfl, rfl, rfl, trivial⟩ ⟨(nn - 1), ([] : List Int), N[i], _, 1, _, rfl, rfl, rfl, rfl, OwnS.one, rfl, by simp; omega⟩ ?_
      rintro m F ro' L' ⟨r, pre, la, A8, cap8, R8, rfl, rfl, rfl, rfl, hT, heq, hpr⟩
      refine seq ?_
      refine seq ?_
      refine region ?_
      refine op (y (x_move rfl) rfl ?_)
      refine op (y (x_gtr rfl rfl) rfl ?_)
      refine nil ?_
      refine n_then ?_
      refine cond rfl (fun h8 => ?_) (fun h8 => ?_)
      · try simp only [decide_eq_true_eq, decide_eq_false_iff_not, beq_iff_eq, bne_iff_ne, ne_eq, beq_eq_false_iff_ne, bne_eq_false_iff_eq, Bool.not_eq_true', Bool.not_eq_false', Bool.not_eq_true, Bool.not_eq_false, Decidable.not_not, Int.not_lt, Int.not_le] at h8
        refine skip ?_
        refine n_then ?_
        refine seqM (fun F ro' L' => ∃ (pre2 : List Int) (la2 : Int) (A9 : Option Addr) (cap9 : Nat) (R9 : List Blk), (F = [(0, .pointer (some ⟨x, 0, none⟩)), (4, .int .i64 N[i]), (5, .map (some mf)), (6, .int .i64 ((r + 1 : Nat) : Int)), (8, .slice A9 (pre2.length + 1) cap9)]) ∧ (ro2 = ro') ∧ (L' = R9 :: [(mf, .map es clk)] :: L) ∧ (OwnS 3 1 A9 (pre2.length + 1) cap9 ((pre2 ++ [la2]).flatMap encInt) R9) ∧ (N[i] :: cg (Ob E) (fin (Ob E) N N[i]) N[i] (nn - 1) N[i] = (pre2 ++ [la2]) ++ cg (Ob E) (fin (Ob E) N N[i]) N[i] (r - 1) la2) ∧ (pre2.length + 1 + (r - 1) ≤ nn) ∧ (1 ≤ r)) ?_ ?_
        · skip
          refine block ?_
          refine seq ?_
          have hT2 := hT
          obtain ⟨b5, off5, cur5, rfl, rfl, y2, hy2, hc5⟩ := OwnS.intAt hT (k := pre.length) (by omega) (by simp)
          have hy3 : y2 = la := by simpa using hy2.symm
          subst hy3
          obtain ⟨r, rfl⟩ : ∃ z, r = z + 1 := ⟨r - 1, by omega⟩
          refine region ?_
          refine op (y (x_move rfl) rfl ?_)
          refine op (y (x_move rfl) rfl ?_)
          refine op (y (x_move rfl) rfl ?_)
          refine op (y (x_lenSl sz_23 rfl) rfl ?_)
          refine op (y (x_sub rfl rfl (pre.length : Nat) (by rw [wr (by omega) (by omega)]; omega)) rfl ?_)
          refine op (y (x_indexNat sz_23 rfl rfl (by omega)) rfl ?_)
          refine op (y (x_load1 ag_3 rfl (Cell.own 0 rfl hc5)) rfl ?_)
          refine op (e_call rfl fn_54 rfl rfl (GrOut_c x N E R _ _ hR (mem2 hL) (by omega) (by omega) _) fun v44 ro44 L44 hle44 hp44 => ?_)
          obtain ⟨A44, cap44, R44, rfl, hO44, rfl, rfl⟩ := hp44
          have hbl : (BehindR (prE E) y2).length ≤ E.length := by
            have h1 := len_prs (nodup_lt (BehindR_spec (prE E) y2).1) (fun b hb => ((BehindR_spec (prE E) y2).2 b).1 hb)
            have h2 := (prE_spec E).2.1
            omega
          refine op (y (x_lenSl sz_23 rfl) rfl ?_)
          refine op (y (x_move rfl) rfl ?_)
          refine nil ?_
          refine n_then ?_
          refine block ?_
          refine loop (fun m F ro' L' => ∃ (j : Nat), (m = (BehindR (prE E) y2).length - j) ∧ (F = [(0, .pointer (some ⟨x, 0, none⟩)), (4, .int .i64 N[i]), (5, .map (some mf)), (6, .int .i64 ((r + 1 + 1 : Nat) : Int)), (8, .slice (some ⟨b5, off5, none⟩) (pre.length + 1) cap8), (44, .slice A44 (BehindR (prE E) y2).length cap44), (45, .int .i64 ((BehindR (prE E) y2).length : Nat)), (46, .int .i64 (j : Nat))]) ∧ (ro2 = ro') ∧ (L' = R44 :: [(b5, .cells cur5 3 (0, 0))] :: [(mf, .map es clk)] :: L) ∧ (j ≤ (BehindR (prE E) y2).length) ∧ (∀ q : Nat, q < j → ∀ b, (BehindR (prE E) y2)[q]? = some b → (fin (Ob E) N N[i] b == some (r + 1) && !decide (b = N[i])) = false)) ((BehindR (prE E) y2).length - 0) [(0, .pointer (some ⟨x, 0, none⟩)), (4, .int .i64 N[i]), (5, .map (some mf)), (6, .int .i64 ((r + 1 + 1 : Nat) : Int)), (8, .slice (some ⟨b5, off5, none⟩) (pre.length + 1) cap8), (44, .slice A44 (BehindR (prE E) y2).length cap44), (45, .int .i64 ((BehindR (prE E) y2).length : Nat)), (46, .int .i64 (0 : Nat))] ⟨rfl, rfl, rfl, rfl, rfl, rfl, rfl, rfl, trivial⟩ ⟨0, rfl, rfl, rfl, rfl, by omega, by intro j hj; omega⟩ ?_
          rintro m F ro' L' ⟨j, rfl, rfl, rfl, rfl, hj, hno⟩
          refine seq ?_
          refine region ?_
          refine op (y (x_lss rfl rfl) rfl ?_)
          refine nil ?_
          refine n_then ?_
          refine seq ?_
          refine cond rfl (fun h11 => ?_) (fun h11 => ?_)
          · try simp only [decide_eq_true_eq, decide_eq_false_iff_not, beq_iff_eq, bne_iff_ne, ne_eq, beq_eq_false_iff_ne, bne_eq_false_iff_eq, Bool.not_eq_true', Bool.not_eq_false', Bool.not_eq_true, Bool.not_eq_false, Decidable.not_not, Int.not_lt, Int.not_le] at h11
            refine skip ?_
            refine n_then ?_
            refine seq ?_
            refine block ?_
            refine seq ?_
            have hjl : j < (BehindR (prE E) y2).length := by omega
            obtain ⟨b6, off6, cur6, rfl, rfl, y4, hy4, hc6⟩ := OwnS.intAt hO44 hjl rfl
            refine region ?_
            refine op (y (x_indexNat sz_23 rfl rfl (by omega)) rfl ?_)
            refine op (y (x_load1 ag_3 rfl (Cell.own 0 rfl hc6)) rfl ?_)
            refine op (y (x_assign rfl) rfl ?_)
            refine nil ?_
            refine n_then ?_
            refine seq ?_
            refine region ?_
            refine op (y (x_move rfl) rfl ?_)
            refine op (y (x_move rfl) rfl ?_)
            refine op (y ((x_lookup2 Try.underlying117 kI zc_3 rfl rfl (mem1 (mem1 (mem0 (List.mem_singleton.2 rfl)))) hEf).as (v' := .tuple #[.int .i64 (((fin (Ob E) N N[i] y4).getD 0 : Nat) : Int), .bool (fin (Ob E) N N[i] y4).isSome]) (by rw [hmf]; cases fin (Ob E) N N[i] y4 <;> rfl)) rfl ?_)
            refine op (y (x_move rfl) rfl ?_)
            refine op (y (x_extract rfl rfl) rfl ?_)
            refine op (y (x_extract rfl rfl) rfl ?_)
            refine op (y (x_assign rfl) rfl ?_)
            refine op (y (x_assign rfl) rfl ?_)
            refine nil ?_
            refine n_then ?_
            refine seq ?_
            refine region ?_
            refine op (y (x_move rfl) rfl ?_)
            refine op (y (x_move rfl) rfl ?_)
            refine bsplit 57 rfl (fun g57 => ?_) (fun g57 => ?_)
            · try simp only [decide_eq_true_eq, decide_eq_false_iff_not, beq_iff_eq, bne_iff_ne, ne_eq, beq_eq_false_iff_ne, bne_eq_false_iff_eq, Bool.not_eq_true', Bool.not_eq_false', Bool.not_eq_true, Bool.not_eq_false, Decidable.not_not, Int.not_lt, Int.not_le] at g57
              refine opG rfl rfl (y (x_move rfl) rfl ?_)
              refine opG rfl rfl (y (x_move rfl) rfl ?_)
              refine opG rfl rfl (y (x_sub rfl rfl _ (wr (by omega) (by omega))) rfl ?_)
              refine opG rfl rfl (y (x_eql rfl rfl) rfl ?_)
              refine op (y (x_pickT rfl rfl) rfl ?_)
              refine op (y (x_move rfl) rfl ?_)
              refine bsplit 63 rfl (fun g63 => ?_) (fun g63 => ?_)
              · try simp only [decide_eq_true_eq, decide_eq_false_iff_not, beq_iff_eq, bne_iff_ne, ne_eq, beq_eq_false_iff_ne, bne_eq_false_iff_eq, Bool.not_eq_true', Bool.not_eq_false', Bool.not_eq_true, Bool.not_eq_false, Decidable.not_not, Int.not_lt, Int.not_le] at g63
                refine opG rfl rfl (y (x_move rfl) rfl ?_)
                refine opG rfl rfl (y (x_move rfl) rfl ?_)
                refine opG rfl rfl (y (x_neq rfl rfl) rfl ?_)
                refine op (y (x_pickT rfl rfl) rfl ?_)
                refine nil ?_
                refine n_then ?_
                refine cond rfl (fun h14 => ?_) (fun h14 => ?_)
                · try simp only [decide_eq_true_eq, decide_eq_false_iff_not, beq_iff_eq, bne_iff_ne, ne_eq, beq_eq_false_iff_ne, bne_eq_false_iff_eq, Bool.not_eq_true', Bool.not_eq_false', Bool.not_eq_true, Bool.not_eq_false, Decidable.not_not, Int.not_lt, Int.not_le] at h14
                  refine seq ?_
                  refine region ?_
                  refine op (y (x_move rfl) rfl ?_)
                  refine op (y (x_move rfl) rfl ?_)
                  refine op (e_slice1 rfl Try.underlying23 ti_3 rfl rfl (by decide) (by decide) rfl rfl rfl fun b70 => ?_)
                  refine op (e_append1 1 rfl st_23 rfl rfl rfl hT2 rfl rfl (by omega) (by omega) (fun _ => rfl) fun A71 cap71 R71 hO71 => ?_)
                  refine op (y (x_assign rfl) rfl ?_)
                  refine nil ?_
                  refine n_then ?_
                  refine exit ?_
                  refine e_out rfl ?_
                  refine e_then ?_
                  refine e_then ?_
                  refine e_in ?_
                  refine n_in ?_
                  have hpb : (fin (Ob E) N N[i] y4 == some (r + 1) && !decide (y4 = N[i])) = true := by
                    cases hfk : fin (Ob E) N N[i] y4 <;> simp_all <;> omega
                  have hfd : (Ob E y2).find? (fun b => fin (Ob E) N N[i] b == some (r + 1) && !decide (b = N[i])) = some y4 := find_at hno hy4 hpb
                  have hl : (pre ++ [y2]).length = pre.length + 1 := by simp
                  rw [← hl] at hO71 ⊢
                  refine drop0 ?_
                  exact mid [(0, .pointer (some ⟨x, 0, none⟩)), (4, .int .i64 N[i]), (5, .map (some mf)), (6, .int .i64 (((r + 1) + 1 : Nat) : Int)), (8, .slice _ (((pre ++ [y2])).length + 1) _)] ⟨rfl, rfl, rfl, rfl, rfl, trivial⟩ ⟨(pre ++ [y2]), y4, _, _, _, rfl, rfl, rfl, hO71.snoc, by rw [heq]; simp only [cg, hfd, List.append_assoc, List.cons_append, List.nil_append]; rfl, by rw [hl]; omega, by omega⟩
                · try simp only [decide_eq_true_eq, decide_eq_false_iff_not, beq_iff_eq, bne_iff_ne, ne_eq, beq_eq_false_iff_ne, bne_eq_false_iff_eq, Bool.not_eq_true', Bool.not_eq_false', Bool.not_eq_true, Bool.not_eq_false, Decidable.not_not, Int.not_lt, Int.not_le] at h14
                  refine skip ?_
                  refine n_in ?_
                  refine n_then ?_
                  refine region ?_
                  refine op (y (x_add rfl rfl _ (wr (by omega) (by omega))) rfl ?_)
                  refine op (y (x_move rfl) rfl ?_)
                  refine nil ?_
                  have hpb : (fin (Ob E) N N[i] y4 == some (r + 1) && !decide (y4 = N[i])) = false := by
                    cases hfk : fin (Ob E) N N[i] y4 <;> simp_all <;> omega
                  exact round ((BehindR (prE E) y2).length - (j + 1)) [(0, .pointer (some ⟨x, 0, none⟩)), (4, .int .i64 N[i]), (5, .map (some mf)), (6, .int .i64 ((r + 1 + 1 : Nat) : Int)), (8, .slice (some ⟨b5, off5, none⟩) (pre.length + 1) cap8), (44, .slice _ (BehindR (prE E) y2).length cap44), (45, .int .i64 ((BehindR (prE E) y2).length : Nat)), (46, .int .i64 ((j + 1) : Nat))] (by omega) ⟨rfl, rfl, rfl, rfl, rfl, rfl, rfl, rfl, trivial⟩ ⟨j + 1, rfl, rfl, rfl, rfl, by omega, upto (p := fun q => ∀ b, (BehindR (prE E) y2)[q]? = some b → (fin (Ob E) N N[i] b == some (r + 1) && !decide (b = N[i])) = false) hno (fun b e => by rw [hy4] at e; cases e; exact hpb)⟩
              · try simp only [decide_eq_true_eq, decide_eq_false_iff_not, beq_iff_eq, bne_iff_ne, ne_eq, beq_eq_false_iff_ne, bne_eq_false_iff_eq, Bool.not_eq_true', Bool.not_eq_false', Bool.not_eq_true, Bool.not_eq_false, Decidable.not_not, Int.not_lt, Int.not_le] at g63
                refine opN rfl rfl rfl rfl ?_
                refine opN rfl rfl rfl rfl ?_
                refine opN rfl rfl rfl rfl ?_
                refine op (y (x_pickF rfl rfl) rfl ?_)
                refine nil ?_
                refine n_then ?_
                refine condF rfl ?_
                refine skip ?_
                refine n_in ?_
                refine n_then ?_
                refine region ?_
                refine op (y (x_add rfl rfl _ (wr (by omega) (by omega))) rfl ?_)
                refine op (y (x_move rfl) rfl ?_)
                refine nil ?_
                have hpb : (fin (Ob E) N N[i] y4 == some (r + 1) && !decide (y4 = N[i])) = false := by
                  cases hfk : fin (Ob E) N N[i] y4 <;> simp_all <;> omega
                exact round ((BehindR (prE E) y2).length - (j + 1)) [(0, .pointer (some ⟨x, 0, none⟩)), (4, .int .i64 N[i]), (5, .map (some mf)), (6, .int .i64 ((r + 1 + 1 : Nat) : Int)), (8, .slice (some ⟨b5, off5, none⟩) (pre.length + 1) cap8), (44, .slice _ (BehindR (prE E) y2).length cap44), (45, .int .i64 ((BehindR (prE E) y2).length : Nat)), (46, .int .i64 ((j + 1) : Nat))] (by omega) ⟨rfl, rfl, rfl, rfl, rfl, rfl, rfl, rfl, trivial⟩ ⟨j + 1, rfl, rfl, rfl, rfl, by omega, upto (p := fun q => ∀ b, (BehindR (prE E) y2)[q]? = some b → (fin (Ob E) N N[i] b == some (r + 1) && !decide (b = N[i])) = false) hno (fun b e => by rw [hy4] at e; cases e; exact hpb)⟩
            · try simp only [decide_eq_true_eq, decide_eq_false_iff_not, beq_iff_eq, bne_iff_ne, ne_eq, beq_eq_false_iff_ne, bne_eq_false_iff_eq, Bool.not_eq_true', Bool.not_eq_false', Bool.not_eq_true, Bool.not_eq_false, Decidable.not_not, Int.not_lt, Int.not_le] at g57
              refine opN rfl rfl rfl rfl ?_
              refine opN rfl rfl rfl rfl ?_
              refine opN rfl rfl rfl rfl ?_
              refine opN rfl rfl rfl rfl ?_
              refine op (y (x_pickF rfl rfl) rfl ?_)
              refine op (y (x_move rfl) rfl ?_)
              refine opN rfl rfl rfl rfl ?_
              refine opN rfl rfl rfl rfl ?_
              refine opN rfl rfl rfl rfl ?_
              refine op (y (x_pickF rfl rfl) rfl ?_)
              refine nil ?_
              refine n_then ?_
              refine condF rfl ?_
              refine skip ?_
              refine n_in ?_
              refine n_then ?_
              refine region ?_
              refine op (y (x_add rfl rfl _ (wr (by omega) (by omega))) rfl ?_)
              refine op (y (x_move rfl) rfl ?_)
              refine nil ?_
              have hpb : (fin (Ob E) N N[i] y4 == some (r + 1) && !decide (y4 = N[i])) = false := by
                cases hfk : fin (Ob E) N N[i] y4 <;> simp_all <;> omega
              exact round ((BehindR (prE E) y2).length - (j + 1)) [(0, .pointer (some ⟨x, 0, none⟩)), (4, .int .i64 N[i]), (5, .map (some mf)), (6, .int .i64 ((r + 1 + 1 : Nat) : Int)), (8, .slice (some ⟨b5, off5, none⟩) (pre.length + 1) cap8), (44, .slice _ (BehindR (prE E) y2).length cap44), (45, .int .i64 ((BehindR (prE E) y2).length : Nat)), (46, .int .i64 ((j + 1) : Nat))] (by omega) ⟨rfl, rfl, rfl, rfl, rfl, rfl, rfl, rfl, trivial⟩ ⟨j + 1, rfl, rfl, rfl, rfl, by omega, upto (p := fun q => ∀ b, (BehindR (prE E) y2)[q]? = some b → (fin (Ob E) N N[i] b == some (r + 1) && !decide (b = N[i])) = false) hno (fun b e => by rw [hy4] at e; cases e; exact hpb)⟩
          · try simp only [decide_eq_true_eq, decide_eq_false_iff_not, beq_iff_eq, bne_iff_ne, ne_eq, beq_eq_false_iff_ne, bne_eq_false_iff_eq, Bool.not_eq_true', Bool.not_eq_false', Bool.not_eq_true, Bool.not_eq_false, Decidable.not_not, Int.not_lt, Int.not_le] at h11
            refine exit ?_
            refine e_then ?_
            refine e_then ?_
            refine e_in ?_
            refine n_in ?_
            have hje : j = (BehindR (prE E) y2).length := by omega
            subst hje
            have hfd : (Ob E y2).find? (fun b => fin (Ob E) N N[i] b == some (r + 1) && !decide (b = N[i])) = none := find_no hno
            refine drop0 ?_
            exact mid [(0, .pointer (some ⟨x, 0, none⟩)), (4, .int .i64 N[i]), (5, .map (some mf)), (6, .int .i64 (((r + 1) + 1 : Nat) : Int)), (8, .slice _ (pre.length + 1) _)] ⟨rfl, rfl, rfl, rfl, rfl, trivial⟩ ⟨pre, y2, _, _, _, rfl, rfl, rfl, hT2, by rw [heq]; simp only [cg, hfd]; rfl, by omega, by omega⟩
        · rintro F ro' L' ⟨pre2, la2, A9, cap9, R9, rfl, rfl, rfl, hT9, heq9, hpr9, hr9⟩
          refine region ?_
          refine op (y (x_move rfl) rfl ?_)
          refine op (y (x_sub rfl rfl _ (wr (by omega) (by omega))) rfl ?_)
          refine op (y (x_assign rfl) rfl ?_)
          refine nil ?_
          rw [show ((r + 1 : Nat) : Int) - 1 = ((r - 1 + 1 : Nat) : Int) by omega]
          exact round (((r - 1)) + 1) [(0, .pointer (some ⟨x, 0, none⟩)), (4, .int .i64 N[i]), (5, .map (some mf)), (6, .int .i64 ((((r - 1)) + 1 : Nat) : Int)), (8, .slice _ (pre2.length + 1) _)] (by omega) ⟨rfl, rfl, rfl, rfl, rfl, trivial⟩ ⟨(r - 1), pre2, la2, _, _, _, rfl, rfl, rfl, rfl, hT9, heq9, hpr9⟩
      · try simp only [decide_eq_true_eq, decide_eq_false_iff_not, beq_iff_eq, bne_iff_ne, ne_eq, beq_eq_false_iff_ne, bne_eq_false_iff_eq, Bool.not_eq_true', Bool.not_eq_false', Bool.not_eq_true, Bool.not_eq_false, Decidable.not_not, Int.not_lt, Int.not_le] at h8
        refine exit ?_
        refine e_then ?_
        refine e_then ?_
        refine e_in ?_
        refine n_then ?_
        refine seq ?_
        refine region ?_
        refine op (y (x_move rfl) rfl ?_)
        refine op (y (x_assign rfl) rfl ?_)
        refine nil ?_
        refine n_then ?_
        refine ret ?_
        refine r_in ?_
        refine r_then ?_
        refine r_then ?_
        refine r_in ?_
        refine r_then ?_
        obtain rfl : r = 0 := by omega
        have hcy : cycR (Ob E) N = pre ++ [la] := by
          unfold cycR
          rw [find_at hall hx h6]
          simp only [cyc1, hnn]
          rw [heq]
          simp [cg]
        have hcl : (cycR (Ob E) N).length = pre.length + 1 := by rw [hcy]; simp
        rw [← hcl] at hT ⊢
        rw [← hcy] at hT
        refine drop1 ?_
        exact done rfl (.tmp rfl (.nil)) (hle2) (_) (⟨_, .refl _, .refl _⟩) (⟨_, _, _, rfl, hT, rfl⟩)
  · try simp only [decide_eq_true_eq, decide_eq_false_iff_not, beq_iff_eq, bne_iff_ne, ne_eq, beq_eq_false_iff_ne, bne_eq_false_iff_eq, Bool.not_eq_true', Bool.not_eq_false', Bool.not_eq_true, Bool.not_eq_false, Decidable.not_not, Int.not_lt, Int.not_le] at h2
    refine exit ?_
    refine e_then ?_
    refine e_then ?_
    refine e_in ?_
    refine n_then ?_
    refine seq ?_
    refine region ?_
    refine op (y (x_assign rfl) rfl ?_)
    refine nil ?_
    refine n_then ?_
    refine ret ?_
    obtain rfl : i = N.length := by omega
    have hcy : cycR (Ob E) N = [] := by
      unfold cycR
      rw [find_no hall]
    refine emp ?_
    exact done rfl (.tmp rfl (.nil)) (hle2) (_) (⟨_, .refl _, .refl _⟩) (⟨_, _, _, by rw [hcy]; rfl, by rw [hcy]; exact OwnS.none_ 3 1, rfl⟩)

end Go.Proofs.Ytlmeblhcipkgmaa
