/- The walk of the table that tells the fields of an event, by its kind. -/
import Derived.Test.YtijafcilfefafaaDoorV8
namespace Go.Proofs.YtijafcilfefafaaDoor
open Go Go.U
set_option maxRecDepth 20000
set_option linter.unusedSimpArgs false
set_option linter.unusedVariables false

abbrev encI : Int → Value := fun i => Value.int .i64 i
theorem keI : KEnc Tryd.prog 3 encI := kenc_int Tryd.underlying3
/-- a function that tells the fields of events of a kind -/
def Next (fk : FuncId) (caps : List Value) (kind : Int) (ro : Ro) : Prop :=
  ∀ (ro' : Ro) (e : Ev) (i : Nat) (L : List (List Blk)), ro.le ro' → e.kind = kind → i ≤ 1000 → CT Tryd.prog fk ([Value.agg (encEv e).toArray, Value.int .i64 (i : Nat)] ++ caps).toArray ro' L (PV (nextV (flds e) i) L)
theorem Next.mono {fk : FuncId} {caps : List Value} {kind : Int} {ro ro' : Ro} (h : Next fk caps kind ro) (hle : ro.le ro') : Next fk caps kind ro' := fun ro2 e i L h2 hk hi => h ro2 e i L (hle.trans h2) hk hi
def FM (ro : Ro) (m : List (Int × Value)) (S : List Int) : Prop :=
  ∀ kind : Int, (kind ∈ S → ∃ fk caps, mget m kind = some (.func (.func fk) #[] (List.toArray caps)) ∧ Fun Tryd.prog fk ∧ Next fk caps kind ro) ∧ (kind ∉ S → mget m kind = none)
theorem FM.mono {ro ro' : Ro} {m : List (Int × Value)} {S : List Int} (h : FM ro m S) (hle : ro.le ro') : FM ro' m S := fun kind => ⟨fun hk => by
  obtain ⟨fk, caps, h1, h2, h3⟩ := (h kind).1 hk
  exact ⟨fk, caps, h1, h2, h3.mono hle⟩, (h kind).2⟩
theorem FM.nil (ro : Ro) : FM ro [] [] := fun kind => ⟨fun h => (by cases h), fun _ => rfl⟩
theorem FM.set {ro : Ro} {m : List (Int × Value)} {S S' : List Int} {k : Int} {fk : FuncId} {caps : List Value} (h : FM ro m S) (hf : Fun Tryd.prog fk) (hn : Next fk caps k ro) (hS : ∀ x, x ∈ S' ↔ x = k ∨ x ∈ S) : FM ro (mset m k (.func (.func fk) #[] (List.toArray caps))) S' := fun kind => by
  rw [mget_mset]
  by_cases hk : k = kind
  · subst hk
    exact ⟨fun _ => ⟨fk, caps, if_pos rfl, hf, hn⟩, fun h => absurd ((hS k).2 (.inl rfl)) h⟩
  · rw [if_neg hk]
    refine ⟨fun hm => (h kind).1 ?_, fun hm => (h kind).2 fun hs => hm ((hS kind).2 (.inr hs))⟩
    rcases (hS kind).1 hm with rfl | h2
    · exact absurd rfl hk
    · exact h2
theorem Next.list {b : Nat} {l : List Nat} {A : Option Addr} {cap : Nat} {ro : Ro} {kind : Int} (hl : Sl ro 4 fldV A cap l) (hb : ro.cell b 0 = some (.slice A l.length cap)) (hf : ∀ e : Ev, e.kind = kind → flds e = l) : Next 73 [.pointer (some ⟨b, 0, none⟩)] kind ro := fun ro' e i L hle hk hi => by
  rw [hf e hk]
  exact (next_c e i hi l A cap b ro' L (hl.mono hle) (hle.cell hb)).mono fun v ro2 L2 _ hp => ⟨hp.1, hp.2.2⟩
theorem Next.two {b : Nat} {ro : Ro} (hb : ro.cell b 0 = some (.func (.func 72) #[] #[])) : Next 76 [.pointer (some ⟨b, 0, none⟩)] 2 ro := fun ro' e i L hle hk hi => fields2_c e i hi b ro' L (hle.cell hb) hk
theorem Next.three {b : Nat} {ro : Ro} (hb : ro.cell b 0 = some (.func (.func 72) #[] #[])) : Next 83 [.pointer (some ⟨b, 0, none⟩)] 3 ro := fun ro' e i L hle hk hi => fields3_c e i hi b ro' L (hle.cell hb) hk
theorem flds_1 {e : Ev} (hk : e.kind = 1) : flds e = [1, 2] := by simp [flds, hk]
theorem flds_4 {e : Ev} {k : Int} (hk : e.kind = k) (h : 4 ≤ k) : flds e = [1] := by
  unfold flds
  rw [if_neg (by omega), if_neg (by omega), if_neg (by omega)]
def kinds4 : List Int := [4, 5, 6, 7]
theorem kinds4_ge {k : Nat} (h : k < kinds4.length) : 4 ≤ kinds4[k] := by
  have : ∀ x ∈ kinds4, 4 ≤ x := by decide
  exact this _ (List.getElem_mem h)

def PFields (L : List (List Blk)) : Value → Ro → List (List Blk) → Prop := fun v ro' L' => ∃ (r : Nat) (es : Array MapEntry) (clk : Nat) (m : List (Int × Value)), v = .map (some r) ∧ ro'.cells r = some (.map es clk) ∧ MapE encI m es clk ∧ FM ro' m [3, 2, 1, 4, 5, 6, 7] ∧ L = L'

theorem fields_c (ro : Ro) (L : List (List Blk)) : CT Tryd.prog 62 [].toArray ro L (PFields L) := by
  refine enter Tryd.func62 rfl Tryd.ntmps62 rfl ?_
  refine seq ?_
  refine region ?_
  refine op (y (x_assign rfl) rfl ?_)
  refine nil ?_
  refine n_then ?_
  refine seq ?_
  refine region ?_
  refine op (e_alloc rfl zc_117 rfl fun b1 => ?_)
  first | refine op (e_store 0 rfl rfl ts_117 rfl rfl rfl rfl rfl rfl ?_) | refine op (e_store 1 rfl rfl ts_117 rfl rfl rfl rfl rfl rfl ?_) | refine op (e_store 2 rfl rfl ts_117 rfl rfl rfl rfl rfl rfl ?_) | refine op (e_store 3 rfl rfl ts_117 rfl rfl rfl rfl rfl rfl ?_) | refine op (e_store 4 rfl rfl ts_117 rfl rfl rfl rfl rfl rfl ?_) | refine op (e_store 5 rfl rfl ts_117 rfl rfl rfl rfl rfl rfl ?_) | refine op (e_store 6 rfl rfl ts_117 rfl rfl rfl rfl rfl rfl ?_) | refine op (e_store 7 rfl rfl ts_117 rfl rfl rfl rfl rfl rfl ?_) | refine op (e_store 8 rfl rfl ts_117 rfl rfl rfl rfl rfl rfl ?_) | refine op (e_store 9 rfl rfl ts_117 rfl rfl rfl rfl rfl rfl ?_)
  refine nil ?_
  refine n_then ?_
  refine seqM (fun F ro' L' => ∃ (b1 : Nat) (r : Nat) (es : Array MapEntry) (clk : Nat) (mm : List (Int × Value)), (F = [(1, .pointer (some ⟨b1, 0, none⟩)), (2, .map (some r))]) ∧ (L' = [(r, .map es clk)] :: L) ∧ (ro.le ro') ∧ (ro'.cell b1 0 = some (.func (.func 72) #[] #[])) ∧ (MapE encI mm es clk) ∧ (FM ro' mm [1])) ?_ ?_
  · skip
    refine ufreeze fun ro1 hle1 hR1 => ?_
    have hb1 : ro1.cell b1 0 = some (.func (.func 72) #[] #[]) := by have := hR1 _ (List.mem_singleton.2 rfl); simp only at this; unfold Ro.cell; rw [this]; rfl
    refine draw (([] : List Blk)) (by kernel_rfl) ?_
    refine d_take 1 rfl (by kernel_rfl) (by kernel_rfl) (by kernel_rfl) (fun _ _ _ h => h) rfl (.inl rfl) (x_load1 ag_117 rfl (Cell.ofRo hb1)) (fun w hi => J.of_le (by first | exact Ro.le.refl _ | exact hlz9 | exact hlz9.trans hle10) (fun x hx => absurd hx (by simp)) hi) ?_
    refine d_two 0 2 (by kernel_rfl) ?_ ?_
    · skip
      refine d_the rfl (.inl rfl) (e_makeMap rfl fun b5 => ?_)
      refine d_next (fun w hi => J.of_le (by first | exact Ro.le.refl _ | exact hlz9 | exact hlz9.trans hle10) (fun x hx => absurd hx (by simp)) hi) ?_
      refine d_one 2 rfl (by kernel_rfl) (.inl rfl) (e_call rfl fn_74 rfl rfl (txF_c _ _) fun v7 ro7 L7 hle7 hp7 => ?_)
      obtain ⟨rfl, rfl, rfl⟩ := hp7
      refine d_next (fun w hi => J.of_le (by first | exact Ro.le.refl _ | exact hlz9 | exact hlz9.trans hle10) (fun x hx => absurd hx (by simp)) hi) ?_
      refine d_one 3 rfl (by kernel_rfl) (.inl rfl) (e_call rfl fn_75 rfl rfl (threadF_c _ _) fun v8 ro8 L8 hle8 hp8 => ?_)
      obtain ⟨rfl, rfl, rfl⟩ := hp8
      refine d_next (fun w hi => J.of_le (by first | exact Ro.le.refl _ | exact hlz9 | exact hlz9.trans hle10) (fun x hx => absurd hx (by simp)) hi) ?_
      refine d_one 4 rfl (by kernel_rfl) (.inl rfl) (e_sliceN (zs := [.nilFunc, .int .i64 0, .int .i64 0, .int .i64 0, .nilFunc, .int .i64 0, .int .i64 0, .int .i64 0]) rfl Tryd.underlying116 ti_106 tz_106 rfl (by decide) (by decide) (by kernel_rfl) rfl rfl fun b9 => ?_)
      refine d_next (fun w hi => J.of_le (by first | exact Ro.le.refl _ | exact hlz9 | exact hlz9.trans hle10) (fun x hx => absurd hx (by simp)) hi) ?_
      try refine swap0 (R := [(b5, _)]) (S := [(b9, _)]) ?_
      refine ufreeze fun rz9 hlz9 hRz9 => ?_
      have hSz9 : Sl rz9 4 fldV (some ⟨b9, 0, none⟩) 2 [1, 2] := OwnS.sl (e := 106) (k := 4) (l := [1, 2]) (enc := fldV) (OwnS.lit rfl (by simp [maxLen])) enc_fld hRz9
      refine d_one 5 rfl (by kernel_rfl) (.inl rfl) (e_call rfl (fn_72) rfl rfl (list_c [1, 2] _ _ _ _ hSz9) fun v10 ro10 L10 hle10 hp10 => ?_)
      obtain ⟨bc, rfl, hS7, hbc, rfl⟩ := hp10
      refine d_next (fun w hi => J.of_le (by first | exact Ro.le.refl _ | exact hlz9 | exact hlz9.trans hle10) (fun x hx => absurd hx (by simp)) hi) ?_
      refine d_one 6 rfl (by kernel_rfl) (.inl rfl) (e_insert 0 Tryd.underlying102 keI rfl rfl rfl rfl MapE.empty (fun _ _ => rfl) fun es2 clk2 hE2 => ?_)
      refine d_next (fun w hi => J.of_le (by first | exact Ro.le.refl _ | exact hlz9 | exact hlz9.trans hle10) (fun x hx => absurd hx (by simp)) hi) ?_
      refine d_take 7 rfl (by kernel_rfl) (by kernel_rfl) (by kernel_rfl) (fun _ _ _ h => h) rfl (.inl rfl) (x_move rfl) (fun w hi => J.of_le (by first | exact Ro.le.refl _ | exact hlz9 | exact hlz9.trans hle10) (fun x hx => absurd hx (by simp)) hi) ?_
      refine d_take 8 rfl (by kernel_rfl) (by kernel_rfl) (by kernel_rfl) (fun _ _ _ h => h) rfl (.inl rfl) (x_assign rfl) (fun w hi => J.of_le (by first | exact Ro.le.refl _ | exact hlz9 | exact hlz9.trans hle10) (fun x hx => absurd hx (by simp)) hi) ?_
      refine d_end (by kernel_rfl) ?_
      exact mid [(1, .pointer (some ⟨b1, 0, none⟩)), (2, .map (some b5))] ⟨rfl, rfl, trivial⟩ ⟨b1, b5, es2, clk2, _, rfl, rfl, hle1.trans (hlz9.trans hle10), (hlz9.trans hle10).cell hb1, hE2, (FM.nil _).set fn_73 (Next.list hS7 hbc (fun e he => flds_1 he)) (by simp)⟩
    · skip
      refine d_the rfl (.inl rfl) (e_call rfl fn_74 rfl rfl (txF_c _ _) fun v7 ro7 L7 hle7 hp7 => ?_)
      obtain ⟨rfl, rfl, rfl⟩ := hp7
      refine d_next (fun w hi => J.of_le (by first | exact Ro.le.refl _ | exact hlz9 | exact hlz9.trans hle10) (fun x hx => absurd hx (by simp)) hi) ?_
      refine d_two 0 3 (by kernel_rfl) ?_ ?_
      · skip
        refine d_the rfl (.inl rfl) (e_makeMap rfl fun b5 => ?_)
        refine d_next (fun w hi => J.of_le (by first | exact Ro.le.refl _ | exact hlz9 | exact hlz9.trans hle10) (fun x hx => absurd hx (by simp)) hi) ?_
        refine d_one 3 rfl (by kernel_rfl) (.inl rfl) (e_call rfl fn_75 rfl rfl (threadF_c _ _) fun v8 ro8 L8 hle8 hp8 => ?_)
        obtain ⟨rfl, rfl, rfl⟩ := hp8
        refine d_next (fun w hi => J.of_le (by first | exact Ro.le.refl _ | exact hlz9 | exact hlz9.trans hle10) (fun x hx => absurd hx (by simp)) hi) ?_
        refine d_one 4 rfl (by kernel_rfl) (.inl rfl) (e_sliceN (zs := [.nilFunc, .int .i64 0, .int .i64 0, .int .i64 0, .nilFunc, .int .i64 0, .int .i64 0, .int .i64 0]) rfl Tryd.underlying116 ti_106 tz_106 rfl (by decide) (by decide) (by kernel_rfl) rfl rfl fun b9 => ?_)
        refine d_next (fun w hi => J.of_le (by first | exact Ro.le.refl _ | exact hlz9 | exact hlz9.trans hle10) (fun x hx => absurd hx (by simp)) hi) ?_
        try refine swap0 (R := [(b5, _)]) (S := [(b9, _)]) ?_
        refine ufreeze fun rz9 hlz9 hRz9 => ?_
        have hSz9 : Sl rz9 4 fldV (some ⟨b9, 0, none⟩) 2 [1, 2] := OwnS.sl (e := 106) (k := 4) (l := [1, 2]) (enc := fldV) (OwnS.lit rfl (by simp [maxLen])) enc_fld hRz9
        refine d_one 5 rfl (by kernel_rfl) (.inl rfl) (e_call rfl (fn_72) rfl rfl (list_c [1, 2] _ _ _ _ hSz9) fun v10 ro10 L10 hle10 hp10 => ?_)
        obtain ⟨bc, rfl, hS7, hbc, rfl⟩ := hp10
        refine d_next (fun w hi => J.of_le (by first | exact Ro.le.refl _ | exact hlz9 | exact hlz9.trans hle10) (fun x hx => absurd hx (by simp)) hi) ?_
        refine d_one 6 rfl (by kernel_rfl) (.inl rfl) (e_insert 0 Tryd.underlying102 keI rfl rfl rfl rfl MapE.empty (fun _ _ => rfl) fun es2 clk2 hE2 => ?_)
        refine d_next (fun w hi => J.of_le (by first | exact Ro.le.refl _ | exact hlz9 | exact hlz9.trans hle10) (fun x hx => absurd hx (by simp)) hi) ?_
        refine d_take 7 rfl (by kernel_rfl) (by kernel_rfl) (by kernel_rfl) (fun _ _ _ h => h) rfl (.inl rfl) (x_move rfl) (fun w hi => J.of_le (by first | exact Ro.le.refl _ | exact hlz9 | exact hlz9.trans hle10) (fun x hx => absurd hx (by simp)) hi) ?_
        refine d_take 8 rfl (by kernel_rfl) (by kernel_rfl) (by kernel_rfl) (fun _ _ _ h => h) rfl (.inl rfl) (x_assign rfl) (fun w hi => J.of_le (by first | exact Ro.le.refl _ | exact hlz9 | exact hlz9.trans hle10) (fun x hx => absurd hx (by simp)) hi) ?_
        refine d_end (by kernel_rfl) ?_
        exact mid [(1, .pointer (some ⟨b1, 0, none⟩)), (2, .map (some b5))] ⟨rfl, rfl, trivial⟩ ⟨b1, b5, es2, clk2, _, rfl, rfl, hle1.trans (hlz9.trans hle10), (hlz9.trans hle10).cell hb1, hE2, (FM.nil _).set fn_73 (Next.list hS7 hbc (fun e he => flds_1 he)) (by simp)⟩
      · skip
        refine d_the rfl (.inl rfl) (e_call rfl fn_75 rfl rfl (threadF_c _ _) fun v8 ro8 L8 hle8 hp8 => ?_)
        obtain ⟨rfl, rfl, rfl⟩ := hp8
        refine d_next (fun w hi => J.of_le (by first | exact Ro.le.refl _ | exact hlz9 | exact hlz9.trans hle10) (fun x hx => absurd hx (by simp)) hi) ?_
        refine d_two 0 4 (by kernel_rfl) ?_ ?_
        · skip
          refine d_the rfl (.inl rfl) (e_makeMap rfl fun b5 => ?_)
          refine d_next (fun w hi => J.of_le (by first | exact Ro.le.refl _ | exact hlz9 | exact hlz9.trans hle10) (fun x hx => absurd hx (by simp)) hi) ?_
          refine d_one 4 rfl (by kernel_rfl) (.inl rfl) (e_sliceN (zs := [.nilFunc, .int .i64 0, .int .i64 0, .int .i64 0, .nilFunc, .int .i64 0, .int .i64 0, .int .i64 0]) rfl Tryd.underlying116 ti_106 tz_106 rfl (by decide) (by decide) (by kernel_rfl) rfl rfl fun b9 => ?_)
          refine d_next (fun w hi => J.of_le (by first | exact Ro.le.refl _ | exact hlz9 | exact hlz9.trans hle10) (fun x hx => absurd hx (by simp)) hi) ?_
          try refine swap0 (R := [(b5, _)]) (S := [(b9, _)]) ?_
          refine ufreeze fun rz9 hlz9 hRz9 => ?_
          have hSz9 : Sl rz9 4 fldV (some ⟨b9, 0, none⟩) 2 [1, 2] := OwnS.sl (e := 106) (k := 4) (l := [1, 2]) (enc := fldV) (OwnS.lit rfl (by simp [maxLen])) enc_fld hRz9
          refine d_one 5 rfl (by kernel_rfl) (.inl rfl) (e_call rfl (fn_72) rfl rfl (list_c [1, 2] _ _ _ _ hSz9) fun v10 ro10 L10 hle10 hp10 => ?_)
          obtain ⟨bc, rfl, hS7, hbc, rfl⟩ := hp10
          refine d_next (fun w hi => J.of_le (by first | exact Ro.le.refl _ | exact hlz9 | exact hlz9.trans hle10) (fun x hx => absurd hx (by simp)) hi) ?_
          refine d_one 6 rfl (by kernel_rfl) (.inl rfl) (e_insert 0 Tryd.underlying102 keI rfl rfl rfl rfl MapE.empty (fun _ _ => rfl) fun es2 clk2 hE2 => ?_)
          refine d_next (fun w hi => J.of_le (by first | exact Ro.le.refl _ | exact hlz9 | exact hlz9.trans hle10) (fun x hx => absurd hx (by simp)) hi) ?_
          refine d_take 7 rfl (by kernel_rfl) (by kernel_rfl) (by kernel_rfl) (fun _ _ _ h => h) rfl (.inl rfl) (x_move rfl) (fun w hi => J.of_le (by first | exact Ro.le.refl _ | exact hlz9 | exact hlz9.trans hle10) (fun x hx => absurd hx (by simp)) hi) ?_
          refine d_take 8 rfl (by kernel_rfl) (by kernel_rfl) (by kernel_rfl) (fun _ _ _ h => h) rfl (.inl rfl) (x_assign rfl) (fun w hi => J.of_le (by first | exact Ro.le.refl _ | exact hlz9 | exact hlz9.trans hle10) (fun x hx => absurd hx (by simp)) hi) ?_
          refine d_end (by kernel_rfl) ?_
          exact mid [(1, .pointer (some ⟨b1, 0, none⟩)), (2, .map (some b5))] ⟨rfl, rfl, trivial⟩ ⟨b1, b5, es2, clk2, _, rfl, rfl, hle1.trans (hlz9.trans hle10), (hlz9.trans hle10).cell hb1, hE2, (FM.nil _).set fn_73 (Next.list hS7 hbc (fun e he => flds_1 he)) (by simp)⟩
        · skip
          refine d_the rfl (.inl rfl) (e_sliceN (zs := [.nilFunc, .int .i64 0, .int .i64 0, .int .i64 0, .nilFunc, .int .i64 0, .int .i64 0, .int .i64 0]) rfl Tryd.underlying116 ti_106 tz_106 rfl (by decide) (by decide) (by kernel_rfl) rfl rfl fun b9 => ?_)
          refine d_next (fun w hi => J.of_le (by first | exact Ro.le.refl _ | exact hlz9 | exact hlz9.trans hle10) (fun x hx => absurd hx (by simp)) hi) ?_
          refine d_two 0 5 (by kernel_rfl) ?_ ?_
          · skip
            refine d_the rfl (.inl rfl) (e_makeMap rfl fun b5 => ?_)
            refine d_next (fun w hi => J.of_le (by first | exact Ro.le.refl _ | exact hlz9 | exact hlz9.trans hle10) (fun x hx => absurd hx (by simp)) hi) ?_
            try refine swap0 (R := [(b5, _)]) (S := [(b9, _)]) ?_
            refine ufreeze fun rz9 hlz9 hRz9 => ?_
            have hSz9 : Sl rz9 4 fldV (some ⟨b9, 0, none⟩) 2 [1, 2] := OwnS.sl (e := 106) (k := 4) (l := [1, 2]) (enc := fldV) (OwnS.lit rfl (by simp [maxLen])) enc_fld hRz9
            refine d_one 5 rfl (by kernel_rfl) (.inl rfl) (e_call rfl (fn_72) rfl rfl (list_c [1, 2] _ _ _ _ hSz9) fun v10 ro10 L10 hle10 hp10 => ?_)
            obtain ⟨bc, rfl, hS7, hbc, rfl⟩ := hp10
            refine d_next (fun w hi => J.of_le (by first | exact Ro.le.refl _ | exact hlz9 | exact hlz9.trans hle10) (fun x hx => absurd hx (by simp)) hi) ?_
            refine d_one 6 rfl (by kernel_rfl) (.inl rfl) (e_insert 0 Tryd.underlying102 keI rfl rfl rfl rfl MapE.empty (fun _ _ => rfl) fun es2 clk2 hE2 => ?_)
            refine d_next (fun w hi => J.of_le (by first | exact Ro.le.refl _ | exact hlz9 | exact hlz9.trans hle10) (fun x hx => absurd hx (by simp)) hi) ?_
            refine d_take 7 rfl (by kernel_rfl) (by kernel_rfl) (by kernel_rfl) (fun _ _ _ h => h) rfl (.inl rfl) (x_move rfl) (fun w hi => J.of_le (by first | exact Ro.le.refl _ | exact hlz9 | exact hlz9.trans hle10) (fun x hx => absurd hx (by simp)) hi) ?_
            refine d_take 8 rfl (by kernel_rfl) (by kernel_rfl) (by kernel_rfl) (fun _ _ _ h => h) rfl (.inl rfl) (x_assign rfl) (fun w hi => J.of_le (by first | exact Ro.le.refl _ | exact hlz9 | exact hlz9.trans hle10) (fun x hx => absurd hx (by simp)) hi) ?_
            refine d_end (by kernel_rfl) ?_
            exact mid [(1, .pointer (some ⟨b1, 0, none⟩)), (2, .map (some b5))] ⟨rfl, rfl, trivial⟩ ⟨b1, b5, es2, clk2, _, rfl, rfl, hle1.trans (hlz9.trans hle10), (hlz9.trans hle10).cell hb1, hE2, (FM.nil _).set fn_73 (Next.list hS7 hbc (fun e he => flds_1 he)) (by simp)⟩
          · skip
            try refine swap0 (R := [(b5, _)]) (S := [(b9, _)]) ?_
            refine ufreeze fun rz9 hlz9 hRz9 => ?_
            have hSz9 : Sl rz9 4 fldV (some ⟨b9, 0, none⟩) 2 [1, 2] := OwnS.sl (e := 106) (k := 4) (l := [1, 2]) (enc := fldV) (OwnS.lit rfl (by simp [maxLen])) enc_fld hRz9
            refine d_the rfl (.inl rfl) (e_call rfl (fn_72) rfl rfl (list_c [1, 2] _ _ _ _ hSz9) fun v10 ro10 L10 hle10 hp10 => ?_)
            obtain ⟨bc, rfl, hS7, hbc, rfl⟩ := hp10
            refine d_next (fun w hi => J.of_le (by first | exact Ro.le.refl _ | exact hlz9 | exact hlz9.trans hle10) (fun x hx => absurd hx (by simp)) hi) ?_
            refine d_one 0 rfl (by kernel_rfl) (.inl rfl) (e_makeMap rfl fun b5 => ?_)
            refine d_next (fun w hi => J.of_le (by first | exact Ro.le.refl _ | exact hlz9 | exact hlz9.trans hle10) (fun x hx => absurd hx (by simp)) hi) ?_
            refine d_one 6 rfl (by kernel_rfl) (.inl rfl) (e_insert 0 Tryd.underlying102 keI rfl rfl rfl rfl MapE.empty (fun _ _ => rfl) fun es2 clk2 hE2 => ?_)
            refine d_next (fun w hi => J.of_le (by first | exact Ro.le.refl _ | exact hlz9 | exact hlz9.trans hle10) (fun x hx => absurd hx (by simp)) hi) ?_
            refine d_take 7 rfl (by kernel_rfl) (by kernel_rfl) (by kernel_rfl) (fun _ _ _ h => h) rfl (.inl rfl) (x_move rfl) (fun w hi => J.of_le (by first | exact Ro.le.refl _ | exact hlz9 | exact hlz9.trans hle10) (fun x hx => absurd hx (by simp)) hi) ?_
            refine d_take 8 rfl (by kernel_rfl) (by kernel_rfl) (by kernel_rfl) (fun _ _ _ h => h) rfl (.inl rfl) (x_assign rfl) (fun w hi => J.of_le (by first | exact Ro.le.refl _ | exact hlz9 | exact hlz9.trans hle10) (fun x hx => absurd hx (by simp)) hi) ?_
            refine d_end (by kernel_rfl) ?_
            exact mid [(1, .pointer (some ⟨b1, 0, none⟩)), (2, .map (some b5))] ⟨rfl, rfl, trivial⟩ ⟨b1, b5, es2, clk2, _, rfl, rfl, hle1.trans (hlz9.trans hle10), (hlz9.trans hle10).cell hb1, hE2, (FM.nil _).set fn_73 (Next.list hS7 hbc (fun e he => flds_1 he)) (by simp)⟩
  · rintro F ro' L' ⟨b1, r, es, clk, mm, rfl, rfl, hro, hb1, hE, hF⟩
    refine seq ?_
    refine seq ?_
    refine region ?_
    refine op (e_sliceN (zs := [.int .i64 0, .int .i64 0, .int .i64 0, .int .i64 0]) rfl Tryd.underlying26 ti_3 tz_3 rfl (by decide) (by decide) (by kernel_rfl) rfl rfl fun b12 => ?_)
    refine op (y (x_lenSl sz_26 rfl) rfl ?_)
    refine op (y (x_move rfl) rfl ?_)
    refine nil ?_
    refine n_then ?_
    refine block ?_
    refine ufreeze fun ro12 hle12 hR12 => ?_
    have hS12 : Sl ro12 1 encInt (some ⟨b12, 0, none⟩) 4 kinds4 := OwnS.sl (e := 3) (k := 1) (l := kinds4) (enc := encInt) (OwnS.lit rfl (by decide)) (fun _ _ => rfl) hR12
    refine loop (fun m F ro2' L2' => ∃ (k : Nat) (es : Array MapEntry) (clk : Nat) (mm : List (Int × Value)), (m = 4 - k) ∧ (F = [(1, .pointer (some ⟨b1, 0, none⟩)), (2, .map (some r)), (12, .slice (some ⟨b12, 0, none⟩) 4 4), (13, .int .i64 4), (14, .int .i64 (k : Nat))]) ∧ (L2' = [(r, .map es clk)] :: L) ∧ (k ≤ 4) ∧ (ro12.le ro2') ∧ (MapE encI mm es clk) ∧ (FM ro2' mm (1 :: kinds4.take k))) (4 - 0) [(1, .pointer (some ⟨b1, 0, none⟩)), (2, .map (some r)), (12, .slice (some ⟨b12, 0, none⟩) 4 4), (13, .int .i64 4), (14, .int .i64 (0 : Nat))] ⟨rfl, rfl, rfl, rfl, rfl, trivial⟩ ⟨0, _, _, _, rfl, rfl, rfl, by omega, Ro.le.refl _, hE, hF.mono hle12⟩ ?_
    rintro m F ro2' L2' ⟨k, es, clk, mm, rfl, rfl, rfl, hk4, hro2, hE, hF⟩
    refine seq ?_
    refine region ?_
    refine op (y (x_lss rfl rfl) rfl ?_)
    refine nil ?_
    refine n_then ?_
    refine seq ?_
    refine cond rfl (fun h4 => ?_) (fun h4 => ?_)
    · try simp only [decide_eq_true_eq, decide_eq_false_iff_not, beq_iff_eq, bne_iff_ne, ne_eq, beq_eq_false_iff_ne, bne_eq_false_iff_eq, Bool.not_eq_true', Bool.not_eq_false', Bool.not_eq_true, Bool.not_eq_false, Decidable.not_not, Int.not_lt, Int.not_le] at h4
      refine skip ?_
      refine n_then ?_
      refine seq ?_
      refine block ?_
      refine seq ?_
      have hkl : k < kinds4.length := by show k < 4; omega
      obtain ⟨bbx, offx, hAx, hcx⟩ := (hS12.mono hro2).at_ (i := k) hkl
      simp only [Option.some.injEq, Addr.mk.injEq, and_true] at hAx
      obtain ⟨rfl, rfl⟩ := hAx
      have hx := List.getElem?_eq_getElem hkl
      have cx0 := hcx k _ hx 0 _ rfl
      refine region ?_
      refine op (y (x_indexNat sz_26 rfl rfl (by omega)) rfl ?_)
      refine op (y (x_load1 ag_3 rfl (by first | assumption | exact Cell.own 0 rfl rfl | exact Cell.own 1 rfl rfl | exact Cell.own 2 rfl rfl | exact Cell.own 3 rfl rfl | exact Cell.own 4 rfl rfl | exact Cell.own 5 rfl rfl | exact Cell.own 6 rfl rfl | exact Cell.own 7 rfl rfl | exact Cell.own 8 rfl rfl | exact Cell.own 9 rfl rfl | exact Cell.ofRo (by assumption))) rfl ?_)
      refine op (y (x_assign rfl) rfl ?_)
      refine nil ?_
      refine n_then ?_
      refine draw (([] : List Blk)) (by kernel_rfl) ?_
      refine d_take 0 rfl (by kernel_rfl) (by kernel_rfl) (by kernel_rfl) (fun _ _ _ h => h) rfl (.inl rfl) (x_move rfl) (fun w hi => J.of_le (by first | exact Ro.le.refl _ | exact hlz22 | exact hlz22.trans hle23) (fun x hx => absurd hx (by simp)) hi) ?_
      refine d_take 1 rfl (by kernel_rfl) (by kernel_rfl) (by kernel_rfl) (fun _ _ _ h => h) rfl (.inl rfl) (x_move rfl) (fun w hi => J.of_le (by first | exact Ro.le.refl _ | exact hlz22 | exact hlz22.trans hle23) (fun x hx => absurd hx (by simp)) hi) ?_
      refine d_take 2 rfl (by kernel_rfl) (by kernel_rfl) (by kernel_rfl) (fun _ _ _ h => h) rfl (.inl rfl) (x_load1 ag_117 rfl (Cell.ofRo ((hle12.trans hro2).cell hb1))) (fun w hi => J.of_le (by first | exact Ro.le.refl _ | exact hlz22 | exact hlz22.trans hle23) (fun x hx => absurd hx (by simp)) hi) ?_
      refine d_one 3 rfl (by kernel_rfl) (.inl rfl) (e_call rfl fn_74 rfl rfl (txF_c _ _) fun v21 ro21 L21 hle21 hp21 => ?_)
      obtain ⟨rfl, rfl, rfl⟩ := hp21
      refine d_next (fun w hi => J.of_le (by first | exact Ro.le.refl _ | exact hlz22 | exact hlz22.trans hle23) (fun x hx => absurd hx (by simp)) hi) ?_
      refine d_one 4 rfl (by kernel_rfl) (.inl rfl) (e_slice1 rfl Tryd.underlying116 ti_106 rfl rfl (by decide) (by decide) rfl rfl rfl fun b22 => ?_)
      refine d_next (fun w hi => J.of_le (by first | exact Ro.le.refl _ | exact hlz22 | exact hlz22.trans hle23) (fun x hx => absurd hx (by simp)) hi) ?_
      refine ufreeze fun rz22 hlz22 hRz22 => ?_
      have hSz22 : Sl rz22 4 fldV (some ⟨b22, 0, none⟩) 1 [1] := OwnS.sl (e := 106) (k := 4) (l := [1]) (enc := fldV) (OwnS.lit rfl (by simp [maxLen])) enc_fld hRz22
      refine d_one 5 rfl (by kernel_rfl) (.inl rfl) (e_call rfl (fn_72) rfl rfl (list_c [1] _ _ _ _ hSz22) fun v23 ro23 L23 hle23 hp23 => ?_)
      obtain ⟨bc, rfl, hS7, hbc, rfl⟩ := hp23
      refine d_next (fun w hi => J.of_le (by first | exact Ro.le.refl _ | exact hlz22 | exact hlz22.trans hle23) (fun x hx => absurd hx (by simp)) hi) ?_
      refine d_one 6 rfl (by kernel_rfl) (.inl rfl) (e_mapSet 0 Tryd.underlying102 keI rfl rfl rfl rfl hE (fun _ _ => rfl) fun es2 clk2 hE2 => ?_)
      refine d_next (fun w hi => J.of_le (by first | exact Ro.le.refl _ | exact hlz22 | exact hlz22.trans hle23) (fun x hx => absurd hx (by simp)) hi) ?_
      refine d_end (by kernel_rfl) ?_
      refine n_in ?_
      refine n_then ?_
      refine region ?_
      refine op (y (x_add rfl rfl _ (wr (by omega) (by omega))) rfl ?_)
      refine op (y (x_move rfl) rfl ?_)
      refine nil ?_
      exact round (4 - (k + 1)) [(1, .pointer (some ⟨b1, 0, none⟩)), (2, .map (some r)), (12, .slice (some ⟨b12, 0, none⟩) 4 4), (13, .int .i64 4), (14, .int .i64 ((k + 1) : Nat))] (by omega) ⟨rfl, rfl, rfl, rfl, rfl, trivial⟩ ⟨k + 1, _, _, _, rfl, rfl, rfl, by omega, hro2.trans (hlz22.trans hle23), hE2, ((hF.mono hlz22).mono hle23).set fn_73 (Next.list hS7 hbc (fun e he => flds_4 he (kinds4_ge hkl))) (fun x => by rw [take_snoc' hx]; simp only [List.mem_cons, List.mem_append, List.not_mem_nil, or_false]; grind)⟩
    · try simp only [decide_eq_true_eq, decide_eq_false_iff_not, beq_iff_eq, bne_iff_ne, ne_eq, beq_eq_false_iff_ne, bne_eq_false_iff_eq, Bool.not_eq_true', Bool.not_eq_false', Bool.not_eq_true, Bool.not_eq_false, Decidable.not_not, Int.not_lt, Int.not_le] at h4
      refine exit ?_
      refine e_then ?_
      refine e_then ?_
      refine e_in ?_
      refine n_then ?_
      refine seq ?_
      obtain rfl : k = 4 := by omega
      have hb2 := (hle12.trans hro2).cell hb1
      refine region ?_
      refine op (y (x_move rfl) rfl ?_)
      refine op (y (x_makeFunc rfl rfl) rfl ?_)
      refine op (e_mapSet 0 Tryd.underlying102 keI rfl rfl rfl rfl hE (fun _ _ => rfl) fun es8 clk8 hE8 => ?_)
      have hF8 := hF.set (S' := [2, 1, 4, 5, 6, 7]) fn_76 (Next.two hb2) (by intro x; simp [kinds4])
      refine nil ?_
      refine n_then ?_
      refine seq ?_
      refine region ?_
      refine op (y (x_move rfl) rfl ?_)
      refine op (y (x_makeFunc rfl rfl) rfl ?_)
      refine op (e_mapSet 0 Tryd.underlying102 keI rfl rfl rfl rfl hE8 (fun _ _ => rfl) fun es9 clk9 hE9 => ?_)
      have hF9 := hF8.set (S' := [3, 2, 1, 4, 5, 6, 7]) fn_83 (Next.three hb2) (by intro x; simp)
      refine nil ?_
      refine n_then ?_
      refine seq ?_
      refine ufreeze fun ro10 hle10 hR10 => ?_
      have hcr := hR10 _ (List.mem_singleton.2 rfl)
      refine region ?_
      refine op (y (x_move rfl) rfl ?_)
      refine op (y (x_assign rfl) rfl ?_)
      refine nil ?_
      refine n_then ?_
      refine ret ?_
      exact done rfl (.tmp rfl (.nil)) (hro.trans (hle12.trans (hro2.trans hle10))) (L) (subF (by (repeat (first | exact List.Sublist.refl _ | apply List.Sublist.cons_cons | apply List.Sublist.cons)); done)) (⟨r, es9, clk9, _, rfl, hcr, hE9, hF9.mono hle10, rfl⟩)

end Go.Proofs.YtijafcilfefafaaDoor
