/- Maps: what operations do. -/
import Derived.Test.YtmiddecfdfbocaaAM
import Derived.Test.YtmiddecfdfbocaaA6
set_option linter.all false
set_option linter.unusedVariables false
set_option linter.unusedSimpArgs false
namespace Go.Abs
open Go.RowKit (Below)
set_option linter.unusedSimpArgs false
set_option linter.unusedVariables false

section
variable {H : List Blk} {μ : Nat → Value} {w : World} {S : Nat → Prop} {P : Program} {w0 : World} {S0 : Sc}

theorem makeMap_after {base : Nat} {t : TypeId} {ka va : Bool} {kk vk : CK} (hr : RepAt w0 S0 H μ S w) (hf : FreeAt H base 1) {f : Eff} (hval : f.val = .mp base) (hwr : f.wr = [(base, .map ka va kk vk [])]) :
    ∃ u w', (Instr.makeMap t none).run P w = .ok u w' ∧ After w0 S0 H μ S w f u w' := by
  obtain ⟨h0, hlt⟩ := hf.zero (by omega)
  have hh : HR (put H base (.map ka va kk vk [])) (setI μ base (.map (some w.heap.size))) (w.alloc (.map #[] 0)) S S0.own := by
    refine hr.hr.setFree h0 hlt (Grow.alloc _ _) (fun B h => by simp only [blkOf, Option.some.injEq] at h; omega) ?_
    refine ⟨w.heap.size, #[], 0, by simp [setI], heap_alloc_new w _, hr.fresh _ hr.below.size, fun h => ?_, trivial⟩
    have := hr.hr.stab _ h
    omega
  refine ⟨.map (some w.heap.size), w.alloc (.map #[] 0), rfl, setI μ base (.map (some w.heap.size)), S, ?_, ?_, fun _ h => h, fun B h => (Grow.alloc _ _).old B (hr.hr.stab B h), ?_⟩
  · rw [hwr]
    exact ⟨hh, (Grow.alloc _ _).below hr.below, hr.sub, hr.sup, hr.fresh, hr.pins.ext (Ext.setFree h0)⟩
  · rw [hwr]; exact Ext.setFree h0
  · rw [hwr, hval]
    exact .mp _ _ _ _ _ _ _ (nth_put_eq hlt) (by simp [setI])

theorem one_cells {x : AV} {u : Value} (h : VR H μ w S x u) (hv : isV x = true) (ha : isAggV x = false) : cellsA x = [x] := by
  cases x <;> first | rfl | simp [isAggV] at ha

theorem asK_sound {t : TypeId} {x : AV} {u : Value} (h : VR H μ w S x u) (hk : asK P t x = true) : VR H μ w S (packB (isAggT P t) (enc (kE P t) (dec (kE P t) (cellsA x)))) u := by
  simp only [asK, Bool.and_eq_true, beq_iff_eq] at hk
  obtain ⟨h1, h2, h3, h4⟩ := hk
  cases ha : isAggV x with
  | true =>
    rw [← h2, ha]
    cases x <;> simp [isAggV] at ha
    rename_i cs
    obtain ⟨vs, rfl, hl, hc⟩ := vr_agg h
    refine .agg _ _ (by rw [enc_length', ← h3]; exact hl) fun i hi => ?_
    rw [enc_length'] at hi
    exact decV_sound _ cs (fun i => vs.getD i undef) h4 (fun j hj => hc j (by rw [← h3] at hj; exact hj)) i hi
  | false =>
    rw [← h2, ha]
    rw [one_cells h h1 ha] at h3 h4 ⊢
    have hw : width (kE P t) = 1 := h3.symm
    exact decV_sound _ [x] (fun _ => u) h4 (fun j hj => by obtain rfl : j = 0 := by omega
                                                           exact h) 0 (by omega)
theorem asK_pv {t : TypeId} {x : AV} {u : Value} (h : PV w S x u) (hk : asK P t x = true) : PV w S (packB (isAggT P t) (enc (kE P t) (dec (kE P t) (cellsA x)))) u := by
  simp only [asK, Bool.and_eq_true, beq_iff_eq] at hk
  obtain ⟨h1, h2, h3, h4⟩ := hk
  cases ha : isAggV x with
  | true =>
    rw [← h2, ha]
    cases x <;> simp [isAggV] at ha
    rename_i cs
    cases h with
    | agg _ vs hl hc =>
    refine .agg _ _ (by rw [enc_length', ← h3]; exact hl) fun i hi => ?_
    rw [enc_length'] at hi
    exact dec_sound _ cs (fun i => vs.getD i undef) h4 (fun j hj => hc j (by rw [← h3] at hj; exact hj)) i hi
  | false =>
    rw [← h2, ha]
    rw [one_cells (.pv h : VR [] (fun _ => undef) w S x u) h1 ha] at h3 h4 ⊢
    have hw : width (kE P t) = 1 := h3.symm
    exact dec_sound _ [x] (fun _ => u) h4 (fun j hj => by obtain rfl : j = 0 := by omega
                                                          exact h) 0 (by omega)

theorem encV_pv : ∀ (k : CK) (x : CT k), keyC k = true → ∀ i, i < width k → PV w S (nth .junk (enc k x) i) ((encV k x).getD i undef)
  | .bool, b, _, i, hi => by
    obtain rfl : i = 0 := by simp [width] at hi; exact hi
    exact .bool b
  | .int q, n, _, i, hi => by
    obtain rfl : i = 0 := by simp [width] at hi; exact hi
    exact .int q n
  | .str, s, _, i, hi => by
    obtain rfl : i = 0 := by simp [width] at hi; exact hi
    exact .str ⟨⟨s⟩⟩
  | .pair a b, x, hk, i, hi => by
    simp only [keyC, Bool.and_eq_true] at hk
    simp only [width] at hi
    simp only [enc, encV, List.getD_eq_getElem?_getD]
    by_cases h1 : i < width a
    · rw [List.getElem?_append_left (by rw [encV_length]; exact h1), ← List.getD_eq_getElem?_getD, nth_appL _ _ _ _ (by rw [enc_length']; exact h1)]
      exact encV_pv a x.1 hk.1 i h1
    · rw [List.getElem?_append_right (by rw [encV_length]; omega), encV_length, ← List.getD_eq_getElem?_getD]
      have e := nth_appR AV.junk (enc a x.1) (enc b x.2) (i - width a)
      rw [enc_length', show width a + (i - width a) = i by omega] at e
      rw [e]
      exact encV_pv b x.2 hk.2 (i - width a) (by omega)
theorem keyV_pv {ka : Bool} {kk : CK} (hk : keyC kk = true) (hw : ka = true ∨ width kk = 1) (x : CT kk) : PV w S (packB ka (enc kk x)) (keyV ka kk x) := by
  cases ka with
  | true =>
    refine .agg _ _ (by simp [enc_length', encV_length]) fun i hi => ?_
    rw [enc_length'] at hi
    simpa using encV_pv (w := w) (S := S) kk x hk i hi
  | false =>
    have hw1 : width kk = 1 := by simpa using hw
    exact encV_pv kk x hk 0 (by omega)

theorem EntR.keys {ka va : Bool} {kk vk : CK} (hk : keyC kk = true) (hw : ka = true ∨ width kk = 1) {m : List (CT kk × CT vk)} {es : List MapEntry} (h : All2 (EntR w S ka va kk vk) m es) : All2 (KeyR ka kk) m es :=
  h.imp fun p e h => keyV_of (H := []) (μ := fun _ => undef) hk hw (.pv h.1)

theorem mapT_spec {t : TypeId} {ke : TypeId × TypeId} (h : mapT P t = some ke) : P.underlying t = some (.map ke.1 ke.2) := by
  unfold mapT at h
  cases hu : P.underlying t with
  | none => simp [hu] at h
  | some d =>
    cases d <;> simp [hu] at h
    subst h
    rfl

theorem lookup_run {base : Nat → Prop} {t : TypeId} {x ix : AV} {v vi : Value} {ok : Bool} (hh : HR H μ w S base) (hx : VR H μ w S x v) (hi : VR H μ w S ix vi) (hc : (lookupE P t H x ix ok).chk = true) :
    ∃ u, (Instr.lookup t v vi ok).run P w = .ok u w ∧ VR H μ w S (lookupE P t H x ix ok).val u ∧ (lookupE P t H x ix ok).wr = [] := by
  unfold lookupE at hc ⊢
  cases ht : mapT P t with
  | none => simp [ht, Eff.bad] at hc
  | some ke =>
    have hu := mapT_spec ht
    simp only [ht] at hc ⊢
    cases x <;> simp only [Eff.bad] at hc ⊢ <;> try (simp at hc; done)
    rename_i b
    cases hb : nth .free H b <;> simp only [hb] at hc ⊢ <;> try (simp at hc; done)
    rename_i ka va kk vk m
    simp only [Bool.and_eq_true, decide_eq_true_eq, beq_iff_eq] at hc
    obtain ⟨c1, c2, c3, c4, c5, c6, c7, c8⟩ := hc
    subst c2 c3 c4 c5
    have hL := keyLaw_of c1
    obtain ⟨B, es, clock, hm, hg, _, _, hal⟩ := hh.mapB hb
    have hv : v = .map (some B) := by
      cases hx with
      | pv h => cases h
      | mp _ _ _ _ _ _ B' hb' hm' => rw [hm'] at hm; exact hm
    subst hv
    have hki : vi = keyV (isAggT P ke.1) (kE P ke.1) (dec (kE P ke.1) (cellsA ix)) := keyV_of hL.kc hL.one (asK_sound hi c6)
    have hkeys : All2 (KeyR (isAggT P ke.1) (kE P ke.1)) m es.toList := EntR.keys hL.kc hL.one hal
    have hfind := hL.find w (dec (kE P ke.1) (cellsA ix)) m es.toList hkeys
    have fin : ∀ (a : Value) (g : Bool) (p : AV), VR H μ w S p a → VR H μ w S (bif ok then .tup [p, .bool g] else p) (if ok = true then .tuple #[a, .bool g] else a) := fun a g p hp => by
      cases ok with
      | false => exact hp
      | true =>
        refine .tup _ _ rfl fun i hi => ?_
        match i with
        | 0 => exact hp
        | 1 => exact .pv (.bool g)
        | n + 2 => exact absurd hi (by simp)
    subst hki
    rcases findP_spec (ka := isAggT P ke.1) (dec (kE P ke.1) (cellsA ix)) m es.toList 0 hal.len with ⟨h1, h2, h3, _⟩ | ⟨j, p, e, h1, h2, h3, _, h5, h6, _⟩
    · obtain ⟨z, inf, hzi, hz, hzz, _⟩ := zeroA_run (P := P) (H := H) (μ := μ) (w := w) (S := S) (t := ke.2) (by
        simp only [asK, Bool.and_eq_true] at c8; exact c8.1)
      have hzv : VR H μ w S (zeroA P ke.2) z := by
        simp only [zeroA, hzi, hzz, Option.bind_some]
        exact .pv (ofV_sound w S 4 z)
      rw [h1] at hfind
      refine ⟨(if ok = true then .tuple #[z, .bool false] else z), ?_, ?_, trivial⟩
      rotate_left
      · rw [h2, h3]
        exact fin z false _ (asK_sound hzv c8)
      · simp only [Instr.lookup, Sem.run_bind, run_underlying hu, Result.andThen_ok, Sem.run_pure, MapKept.run_getObj_map hg, hL.check, hfind, hz]
    · rw [h1] at hfind
      have hent : EntR w S (isAggT P ke.1) (isAggT P ke.2) (kE P ke.1) (kE P ke.2) p e := by
        have := hal.get (p) (e) j (by have := (List.getElem?_eq_some_iff.1 h2).1; exact this)
        rw [nth_lt _ _ _ (List.getElem?_eq_some_iff.1 h2).1, nth_lt _ _ _ (List.getElem?_eq_some_iff.1 h3).1, (List.getElem?_eq_some_iff.1 h2).2, (List.getElem?_eq_some_iff.1 h3).2] at this
        exact this
      refine ⟨(if ok = true then .tuple #[e.val, .bool true] else e.val), ?_, ?_, trivial⟩
      rotate_left
      · rw [h5, h6]
        exact fin e.val true _ (.pv hent.2)
      · simp only [Instr.lookup, Sem.run_bind, run_underlying hu, Result.andThen_ok, Sem.run_pure, MapKept.run_getObj_map hg, hL.check, hfind]


theorem Ext.map {b : Nat} {ka va : Bool} {kk vk : CK} {m m' : List (CT kk × CT vk)} (hb : nth .free H b = .map ka va kk vk m) : Ext H μ (put H b (.map ka va kk vk m')) (setI μ b (μ b)) := by
  intro i
  by_cases hi : i = b
  · subst hi
    refine ⟨fun cs h => (by rw [hb] at h; cases h), fun r h => (by rw [hb] at h; simp [rdOf] at h), fun _ _ _ _ m0 h => ?_⟩
    rw [hb] at h
    cases h
    exact ⟨m', nth_put_eq (lt_of_live (by rw [hb]; simp)), by simp [setI]⟩
  · rw [nth_put_ne hi]
    exact ⟨fun cs h => ⟨cs, h, by simp [setI, hi]⟩, fun r h => ⟨r, h, rfl, Nat.le_refl _, fun _ => ⟨rfl, by simp [setI, hi]⟩⟩, fun _ _ _ _ m h => ⟨m, h, by simp [setI, hi]⟩⟩

theorem All2.set {α β : Type} {R : α → β → Prop} {a' : α} {f : β → β} : ∀ {as : List α} {bs : List β} (j : Nat) {a : α} {b : β}, All2 R as bs → as[j]? = some a → bs[j]? = some b → R a' (f b) → All2 R (as.set j a') (bs.modify j f)
  | [], _, j, a, b, _, h, _, _ => by simp at h
  | _ :: _, [], _, _, _, h, _, _, _ => absurd h id
  | x :: as, y :: bs, 0, a, b, h, h1, h2, hr => by
    simp only [List.getElem?_cons_zero, Option.some.injEq] at h1 h2
    subst h1 h2
    exact ⟨hr, h.2⟩
  | x :: as, y :: bs, j + 1, a, b, h, h1, h2, hr => by
    simp only [List.getElem?_cons_succ] at h1 h2
    exact ⟨h.1, All2.set j h.2 h1 h2 hr⟩

theorem sameBits_1 : ∀ (k : CK) (x : CT k) (n : Nat), keyC k = true → ∀ v ∈ encV k x, Instr.sameBits (n + 1) v v = true
  | .bool, b, n, _, v, hv => by simp [encV] at hv; subst hv; simp [Instr.sameBits]; exact @beq_self_eq_true Bool _ _ b
  | .int q, b, n, _, v, hv => by simp [encV] at hv; subst hv; simp [Instr.sameBits]; exact @beq_self_eq_true Int _ _ b
  | .str, s, n, _, v, hv => by
    simp [encV] at hv
    subst hv
    simp only [Instr.sameBits]
    exact (MapKept.bytes_beq _ _).2 rfl
  | .pair a b, x, n, hk, v, hv => by
    simp only [keyC, Bool.and_eq_true] at hk
    simp only [encV, List.mem_append] at hv
    rcases hv with hv | hv
    · exact sameBits_1 a x.1 n hk.1 v hv
    · exact sameBits_1 b x.2 n hk.2 v hv
theorem zip_self {α : Type} (p : α → α → Bool) : ∀ (l : List α), (∀ x ∈ l, p x x = true) → ((l.zip l).all fun (x, y) => p x y) = true
  | [], _ => rfl
  | x :: l, h => by
    simp only [List.zip_cons_cons, List.all_cons, h x (by simp), Bool.true_and]
    exact zip_self p l fun y hy => h y (List.mem_cons_of_mem _ hy)
theorem stays_run {ka : Bool} {kk : CK} (hk : keyC kk = true) (hw : ka = true ∨ width kk = 1) (x : CT kk) : (Instr.keyThatStays (keyV ka kk x) (keyV ka kk x)).run P w = .ok (keyV ka kk x) w := by
  have h : Instr.sameBits 10000 (keyV ka kk x) (keyV ka kk x) = true := by
    cases ka with
    | true =>
      simp only [keyV, cond_true, Instr.sameBits]
      simp only [beq_self_eq_true, Bool.true_and]
      exact zip_self (fun a b => Instr.sameBits 9999 a b) _ fun v hv => sameBits_1 kk x 9998 hk v (by simpa using hv)
    | false =>
      have hw1 : width kk = 1 := by simpa using hw
      refine sameBits_1 kk x 9999 hk _ ?_
      simp only [keyV, cond_false, List.getD_eq_getElem?_getD]
      rw [List.getElem?_eq_getElem (by rw [encV_length]; omega)]
      exact List.getElem_mem _
  simp only [Instr.keyThatStays, h, if_true, Sem.run_pure]

theorem heap_set' {B : Nat} {o o' : Obj} (h : w.heap[B]? = some o) : (w.heap.setIfInBounds B o')[B]? = some o' := by
  have hlt : B < w.heap.size := by
    rcases Nat.lt_or_ge B w.heap.size with h1 | h1
    · exact h1
    · rw [Array.getElem?_eq_none h1] at h; cases h
  simp [Array.getElem?_setIfInBounds, hlt]
theorem heap_set_ne {B B' : Nat} {o' : Obj} (h : B' ≠ B) : (w.heap.setIfInBounds B o')[B']? = w.heap[B']? := by
  simp [Array.getElem?_setIfInBounds, Ne.symm h]

theorem update_after {t : TypeId} {x ix xv : AV} {v vi u : Value} (hr : RepAt w0 S0 H μ S w) (hx : VR H μ w S x v) (hi : VR H μ w S ix vi) (hv : VR H μ w S xv u) (hc : (updateE P t H x ix xv).chk = true) (r : Value) :
    ∃ w', (Instr.mapUpdate t v vi u).run P w = .ok () w' ∧ After w0 S0 H μ S w (updateE P t H x ix xv) r w' := by
  unfold updateE at hc ⊢
  cases ht : mapT P t with
  | none => simp [ht, Eff.bad] at hc
  | some ke =>
    have hu := mapT_spec ht
    simp only [ht] at hc ⊢
    cases x <;> simp only [Eff.bad] at hc ⊢ <;> try (simp at hc; done)
    rename_i b
    cases hb : nth .free H b <;> simp only [hb] at hc ⊢ <;> try (simp at hc; done)
    rename_i ka va kk vk m
    simp only [Bool.and_eq_true, decide_eq_true_eq, beq_iff_eq] at hc
    obtain ⟨c1, c2, c3, c4, c5, c6, c7, c8⟩ := hc
    subst c2 c3 c4 c5
    have hL := keyLaw_of c1
    obtain ⟨hf1, hf2⟩ := hr.hr.frozen (refs xv)
    have hnn := frozenB_nth H (refs xv) H (fun _ => .inl rfl) rfl b
    rw [hb] at hnn
    have hn' : nth .free (sets H (frozenB H (refs xv))) b = .map (isAggT P ke.1) (isAggT P ke.2) (kE P ke.1) (kE P ke.2) m := hnn
    obtain ⟨B, es, clock, hm, hg, hbase, hnS, hal⟩ := hf1.mapB hn'
    have hvv : v = .map (some B) := by
      cases hx with
      | pv h => cases h
      | mp _ _ _ _ _ _ B' hb' hm' => rw [hm'] at hm; exact hm
    subst hvv
    have hki : vi = keyV (isAggT P ke.1) (kE P ke.1) (dec (kE P ke.1) (cellsA ix)) := keyV_of hL.kc hL.one (asK_sound hi c6)
    have hval : PV w (SF H μ S (refs xv)) (packB (isAggT P ke.2) (enc (kE P ke.2) (dec (kE P ke.2) (cellsA (view H xv))))) u := asK_pv (view_sound hr.hr hv (by
      cases xv <;> first | rfl | (simp [view, view1, pureA, pure1] at c8; done)) (l := refs xv) (fun _ h => h)) c7
    have hkeys : All2 (KeyR (isAggT P ke.1) (kE P ke.1)) m es.toList := EntR.keys hL.kc hL.one hal
    have hfind := hL.find w (dec (kE P ke.1) (cellsA ix)) m es.toList hkeys
    have hmb : blkOf (μ b) = some B := by rw [hm]; rfl
    have fin : ∀ (es' : Array MapEntry) (clock' : Nat) (m' : List (CT (kE P ke.1) × CT (kE P ke.2))), All2 (EntR w (SF H μ S (refs xv)) (isAggT P ke.1) (isAggT P ke.2) (kE P ke.1) (kE P ke.2)) m' es'.toList →
        After w0 S0 H μ S w { val := .junk, chk := true, wr := frozenB H (refs xv) ++ [(b, .map (isAggT P ke.1) (isAggT P ke.2) (kE P ke.1) (kE P ke.2) m')] } r { w with heap := w.heap.setIfInBounds B (.map es' clock') } := by
      intro es' clock' m' hal'
      have hx' : Ext (sets H (frozenB H (refs xv))) μ (put (sets H (frozenB H (refs xv))) b (.map (isAggT P ke.1) (isAggT P ke.2) (kE P ke.1) (kE P ke.2) m')) (setI μ b (μ b)) := Ext.map hn'
      have hstay : ∀ B', SF H μ S (refs xv) B' → (w.heap.setIfInBounds B (.map es' clock'))[B']? = w.heap[B']? := fun B' h => heap_set_ne (fun e => hnS (e ▸ h))
      refine ⟨setI μ b (μ b), SF H μ S (refs xv), ?_, ?_, fun B h => .inl h, fun B' h => hstay B' (.inl h), .junk _⟩
      · simp only [sets_append]
        refine ⟨hf1.change (w' := { w with heap := w.heap.setIfInBounds B (.map es' clock') }) (by rw [hn']; trivial) hx' (by simp) (fun B' _ hne => heap_set_ne (fun e => hne (by rw [hmb, e]))) (fun B' h => by rw [hmb] at h; simp only [Option.some.injEq] at h; subst h; exact hnS) (fun B' h => .inl h) ?_,
          hr.below.trans ⟨rfl, rfl, rfl, by simp, fun k _ hk => heap_set_ne (fun e => hk (e ▸ hbase))⟩, fun B h => .inl (hr.sub B h), fun B h => (hf2 B h).elim (hr.sup B) .inr, hr.fresh, hr.pins.ext ((Ext.frozen _).trans hx')⟩
        exact ⟨B, es', clock', by simp [setI, hm], heap_set' hg, hbase, hnS, hal'.imp fun _ _ h => h.mono (fun _ h => h) hstay⟩
      · simp only [sets_append]
        exact (Ext.frozen _).trans hx'
    subst hki
    rcases findP_spec (ka := isAggT P ke.1) (dec (kE P ke.1) (cellsA ix)) m es.toList 0 hal.len with ⟨h1, _, _, h4⟩ | ⟨j, p, e, h1, h2, h3, hq, _, _, h7⟩
    · rw [h1] at hfind
      rw [h4]
      refine ⟨_, ?_, fin (es.push { key := keyV (isAggT P ke.1) (kE P ke.1) (dec (kE P ke.1) (cellsA ix)), val := u, born := clock }) (clock + 1) _ ?_⟩
      · simp only [Instr.mapUpdate, Sem.run_bind, run_underlying hu, Result.andThen_ok, MapKept.run_getObj_map hg, hL.check, hfind, MapKept.run_setObj_map _ hg]
      · rw [Array.toList_push]
        exact hal.append ⟨⟨keyV_pv hL.kc hL.one _, hval⟩, trivial⟩
    · rw [h1] at hfind
      rw [h7]
      have hkp : dec (kE P ke.1) (cellsA ix) = p.1 := (eqK_spec _ _ _ hL.kc).1 hq
      have hej : es[j]? = some e := by simpa using h3
      have hek : e.key = keyV (isAggT P ke.1) (kE P ke.1) p.1 := by
        have := hkeys.get p e j (List.getElem?_eq_some_iff.1 h2).1
        rw [nth_lt _ _ _ (List.getElem?_eq_some_iff.1 h2).1, nth_lt _ _ _ (List.getElem?_eq_some_iff.1 h3).1, (List.getElem?_eq_some_iff.1 h2).2, (List.getElem?_eq_some_iff.1 h3).2] at this
        exact this
      refine ⟨_, ?_, fin (es.modify j fun e => { e with key := keyV (isAggT P ke.1) (kE P ke.1) p.1, val := u }) clock _ ?_⟩
      · rw [hkp] at hfind ⊢
        simp only [Instr.mapUpdate, Sem.run_bind, run_underlying hu, Result.andThen_ok, MapKept.run_getObj_map hg, hL.check, hfind, Nat.zero_add, hej, Option.map_some, Option.getD_some, hek, stays_run hL.kc hL.one, MapKept.run_setObj_map _ hg]
      · rw [Array.toList_modify]
        exact hal.set j h2 h3 ⟨keyV_pv hL.kc hL.one _, hval⟩
end
end Go.Abs
