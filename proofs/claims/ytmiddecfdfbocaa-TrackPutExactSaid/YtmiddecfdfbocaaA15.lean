/- Code: blocks, conditions, loops. -/
import Derived.Test.YtmiddecfdfbocaaA14
set_option linter.all false
set_option linter.unusedVariables false
set_option linter.unusedSimpArgs false
namespace Go.Abs
open Go.RowKit (Below)
set_option linter.unusedSimpArgs false
set_option linter.unusedVariables false

section
variable {H : List Blk} {μ : Nat → Value} {w : World} {S : Nat → Prop} {w0 : World} {S0 : Sc} {cx : Cx}

/-! ### what lives on -/
theorem keep_length : ∀ (l : List AV) (live : List Nat) (n : Nat), (keep live l n).length = l.length
  | [], _, _ => rfl
  | _ :: l, live, n => by simp [keep, keep_length l live (n + 1)]
theorem keep_sound {live : List Nat} {us : Nat → Value} : ∀ (l : List AV) (n : Nat), grdL live l n = true → (∀ i, i < l.length → VR H μ w S (nth .junk l i) (us i)) → ∀ i, i < l.length → VR H μ w S (nth .junk (keep live l n) i) (us i)
  | [], _, _, _, i, hi => by simp at hi
  | v :: l, n, hg, h, i, hi => by
    simp only [grdL, Bool.and_eq_true] at hg
    cases i with
    | zero =>
      simp only [keep, nth]
      have h0 := h 0 (by simp)
      simp only [nth] at h0
      cases hl : live.contains n with
      | true => rw [hl] at hg; exact vr_unw h0 hg.1
      | false => exact .junk _
    | succ i => exact keep_sound (us := fun i => us (i + 1)) l (n + 1) hg.2 (fun i hi => h (i + 1) (by simpa using hi)) i (by simpa using hi)

theorem pinOk_spec : ∀ (n : Nat) (l : List Nat) (k : Nat), pinOk n l k = true → ∀ i, i < n → i < l.length ∧ nth 0 l i = k + i
  | 0, _, _, _, i, hi => by omega
  | n + 1, [], _, h, _, _ => by simp [pinOk] at h
  | n + 1, b :: l, k, h, i, hi => by
    simp only [pinOk, Bool.and_eq_true, beq_iff_eq] at h
    cases i with
    | zero => exact ⟨by simp, by simp [nth, h.1]⟩
    | succ i =>
      have := pinOk_spec n l (k + 1) h.2 i (by omega)
      exact ⟨by simpa using this.1, by simp only [nth]; rw [this.2]; omega⟩
theorem Pinned.ren {pin : Nat} {ord : List Nat} (h : Pinned S0 H μ) (hpn : S0.pin = pin) (hp : pinOk pin ord 0 = true) : Pinned S0 (renH pin H ord) (renM μ ord) := fun b hb => by
  subst hpn
  obtain ⟨q1, q2⟩ := pinOk_spec _ _ _ hp b hb
  rw [Nat.zero_add] at q2
  rw [renH_nth q1, q2]
  simp only [renM, q2]
  obtain ⟨h1, h2, h3, h4, h5⟩ := h b hb
  refine ⟨fun cs hc => ?_, fun r hr => ?_, fun h => ⟨by rw [isMapB_ren]; exact (h3 h).1, (h3 h).2⟩, fun h => ⟨by rw [isIterB_ren]; exact (h4 h).1, (h4 h).2⟩, fun d hd => ?_⟩
  · obtain ⟨⟨cs', e⟩, hm⟩ := h1 cs hc
    exact ⟨⟨_, by rw [e]; rfl⟩, hm⟩
  · obtain ⟨r', e, hs, hz⟩ := h2 r hr
    refine ⟨_, renB_rd e, hs, fun h0 h1 => hz h0 ?_⟩
    have hb' : Nat.blt b S0.pin = true := by simpa [Nat.blt_eq] using hb
    simp only [nv, hb', cond_true] at h1
    cases hv : (r'.ver == 0) with
    | true => simpa using hv
    | false => rw [hv] at h1; cases h1
  · obtain ⟨d', e, hz⟩ := h5 d hd
    refine ⟨_, renB_tab e, fun p h0 h1 => hz p h0 ?_⟩
    have hb' : Nat.blt b S0.pin = true := by simpa [Nat.blt_eq] using hb
    rw [TD.nv_vp] at h1
    simp only [nv, hb', cond_true] at h1
    cases hv : (d'.vp p == 0) with
    | true => simpa using hv
    | false => rw [hv] at h1; cases h1

theorem gc_sound {pin : Nat} {live : List Nat} {st : St} {a : Act} (hpn : S0.pin = pin) (h : RepTH w0 S0 st.T st.H a w) (hok : (gc pin live st).ok = true) : RepTH w0 S0 (gc pin live st).T (gc pin live st).H a w := by
  obtain ⟨μ, S, hr, hst, ha, hT⟩ := h
  simp only [gc, Bool.and_eq_true] at hok
  refine ⟨renM μ (gcOrd pin st.H (keep live st.T 0)), S, ⟨ren_HR (reach_nodup _ _ _ List.nodup_nil) hr.hr fun b _ hlv B hB => ?_, hr.below, hr.sub, hr.sup, hr.fresh, hr.pins.ren hpn hok.1⟩, hst, ha, ?_, fun i hi => ?_⟩
  · cases hx : nth .free st.H b with
    | free => rw [hx] at hlv; exact absurd hlv id
    | fro _ _ _ _ => rw [hx] at hlv; exact absurd hlv id
    | cells cs =>
      obtain ⟨B', _, _, hm, _, ho, _⟩ := hr.hr.cellsB hx
      rw [hm] at hB
      simp only [Owns, blkOf, Option.some.injEq] at hB
      exact hB ▸ ho
    | fmap _ _ _ _ _ => rw [hx] at hlv; exact absurd hlv id
    | map _ _ _ _ _ =>
      obtain ⟨B', hm, ho, _⟩ := hr.hr.mapB hx
      rw [hm] at hB
      simp only [Owns, blkOf, Option.some.injEq] at hB
      exact hB ▸ ho
    | iter _ _ _ _ _ _ =>
      obtain ⟨B', hm, ho, _⟩ := hr.hr.iterB hx
      rw [hm] at hB
      simp only [Owns, blkOf, Option.some.injEq] at hB
      exact hB ▸ ho
    | row _ _ _ _ => exact hr.hr.rowBase hx hB
    | tab _ _ _ _ _ _ _ _ => exact hr.hr.tabBase hx hlv hB
  · simp only [gc, List.length_map, keep_length]; exact hT.1
  · simp only [gc, List.length_map, keep_length] at hi ⊢
    rw [nth_map AV.junk AV.junk (ren pin st.H (gcOrd pin st.H (keep live st.T 0))) _ i (by rw [keep_length]; exact hi)]
    exact ren_sound (keep_sound (us := fun i => a.tmps.getD i undef) st.T 0 hok.2.1 hT.2 i hi)

/-! ### what fails stays failed -/
def Strict (k : Ex → St → Res) : Prop := ∀ ex st, (k ex st).ok = true → st.ok = true
theorem runRegion_ok {ops : Array Oper} {draw : Bool} {st : St} (h : (runRegion cx ops draw st).ok = true) : st.ok = true := by
  cases draw with
  | false => simp only [runRegion] at h; rw [runOps_eq] at h; exact (stt_ok _ h).1
  | true =>
    simp only [runRegion, Bool.and_eq_true] at h
    rw [runOps_eq] at h
    exact (stt_ok _ h.2).1
theorem gc_ok {pin : Nat} {live : List Nat} {st : St} (h : (gc pin live st).ok = true) : st.ok = true := by
  simp only [gc, Bool.and_eq_true] at h; exact h.2.2

theorem cutG_ok {c : Code} {st : St} (h : (cutG cx c st).ok = true) : st.ok = true := by
  unfold cutG at h
  split at h
  · exact h
  · exact gc_ok h
theorem cutG_sound {c : Code} {st : St} {a : Act} (hpn : S0.pin = cx.pin) (h : RepTH w0 S0 st.T st.H a w) (hok : (cutG cx c st).ok = true) : RepTH w0 S0 (cutG cx c st).T (cutG cx c st).H a w := by
  unfold cutG at hok ⊢
  split
  · exact h
  · rename_i x l hl
    simp only [hl] at hok
    exact gc_sound hpn h hok
theorem put_same : ∀ (T : List AV) (d : Nat), put T d (nth .junk T d) = T
  | [], _ => rfl
  | _ :: _, 0 => rfl
  | x :: T, d + 1 => by simp only [put, nth, put_same T d]
theorem reG_eq {v : AV} {b : Bool} (h : unw v = .bool b) : reG v b = v := by
  cases v <;> simp only [unw, reG] at h ⊢ <;> first | (rw [h]; done) | (cases h; done) | (injection h with h; rw [h])
theorem setB_eq {st : St} {d : Nat} {b : Bool} (h : unw (nth .junk st.T d) = .bool b) : setB st d b = st := by
  simp only [setB, reG_eq h, put_same]
theorem splitQ_eq {ops : List Oper} {o : Oper} {st : St} {F : St → Res} : splitQ ops o st F = F st := by
  unfold splitQ
  split
  · rfl
  · rename_i d _
    split
    · rename_i b hb
      cases b <;> simp only [cond_true, cond_false, setB_eq hb]
    · rfl
theorem earlyQ_ok {st : St} {F : St → Res} (h : (earlyQ st F).ok = true) : st.ok = true ∧ ∀ F' : St → Res, earlyQ st F' = F' st := by
  unfold earlyQ at h ⊢
  cases ho : st.ok with
  | false => rw [ho] at h; simp [Res.bad] at h
  | true =>
    refine ⟨rfl, fun F' => ?_⟩
    simp only [cond_true]
    rw [show ({ st with ok := true } : St) = st from by rw [← ho]]

/-- What is gone through is what the table says. -/
def KOk (cx : Cx) : Prop := ∀ f k, cx.K f = some k → ∀ vs H κ, (k vs H κ).ok = true → ∀ κ', k vs H κ' = κ' (cx.C f vs H)
theorem KOk.none {P : Program} {C : FuncId → List AV → List Blk → Res} {mode : FuncId → List Bool} {fuel : Nat} {live : Nat → List Nat} {pin : Nat} : KOk { P := P, C := C, mode := mode, fuel := fuel, live := live, pin := pin } := fun f k h => by simp at h

theorem byRef_none : ∀ (ms : List Bool) (args : List AV), anyRef ms = false → byRef ms args = []
  | [], _, _ => rfl
  | true :: ms, _, h => by simp [anyRef] at h
  | false :: ms, [], _ => rfl
  | false :: ms, x :: xs, h => byRef_none ms xs (by simpa [anyRef] using h)
theorem view1_rd {H' : List Blk} (h : ∀ b, rdOf (nth .free H' b) = rdOf (nth .free H b)) (hmd : ∀ b, mapD (nth .free H' b) = mapD (nth .free H b)) (htd : ∀ b, tabD (nth .free H' b) = tabD (nth .free H b)) (v : AV) : view1 H' v = view1 H v := by
  cases v <;> first | rfl | simp only [view1, h, hmd, htd]
theorem view_rd {H' : List Blk} (h : ∀ b, rdOf (nth .free H' b) = rdOf (nth .free H b)) (hmd : ∀ b, mapD (nth .free H' b) = mapD (nth .free H b)) (htd : ∀ b, tabD (nth .free H' b) = tabD (nth .free H b)) (v : AV) : view H' v = view H v := by
  cases v with
  | agg cs => simp only [view]; congr 1; exact List.map_congr_left fun c _ => view1_rd h hmd htd c
  | sl b ver off len => exact view1_rd h hmd htd (.sl b ver off len)
  | mp b => exact view1_rd h hmd htd (.mp b)
  | tsl b ver p => exact view1_rd h hmd htd (.tsl b ver p)
  | _ => rfl
theorem viewC_rd {H' : List Blk} (h : ∀ b, rdOf (nth .free H' b) = rdOf (nth .free H b)) (hmd : ∀ b, mapD (nth .free H' b) = mapD (nth .free H b)) (htd : ∀ b, tabD (nth .free H' b) = tabD (nth .free H b)) (hc : ∀ b cs, nth .free H' b = .cells cs ↔ nth .free H b = .cells cs) (v : AV) : viewC H' v = viewC H v := by
  cases v with
  | ptr b off =>
    simp only [viewC]
    cases hx : nth .free H b with
    | cells cs => rw [(hc b cs).2 hx]; simp only; congr 1; exact List.map_congr_left fun c _ => view1_rd h hmd htd c
    | _ =>
      cases hx' : nth .free H' b with
      | cells cs => have := (hc b cs).1 hx'; rw [hx] at this; cases this
      | _ => rfl
  | sl b ver off len => exact view1_rd h hmd htd (.sl b ver off len)
  | mp b => exact view1_rd h hmd htd (.mp b)
  | tsl b ver p => exact view1_rd h hmd htd (.tsl b ver p)
  | _ => rfl
theorem viewA_rd {H' : List Blk} (h : ∀ b, rdOf (nth .free H' b) = rdOf (nth .free H b)) (hmd : ∀ b, mapD (nth .free H' b) = mapD (nth .free H b)) (htd : ∀ b, tabD (nth .free H' b) = tabD (nth .free H b)) (hc : ∀ b cs, nth .free H' b = .cells cs ↔ nth .free H b = .cells cs) (v : AV) : viewA H' v = viewA H v := by
  cases v with
  | clo f caps => simp only [viewA]; congr 1; exact List.map_congr_left fun c _ => viewC_rd h hmd htd hc c
  | ptr b off => exact viewC_rd h hmd htd hc (.ptr b off)
  | rptr cs j => rfl
  | agg cs => exact view_rd h hmd htd (.agg cs)
  | sl b ver off len => exact view_rd h hmd htd (.sl b ver off len)
  | mp b => exact view_rd h hmd htd (.mp b)
  | tsl b ver p => exact view_rd h hmd htd (.tsl b ver p)
  | _ => rfl
theorem passA_rd {H' : List Blk} {ord : List Nat} (h : ∀ v, viewA H' v = viewA H v) : ∀ (ms : List Bool) (args : List AV), anyRef ms = false → passA H' ord ms args = passA H ord ms args
  | [], args, _ => List.map_congr_left fun v _ => h v
  | true :: ms, _, hm => by simp [anyRef] at hm
  | false :: ms, [], _ => rfl
  | false :: ms, x :: xs, hm => by simp only [passA, h]; rw [passA_rd h ms xs (by simpa [anyRef] using hm)]
theorem callR_frz {f : FuncId} {args : List AV} {l : List Nat} (hm : anyRef (cx.mode f) = false) : callR cx (sets H (frozenB H l)) f args = callR cx H f args := by
  have hn := frozenB_nth H l H (fun _ => .inl rfl) rfl
  have ho : ∀ H : List Blk, ordA H (cx.mode f) args = [] := fun H => by simp only [ordA, byRef_none _ _ hm]; rfl
  have hp : passA (sets H (frozenB H l)) [] (cx.mode f) args = passA H [] (cx.mode f) args := passA_rd (fun v => viewA_rd (fun b => by rw [hn b, rd_frz]) (fun b => by rw [hn b, mapD_frz]) (fun b => by rw [hn b, tabD_frz]) (fun b cs => by rw [hn b]; generalize nth .free H b = x; cases x <;> cases l.contains b <;> simp [frz]) v) _ _ hm
  simp only [callR, ho, hp]
  rfl
theorem callE_const {base : Nat} {f : FuncId} {args : List AV} : callE { cx with C := fun _ _ _ => callR cx (callH cx H f args) f args } H base f args = callE cx H base f args := by
  generalize hr : callR cx (callH cx H f args) f args = r
  have e : ∀ H', callR { cx with C := fun _ _ _ => r } H' f args = r := fun _ => rfl
  cases hm : anyRef (cx.mode f) with
  | true =>
    have hh : callH cx H f args = sets H (frzA H (cx.mode f) args) := by simp only [callH, hm]; rfl
    rw [hh] at hr
    simp only [callE, callAt, e, hr, hm, Bool.not_true, Bool.false_and, cond_false]
  | false =>
    have hh : callH cx H f args = H := by simp only [callH, hm]; rfl
    rw [hh] at hr
    have hf : callR cx (sets H (frzA H (cx.mode f) args)) f args = r := (callR_frz hm).trans hr
    simp only [callE, callAt, e, hr, hf, hm]
theorem opE_const {all : List Oper} {base : Nat} {o : Oper} {st : St} {c : Call} {fa : FuncId × List AV} (ho : o.op = .call c) (hc : callTo st.T c = some fa) :
    opE { cx with C := fun _ _ _ => callR cx (callH cx st.H fa.1 fa.2) fa.1 fa.2 } all st.T st.H base o = opE cx all st.T st.H base o := by
  have e : opE0 { cx with C := fun _ _ _ => callR cx (callH cx st.H fa.1 fa.2) fa.1 fa.2 } st.T st.H base o = opE0 cx st.T st.H base o := by
    simp only [opE0, ho]
    unfold callTo at hc
    unfold callOpE
    cases hcl : c.callee with
    | builtin b => simp [hcl] at hc
    | invoke _ _ => simp [hcl] at hc
    | value v =>
      cases v with
      | func g =>
        simp only [hcl, Option.some.injEq] at hc
        subst hc
        exact callE_const
      | tmp t =>
        simp only [hcl] at hc ⊢
        cases hu : unw (ev st.T (.tmp t)) <;> simp only [hu] at hc <;> try (simp at hc; done)
        simp only [Option.some.injEq] at hc
        subst hc
        exact callE_const
      | _ => simp [hcl] at hc
  unfold opE
  rw [e]
theorem footOf_const {all : List Oper} {base : Nat} {o : Oper} {st : St} {c : Call} {fa : FuncId × List AV} (ho : o.op = .call c) (hc : callTo st.T c = some fa) :
    footOf { cx with C := fun _ _ _ => callR cx (callH cx st.H fa.1 fa.2) fa.1 fa.2 } all base o st = footOf cx all base o st := by
  unfold footOf
  rw [opE_const ho hc]
  rfl
theorem stepOp_const {all : List Oper} {base : Nat} {o : Oper} {st : St} {c : Call} {fa : FuncId × List AV} (ho : o.op = .call c) (hc : callTo st.T c = some fa) :
    stepOp { cx with C := fun _ _ _ => callR cx (callH cx st.H fa.1 fa.2) fa.1 fa.2 } all base o st = stepOp cx all base o st := by
  unfold stepOp
  rw [opE_const ho hc]
theorem callQ_det (hK : KOk cx) {all : List Oper} {base : Nat} {o : Oper} {st : St} {F : Cx → Res} (h : (callQ cx all o st F).ok = true) : ∃ cx', (∀ F' : Cx → Res, callQ cx all o st F' = F' cx') ∧ stepOp cx' all base o st = stepOp cx all base o st ∧ footOf cx' all base o st = footOf cx all base o st := by
  unfold callQ at h ⊢
  cases ho : o.op with
  | call c =>
    simp only [ho] at h ⊢
    cases hc : callTo st.T c with
    | none => exact ⟨cx, fun _ => rfl, rfl, rfl⟩
    | some fa =>
      simp only [hc] at h ⊢
      cases hk : cx.K fa.1 with
      | none => exact ⟨cx, fun _ => rfl, rfl, rfl⟩
      | some k =>
        simp only [hk] at h ⊢
        cases hg : guardB all st.T o.guard with
        | none => exact ⟨cx, fun _ => rfl, rfl, rfl⟩
        | some b =>
          cases b with
          | false => exact ⟨cx, fun _ => rfl, rfl, rfl⟩
          | true =>
            simp only [hg] at h ⊢
            exact ⟨_, fun F' => hK _ _ hk _ _ _ h _, stepOp_const ho hc, footOf_const ho hc⟩
  | _ => exact ⟨cx, fun _ => rfl, rfl, rfl⟩
theorem opsQ_ok (hK : KOk cx) {all : List Oper} {F : St → Res} : ∀ (l : List Oper) (base : Nat) (st : St), (opsQ cx all l base st F).ok = true → ∀ F' : St → Res, opsQ cx all l base st F' = F' (runOps cx all l base st)
  | [], _, _, _ => fun _ => rfl
  | o :: r, base, st, h => by
    intro F'
    simp only [opsQ, splitQ_eq] at h ⊢
    obtain ⟨cx', h1, h2, _⟩ := callQ_det (base := base) hK h
    rw [h1, h2] at h
    rw [h1, h2]
    obtain ⟨_, h3⟩ := earlyQ_ok h
    rw [h3] at h
    rw [h3]
    exact opsQ_ok hK r _ _ h F'
theorem opsD_ok (hK : KOk cx) {all : List Oper} {bs : List Nat} {F : St → Res} : ∀ (l : List Oper) (base j : Nat) (done : List Foot) (st : St), (opsD cx all bs l base j done st F).ok = true →
    (∀ F' : St → Res, opsD cx all bs l base j done st F' = F' (runOps cx all l base st)) ∧ drawOk bs done (feet cx all l base st) j = true
  | [], _, _, _, _, _ => ⟨fun _ => rfl, rfl⟩
  | o :: r, base, j, done, st, h => by
    simp only [opsD, splitQ_eq] at h ⊢
    obtain ⟨cx', h1, h2, h2f⟩ := callQ_det (base := base) hK h
    rw [h1, h2, h2f] at h
    cases hd : drawRow (nth 0 bs j) (footOf cx all base o st) done 0 with
    | false => rw [hd] at h; simp [Res.bad] at h
    | true =>
      rw [hd] at h
      simp only [cond_true] at h
      obtain ⟨_, h3⟩ := earlyQ_ok h
      rw [h3] at h
      obtain ⟨q1, q2⟩ := opsD_ok hK r _ _ _ _ h
      refine ⟨fun F' => ?_, ?_⟩
      · rw [h1, h2, h2f, hd]
        simp only [cond_true]
        rw [h3]
        exact q1 F'
      · simp only [feet, drawOk, hd, Bool.true_and]
        exact q2
theorem regionQ_det (hK : KOk cx) {ops : Array Oper} {draw : Bool} {st : St} {F : St → Res} (h : (regionQ cx ops draw st F).ok = true) : ∀ F' : St → Res, regionQ cx ops draw st F' = F' (runOps cx ops.toList ops.toList st.H.length { st with H := st.H ++ frees (slotsAll ops.toList) }) := by
  intro F'
  cases draw with
  | false => simp only [regionQ] at h ⊢; exact opsQ_ok hK _ _ _ h F'
  | true =>
    simp only [regionQ] at h ⊢
    cases hc : edgesOk ops.toList 0 with
    | false => rw [hc] at h; simp [Res.bad] at h
    | true =>
      rw [hc] at h
      simp only [cond_true] at h ⊢
      exact (opsD_ok hK _ _ _ _ _ h).1 F'
theorem regionQ_ok (hK : KOk cx) {ops : Array Oper} {draw : Bool} {st : St} {F : St → Res} (hF : ∀ st, (F st).ok = true → st.ok = true) (h : (regionQ cx ops draw st F).ok = true) : regionQ cx ops draw st F = F (runRegion cx ops draw st) := by
  have e := regionQ_det hK h F
  cases draw with
  | false => simp only [runRegion]; exact e
  | true =>
    simp only [regionQ, runRegion] at h e ⊢
    cases hc : edgesOk ops.toList 0 with
    | false => rw [hc] at h; simp [Res.bad] at h
    | true =>
      rw [hc] at h e
      simp only [cond_true, Bool.true_and] at h e ⊢
      rw [(opsD_ok hK _ _ _ _ _ h).2]
      exact e

theorem anyN_spec {n : Nat} {f : Nat → Res} (h : (anyN n f).ok = true) : ∀ i, i < n → f i = anyN n f := by
  unfold anyN at h ⊢
  split
  · rename_i h0; exact h0
  · rename_i h0; rw [if_neg h0] at h; simp [Res.bad] at h
theorem nextR_spec {ops : Array Oper} {draw : Bool} {st : St} {F : St → Res} (h : (nextR cx ops draw st F).ok = true) :
    draw = false ∧ ∃ o l x b ka va kk vk rest cur, ops.toList = o :: l ∧ o.op = .next x false ∧ l.any isNextO = false ∧ grd (ev st.T x) = true ∧ unw (ev st.T x) = .it b ∧ nth .free st.H b = .iter ka va kk vk rest cur ∧
      (rest = [] → regionQ { cx with way := 1 } ops false st F = nextR cx ops draw st F) ∧ ∀ i, i < rest.length → regionQ { cx with way := 2, pick := i } ops false st F = nextR cx ops draw st F := by
  cases draw with
  | true => simp [nextR, Res.bad] at h
  | false =>
    refine ⟨rfl, ?_⟩
    cases hl : ops.toList with
    | nil => simp [nextR, hl, Res.bad] at h
    | cons o l =>
      cases ho : o.op <;> try (simp [nextR, hl, ho, Res.bad] at h; done)
      rename_i x s
      cases s with
      | true => simp [nextR, hl, ho, Res.bad] at h
      | false =>
        cases hg : o.guard with
        | some _ => simp [nextR, hl, ho, hg, Res.bad] at h
        | none =>
          have e : nextR cx ops false st F = bif cx.nx && (grd (ev st.T x) && !(l.any isNextO)) then (match unw (ev st.T x) with
            | .it b =>
              match nth .free st.H b with
              | .iter _ _ _ _ rest _ => bif rest.isEmpty then regionQ { cx with way := 1 } ops false st F else anyN rest.length fun i => regionQ { cx with way := 2, pick := i } ops false st F
              | _ => .bad
            | _ => .bad) else .bad := by simp only [nextR, hl, ho, hg]; rfl
          rw [e] at h ⊢
          cases hc : (cx.nx && (grd (ev st.T x) && !(l.any isNextO))) with
          | false => rw [hc] at h; simp [Res.bad] at h
          | true =>
            rw [hc] at h
            simp only [cond_true] at h ⊢
            simp only [Bool.and_eq_true, Bool.not_eq_true'] at hc
            cases hu : unw (ev st.T x) <;> simp only [hu] at h ⊢ <;> try (simp [Res.bad] at h; done)
            rename_i b
            cases hb : nth .free st.H b <;> simp only [hb] at h ⊢ <;> try (simp [Res.bad] at h; done)
            rename_i ka va kk vk rest cur
            refine ⟨o, l, x, b, ka, va, kk, vk, rest, cur, rfl, ho, hc.2.2, hc.2.1, hu, hb, fun hr => by rw [hr]; rfl, fun i hi => ?_⟩
            cases rest with
            | nil => simp at hi
            | cons p rest =>
              simp only [List.isEmpty_cons, cond_false] at h ⊢
              exact anyN_spec h i hi
theorem nextR_nx {ops : Array Oper} {draw : Bool} {st : St} {F : St → Res} (h : (nextR cx ops draw st F).ok = true) : cx.nx = true := by
  unfold nextR at h
  split at h
  · split at h
    · cases hn : cx.nx with
      | true => rfl
      | false => rw [hn] at h; simp [Res.bad] at h
    · simp [Res.bad] at h
  · simp [Res.bad] at h
theorem nextR_pick {ops : Array Oper} {draw : Bool} {st : St} {F : St → Res} (h : (nextR cx ops draw st F).ok = true) : draw = false ∧ ∃ w p, regionQ { cx with way := w, pick := p } ops false st F = nextR cx ops draw st F := by
  obtain ⟨hd, o, l, x, b, ka, va, kk, vk, rest, cur, _, _, _, _, _, _, h1, h2⟩ := nextR_spec h
  refine ⟨hd, ?_⟩
  cases rest with
  | nil => exact ⟨1, cx.pick, h1 rfl⟩
  | cons p rest => exact ⟨2, 0, h2 0 (by simp)⟩
theorem NextOk.split {o : Oper} {x : Operand} {b : Nat} {ka va : Bool} {kk vk : CK} {rest cur : List (CT kk × CT vk)} {st : St} {H' : List Blk} {a : Act} (ho : o.op = .next x false) (hg : grd (ev st.T x) = true) (hu : unw (ev st.T x) = .it b) (hb : nth .free H' b = .iter ka va kk vk rest cur) (hr : RepTH w0 S0 st.T H' a w) :
    (rest = [] ∧ NextOk { cx with way := 1 } w0 S0 st.T H' o a w) ∨ ∃ i, i < rest.length ∧ NextOk { cx with way := 2, pick := i } w0 S0 st.T H' o a w := by
  obtain ⟨μ, S, h1, hst, h2, h3⟩ := hr
  have hv : ∀ μ S, TR H' μ w S st.T a.tmps → VR H' μ w S (.it b) (a.eval x) := fun μ S h3 => hu ▸ evu_sound h3 x hg
  rcases next_split (P := cx.P) cx o.type h1 (hv μ S h3) hb with ⟨hre, h⟩ | ⟨i, hi, h⟩
  · refine .inl ⟨hre, fun μ S h1 h3 x' s' e => ?_⟩
    rw [ho] at e
    cases e
    rw [hu]
    exact h μ S h1
  · refine .inr ⟨i, hi, fun μ S h1 h3 x' s' e => ?_⟩
    rw [ho] at e
    cases e
    rw [hu]
    exact h μ S h1 (hv μ S h3)

theorem loopK_strict {body : St → (Ex → St → Res) → Res} {pin : Nat} {live : List Nat} {k : Ex → St → Res} (hb : ∀ st k, Strict k → (body st k).ok = true → st.ok = true) (hk : Strict k) : ∀ n st, (loopK body (gc pin live) k n st).ok = true → st.ok = true
  | 0, _, h => by simp [loopK, Res.bad] at h
  | n + 1, st, h => by
    simp only [loopK] at h
    refine hb st _ (fun ex st' h' => ?_) h
    cases ex with
    | normal => exact gc_ok (loopK_strict hb hk n _ h')
    | exit i => exact hk _ _ h'
    | ret => exact hk _ _ h'

theorem runK_strict (hK : KOk cx) : ∀ (c : Code) (st : St) (k : Ex → St → Res), Strict k → (runK cx c st k).ok = true → st.ok = true
  | .skip, st, k, hk, h => hk _ _ h
  | .region id ops draw, st, k, hk, h => by
    simp only [runK] at h
    cases hn : hasNext ops with
    | false =>
      rw [hn] at h
      simp only [cond_false] at h
      rw [regionQ_ok hK (hk .normal) h] at h
      exact runRegion_ok (hk _ _ h)
    | true =>
      rw [hn] at h
      simp only [cond_true] at h
      obtain ⟨_, w, p, e⟩ := nextR_pick h
      rw [← e] at h
      rw [regionQ_ok (cx := { cx with way := w, pick := p }) hK (hk .normal) h] at h
      exact runRegion_ok (hk _ _ h)
  | .seq a b, st, k, hk, h => by
    refine runK_strict hK a st _ (fun ex st' h' => ?_) h
    cases ex with
    | normal => exact cutG_ok (runK_strict hK b _ k hk h')
    | exit i => exact hk _ _ h'
    | ret => exact hk _ _ h'
  | .cond c x y, st, k, hk, h => by
    simp only [runK] at h
    split at h
    · rename_i b _
      cases b with
      | true =>
        have := runK_strict hK x _ k hk h
        simp only [Bool.and_eq_true] at this; exact this.2
      | false =>
        have := runK_strict hK y _ k hk h
        simp only [Bool.and_eq_true] at this; exact this.2
    · simp [Res.bad] at h
  | .block id c, st, k, hk, h => by
    refine runK_strict hK c st _ (fun ex st' h' => ?_) h
    cases ex with
    | normal => exact hk _ _ h'
    | exit i =>
      simp only [blockK] at h'
      cases hi : (i == id) with
      | true => rw [hi] at h'; exact hk _ _ h'
      | false => rw [hi] at h'; exact hk _ _ h'
    | ret => exact hk _ _ h'
  | .loop c, st, k, hk, h => by
    simp only [runK] at h
    exact gc_ok (loopK_strict (fun st k hk h => runK_strict hK c st k hk h) hk _ _ h)
  | .exit id, st, k, hk, h => hk _ _ h
  | .label l, st, k, hk, h => hk _ _ h
  | .ret, st, k, hk, h => hk _ _ h
  | .goto _, st, k, hk, h => by simp [runK, Res.bad] at h
  | .scope _, st, k, hk, h => by simp [runK, Res.bad] at h
  | .rangeFunc _ _ _ _, st, k, hk, h => by simp [runK, Res.bad] at h
  | .refuse _, st, k, hk, h => by simp [runK, Res.bad] at h

/-! ### code -/
def Ex.to : Ex → Exit
  | .normal => .normal
  | .exit i => .exit i
  | .ret => .ret

def LW (P : Program) (c : Code) (Q : Exit → Act → World → Prop) (a : Act) (w : World) : Prop :=
  ∀ (b : Frame) (k : List Item) (cs : List Frame), ∃ e a' w', Q e a' w' ∧ Arrives P (lone (b.at a (.code c :: .inLoop c :: k)) cs w) b k cs e a' w'
theorem LW.loop {P : Program} {c : Code} {Q : Exit → Act → World → Prop} {a : Act} {w : World} (h : LW P c Q a w) : (Code.loop c).wp P Q a w := fun b k cs => by
  obtain ⟨e, a', w', hq, harr⟩ := h b k cs
  exact ⟨e, a', w', hq, .of_steps (.one step_loop) harr⟩
theorem LW.round {P : Program} {c : Code} {Q : Exit → Act → World → Prop} {a : Act} {w : World} (h : c.wp P (Exit.then (LW P c Q) Q) a w) : LW P c Q a w := fun b k cs => by
  obtain ⟨e, a₁, w₁, hq, harr⟩ := h b (.inLoop c :: k) cs
  cases e with
  | normal =>
    obtain ⟨e₂, a₂, w₂, hq₂, harr₂⟩ := hq b k cs
    exact ⟨e₂, a₂, w₂, hq₂, .of_steps (Steps.trans harr (.one step_inLoop)) harr₂⟩
  | exit id => exact ⟨_, a₁, w₁, hq, .pass (x := .inLoop c) rfl (fun _ _ => .inl (by simp)) harr⟩
  | goto l => exact ⟨_, a₁, w₁, hq, .pass (x := .inLoop c) rfl (fun _ _ => .inl (by simp)) harr⟩
  | ret => exact ⟨_, a₁, w₁, hq, .pass (x := .inLoop c) rfl (fun _ _ => .inl (by simp)) harr⟩
  | panic ch => exact ⟨_, a₁, w₁, hq, .pass (x := .inLoop c) rfl (fun _ _ => .inl (by simp)) harr⟩
  | outgrown => exact ⟨_, a₁, w₁, hq, .pass (x := .inLoop c) rfl (fun _ _ => .inl (by simp)) harr⟩

/-- Where a run of the code may come to: to where the abstract run goes on. -/
def Comes' (w0 : World) (S0 : Sc) (k : Ex → St → Res) (r : Res) (Q : Exit → Act → World → Prop) : Prop :=
  ∀ ex st' a' w', RepTH w0 S0 st'.T st'.H a' w' → k ex st' = r → Q ex.to a' w'

variable (hC : CSound cx.P cx.C) (hm : cx.P.follows .mixedOrders = true) (hpn : S0.pin = cx.pin) (hK : KOk cx)

omit hK in
theorem loop_sound (hK : KOk cx) {c : Code} {pin : Nat} {live : List Nat} (hpn : S0.pin = pin) {k : Ex → St → Res} {r : Res} (hk : Strict k) (hrk : r.ok = true)
    (body : ∀ (st : St) (k : Ex → St → Res) (a : Act) (w : World) (Q : Exit → Act → World → Prop), Strict k → RepTH w0 S0 st.T st.H a w → runK cx c st k = r → Comes' w0 S0 k r Q → c.wp cx.P Q a w) {Q : Exit → Act → World → Prop} (hQ : Comes' w0 S0 k r Q) :
    ∀ n st a w, RepTH w0 S0 st.T st.H a w → loopK (runK cx c) (gc pin live) k n st = r → LW cx.P c Q a w
  | 0, st, a, w, hr, h => by simp only [loopK] at h; rw [← h] at hrk; simp [Res.bad] at hrk
  | n + 1, st, a, w, hr, h => by
    simp only [loopK] at h
    have hs : Strict (backK (loopK (runK cx c) (gc pin live) k n) (gc pin live) k) := fun ex st' h' => by
      cases ex with
      | normal => exact gc_ok (loopK_strict (fun st k hk h => runK_strict hK c st k hk h) hk n _ h')
      | exit i => exact hk _ _ h'
      | ret => exact hk _ _ h'
    refine LW.round (body st _ a w _ hs hr h fun ex st' a' w' hr' h' => ?_)
    cases ex with
    | normal =>
      have hok : (gc pin live st').ok = true := loopK_strict (fun st k hk h => runK_strict hK c st k hk h) hk n _ (by
        simp only [backK] at h'; rw [h']; exact hrk)
      exact loop_sound hK hpn hk hrk body hQ n (gc pin live st') a' w' (gc_sound hpn hr' hok) h'
    | exit i => exact hQ (.exit i) st' a' w' hr' h'
    | ret => exact hQ .ret st' a' w' hr' h'

include hC hm hpn hK in
theorem runK_sound {r : Res} (hrk : r.ok = true) : ∀ (c : Code) (st : St) (k : Ex → St → Res) (a : Act) (w : World) (Q : Exit → Act → World → Prop), Strict k → RepTH w0 S0 st.T st.H a w → runK cx c st k = r → Comes' w0 S0 k r Q → c.wp cx.P Q a w
  | .skip, st, k, a, w, Q, hk, hr, h, hQ => wp_skip (hQ .normal st a w hr h)
  | .region id ops draw, st, k, a, w, Q, hk, hr, h, hQ => by
    simp only [runK] at h
    cases hn : hasNext ops with
    | false =>
      rw [hn] at h
      simp only [cond_false] at h
      rw [regionQ_ok hK (hk .normal) (by rw [h]; exact hrk)] at h
      exact region_sim hC hm hr (hk .normal _ (by rw [h]; exact hrk)) (.inl fun o ho => by
        cases hx : isNextO o with
        | false => rfl
        | true => rw [hasNext, List.any_eq_true.2 ⟨o, ho, hx⟩] at hn; cases hn) fun a' w' hr' => hQ .normal _ a' w' hr' h
    | true =>
      rw [hn] at h
      simp only [cond_true] at h
      have hrk' : (nextR cx ops draw st (k .normal)).ok = true := by rw [h]; exact hrk
      obtain ⟨rfl, o, l, x, b, ka, va, kk, vk, rest, cur, hl, ho, hln, hg, hu, hb, g1, g2⟩ := nextR_spec hrk'
      have hr1 : RepTH w0 S0 st.T (st.H ++ frees (slotsAll ops.toList)) a w := hr.same fun b => nth_app_frees _ _ _
      have hb1 : nth .free (st.H ++ frees (slotsAll ops.toList)) b = .iter ka va kk vk rest cur := by rw [nth_app_frees]; exact hb
      have go : ∀ wy p, regionQ { cx with way := wy, pick := p } ops false st (k .normal) = nextR cx ops false st (k .normal) → NextOk { cx with way := wy, pick := p } w0 S0 st.T (st.H ++ frees (slotsAll ops.toList)) o a w → (Code.region id ops false).wp cx.P Q a w := fun wy p hq hx => by
        rw [← hq] at h hrk'
        rw [regionQ_ok (cx := { cx with way := wy, pick := p }) hK (hk .normal) hrk'] at h
        refine region_sim (cx := { cx with way := wy, pick := p }) hC hm hr (hk .normal _ (by rw [h]; exact hrk)) (.inr ⟨rfl, fun i o' hi hp => ?_, fun o' ho' => ?_⟩) fun a' w' hr' => hQ .normal _ a' w' hr' h
        · cases i with
          | zero => omega
          | succ i =>
            rw [hl, List.getElem?_cons_succ] at hi
            cases hx' : isNextO o' with
            | false => rfl
            | true => rw [List.any_eq_true.2 ⟨o', List.mem_of_getElem? hi, hx'⟩] at hln; cases hln
        · rw [hl] at ho'
          simp only [List.getElem?_cons_zero, Option.some.injEq] at ho'
          exact ho' ▸ hx
      rcases NextOk.split (cx := cx) ho hg hu hb1 hr1 with ⟨hre, hx⟩ | ⟨i, hi, hx⟩
      · exact go 1 cx.pick (g1 hre) hx
      · exact go 2 i (g2 i hi) hx
  | .seq x y, st, k, a, w, Q, hk, hr, h, hQ => by
    have hs : Strict (seqK (fun st k => runK cx y (cutG cx y st) k) k) := fun ex st' h' => by
      cases ex with
      | normal => exact cutG_ok (runK_strict hK y _ k hk h')
      | exit i => exact hk _ _ h'
      | ret => exact hk _ _ h'
    refine wp_seq (runK_sound hrk x st _ a w _ hs hr h fun ex st' a' w' hr' h' => ?_)
    cases ex with
    | normal => exact runK_sound hrk y (cutG cx y st') k a' w' Q hk (cutG_sound hpn hr' (runK_strict hK y _ k hk (by rw [show runK cx y (cutG cx y st') k = r from h']; exact hrk))) h' hQ
    | exit i => exact hQ (.exit i) st' a' w' hr' h'
    | ret => exact hQ .ret st' a' w' hr' h'
  | .cond c x y, st, k, a, w, Q, hk, hr, h, hQ => by
    simp only [runK] at h
    obtain ⟨μ, S, h1, hst, h2, h3⟩ := hr
    cases hv : unw (ev st.T c) <;> simp only [hv] at h <;> try (rw [← h] at hrk; simp [Res.bad] at hrk; done)
    rename_i b
    have hgb : grd (ev st.T c) = true := by
      cases b with
      | true =>
        have := runK_strict hK x _ k hk (by simp only [cond_true] at h; rw [h]; exact hrk)
        simp only [Bool.and_eq_true] at this; exact this.1
      | false =>
        have := runK_strict hK y _ k hk (by simp only [cond_false] at h; rw [h]; exact hrk)
        simp only [Bool.and_eq_true] at this; exact this.1
    have he := vr_bool (hv ▸ evu_sound h3 c hgb)
    cases b with
    | true => exact wp_cond_true he (runK_sound hrk x { st with ok := grd (ev st.T c) && st.ok } k a w Q hk ⟨μ, S, h1, hst, h2, h3⟩ h hQ)
    | false => exact wp_cond_false he (runK_sound hrk y { st with ok := grd (ev st.T c) && st.ok } k a w Q hk ⟨μ, S, h1, hst, h2, h3⟩ h hQ)
  | .block id c, st, k, a, w, Q, hk, hr, h, hQ => by
    have hs : Strict (blockK id k) := fun ex st' h' => by
      cases ex with
      | normal => exact hk _ _ h'
      | exit i =>
        simp only [blockK] at h'
        cases hi : (i == id) <;> rw [hi] at h' <;> exact hk _ _ h'
      | ret => exact hk _ _ h'
    refine wp_block (runK_sound hrk c st _ a w _ hs hr h fun ex st' a' w' hr' h' => ?_)
    cases ex with
    | normal => exact hQ .normal st' a' w' hr' h'
    | exit i =>
      simp only [Ex.to, Exit.inBlock]
      simp only [blockK] at h'
      cases hi : (i == id) with
      | true =>
        rw [hi] at h'
        rw [if_pos (by simpa using hi)]
        exact hQ .normal st' a' w' hr' h'
      | false =>
        rw [hi] at h'
        rw [if_neg (by simpa using hi)]
        exact hQ (.exit i) st' a' w' hr' h'
    | ret => exact hQ .ret st' a' w' hr' h'
  | .loop c, st, k, a, w, Q, hk, hr, h, hQ => by
    simp only [runK] at h
    have hok : (gc cx.pin (cx.live (firstRegion c)) st).ok = true := loopK_strict (fun st k hk h => runK_strict hK c st k hk h) hk _ _ (by rw [h]; exact hrk)
    exact (loop_sound hK hpn hk hrk (fun st k a w Q hk hr h hQ => runK_sound hrk c st k a w Q hk hr h hQ) hQ _ _ a w (gc_sound hpn hr hok) h).loop
  | .exit id, st, k, a, w, Q, hk, hr, h, hQ => wp_exit (hQ (.exit id) st a w hr h)
  | .label l, st, k, a, w, Q, hk, hr, h, hQ => wp_label (hQ .normal st a w hr h)
  | .ret, st, k, a, w, Q, hk, hr, h, hQ => wp_ret (hQ .ret st a w hr h)
  | .goto _, st, k, a, w, Q, hk, hr, h, hQ => by rw [← h] at hrk; simp [runK, Res.bad] at hrk
  | .scope _, st, k, a, w, Q, hk, hr, h, hQ => by rw [← h] at hrk; simp [runK, Res.bad] at hrk
  | .rangeFunc _ _ _ _, st, k, a, w, Q, hk, hr, h, hQ => by rw [← h] at hrk; simp [runK, Res.bad] at hrk
  | .refuse _, st, k, a, w, Q, hk, hr, h, hQ => by rw [← h] at hrk; simp [runK, Res.bad] at hrk

end
end Go.Abs
