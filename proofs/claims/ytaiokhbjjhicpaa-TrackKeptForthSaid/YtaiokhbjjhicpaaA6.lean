/- Operations that make rows. -/
import Derived.Test.YtaiokhbjjhicpaaA5
import Derived.Laws.OwnMore
set_option linter.all false
set_option linter.unusedVariables false
set_option linter.unusedSimpArgs false
namespace Go.Abs
open Go.RowKit (Below)
set_option linter.unusedSimpArgs false
set_option linter.unusedVariables false

section
variable {H : List Blk} {μ : Nat → Value} {w : World} {S : Nat → Prop} {P : Program} {w0 : World} {S0 : Sc}

theorem HR.nil {base : Nat → Prop} {μ : Nat → Value} (hs : ∀ B, S B → B < w.heap.size) : HR [] μ w S base :=
  ⟨fun b => by rw [nth_nil]; trivial, fun b b' B h => by rw [nth_nil] at h; exact absurd h (by simp [Blk.live]), hs⟩
theorem view1_nil {v : AV} {u : Value} (hs : ∀ B, S B → B < w.heap.size) (h : VR [] μ w S v u) : PV w S (view1 [] v) u :=
  view1_sound (base := fun _ => True) (HR.nil hs) h (fun _ h => h) (fun b _ r B hr => by rw [nth_nil] at hr; simp [rdOf] at hr) fun b _ B hm => by rw [nth_nil] at hm; cases hm

theorem elemT_spec {t e : TypeId} (h : elemT P t = some e) : P.underlying t = some (.slice e) := by
  unfold elemT at h
  cases hu : P.underlying t with
  | none => simp [hu] at h
  | some d => cases d <;> simp [hu] at h <;> subst h <;> rfl

theorem pure_one {c : AV} {u : Value} (h : PV w S c u) (hp : pure1 c = true) : u.oneCell' = true := cell1_one (H := []) (μ := fun _ => undef) (.pv h) (pure1_cell1 hp)
theorem made_get {z : Array Value} {n k : Nat} (hk : k < n) (hz : 0 < z.size) : (madeCells z n).getD k undef = z.getD (k % z.size) undef := by
  have : k % z.size < z.size := Nat.mod_lt _ hz
  simp [madeCells, Array.getD_eq_getD_getElem?, hk, this]

theorem pv_of_pure {c : AV} {u : Value} (h : VR H μ w S c u) (hp : pure1 c = true) : PV w S c u := by
  cases h with
  | pv h => exact h
  | _ => simp [pure1] at hp

theorem makeSlice_after {base : Nat} {t : TypeId} {l c : AV} {vl vc : Value} (hr : RepAt w0 S0 H μ S w) (hf : FreeAt H base 1) (hl : VR H μ w S l vl) (hcc : VR H μ w S c vc) (hc : (makeSliceE P t base l c).chk = true) :
    ∃ u w', (Instr.makeSlice t vl vc).run P w = .ok u w' ∧ After w0 S0 H μ S w (makeSliceE P t base l c) u w' := by
  obtain ⟨h0, hlt⟩ := hf.zero (by omega)
  cases he : elemT P t with
  | none => simp [makeSliceE, he, Eff.bad] at hc
  | some e =>
    cases l <;> (try (simp [makeSliceE, he, Eff.bad] at hc; done))
    cases c <;> (try (simp [makeSliceE, he, Eff.bad] at hc; done))
    rename_i k n k' m
    simp only [makeSliceE, he] at hc ⊢
    simp only [Bool.and_eq_true, beq_iff_eq, Nat.blt_eq, decide_eq_true_eq] at hc
    obtain ⟨c1, cw, c2, c3, c4, cd, c5, c6, c7, c8⟩ := hc
    rw [vr_int hl, vr_int hcc]
    obtain ⟨z, inf, hi, hz, hz', hcr⟩ := zeroA_run (P := P) (H := []) (μ := μ) (w := w) (S := S) c3
    have hb : inf.bytes = P.bytesOf e := by simp [Program.bytesOf, hi]
    have hs : inf.size = P.cellsOf e := (cellsOf_info hi).symm
    have hzs : z.cells.size = P.cellsOf e := by rw [← hcr.1, c2]
    have hrun := run_make (P := P) w t e inf z (elemT_spec he) hi hz' k k' n m c5 c6 (by rw [hb, Int.mul_comm]; omega) (by omega)
    rw [hs] at hrun
    refine ⟨_, _, hrun, ?_⟩
    have hrow : RowV (w.alloc (.cells (madeCells z.cells (m.toNat * P.cellsOf e)) e)) S0.own (PC (w.alloc (.cells (madeCells z.cells (m.toNat * P.cellsOf e)) e)) S) (.slice (some ⟨w.heap.size, 0, none⟩) n.toNat m.toNat) e (kE P e) (List.replicate n.toNat (dec (kE P e) (cellsA (zeroA P e)))) := by
      refine .inr ⟨w.heap.size, 0, m.toNat, _, by rw [List.length_replicate], hr.fresh _ hr.below.size, heap_alloc_new w _, by rw [List.length_replicate]; omega, by simp only [maxLen]; omega, by rw [Nat.zero_add, cw]; exact size_madeCells _ _, fun i hi j hj => ?_⟩
      rw [List.length_replicate] at hi
      rw [cw] at hj ⊢
      have hk : i * P.cellsOf e + j < m.toNat * P.cellsOf e := by
        have : (i + 1) * P.cellsOf e ≤ m.toNat * P.cellsOf e := Nat.mul_le_mul_right _ (by omega)
        rw [Nat.add_mul] at this; omega
      rw [Nat.zero_add, made_get hk (by omega), hzs, Nat.mul_comm i, Nat.mul_add_mod, Nat.mod_eq_of_lt hj]
      have hpz : ∀ q, q < width (kE P e) → PV w S (nth .junk (cellsA (zeroA P e)) q) (z.cells.getD q undef) := fun q hq => by
        have hql : q < (cellsA (zeroA P e)).length := by omega
        exact pv_of_pure (hcr.2 q hql) (by have := List.all_eq_true.1 c4 _ (List.getElem_mem hql); rwa [← nth_lt .junk _ _ hql] at this)
      have hge : gt (kE P e) (List.replicate n.toNat (dec (kE P e) (cellsA (zeroA P e)))) i = enc (kE P e) (dec (kE P e) (cellsA (zeroA P e))) := by
        simp only [gt]; rw [nth_lt _ _ _ (by rw [List.length_replicate]; exact hi), List.getElem_replicate]
      rw [hge]
      have hpv := dec_sound (kE P e) _ _ cd hpz j (by rw [cw]; exact hj)
      have hpu : (z.cells.getD j undef).oneCell' = true := by
        have hjl : j < (cellsA (zeroA P e)).length := by omega
        exact pure_one (hpz j (by rw [cw]; exact hj)) (by have := List.all_eq_true.1 c4 _ (List.getElem_mem hjl); rwa [← nth_lt .junk _ _ hjl] at this)
      exact ⟨hpv.mono (fun _ h => h) fun B h => (Grow.alloc w _).old B (hr.hr.stab B h), hpu⟩
    have hh := hr.hr.newRow h0 hlt (Grow.alloc w _) (fun B h => by simp only [blkOf, Option.some.injEq] at h; omega) hrow
    refine ⟨setI μ base (.slice (some ⟨w.heap.size, 0, none⟩) n.toNat m.toNat), S, ⟨hh, (Grow.alloc _ _).below hr.below, hr.sub, hr.sup, hr.fresh, hr.pins.ext (Ext.setFree h0)⟩, Ext.setFree h0, fun _ h => h, fun B h => (Grow.alloc _ _).old B (hr.hr.stab B h), vr_newRow hlt hrow 0⟩

theorem reps_length {α : Type} : ∀ (n : Nat) (l : List α), (reps n l).length = n * l.length
  | 0, l => by simp [reps]
  | n + 1, l => by simp [reps, reps_length n l, Nat.add_mul, Nat.add_comm]
theorem reps_nth {l : List AV} : ∀ (n k : Nat), k < n * l.length → nth .junk (reps n l) k = nth .junk l (k % l.length)
  | 0, k, h => by simp at h
  | n + 1, k, h => by
    simp only [reps, nth_append]
    by_cases hk : k < l.length
    · rw [if_pos hk, Nat.mod_eq_of_lt hk]
    · rw [if_neg hk, reps_nth n (k - l.length) (by rw [Nat.add_mul] at h; omega)]
      congr 1
      exact (Nat.mod_eq_sub_mod (by omega)).symm

/-- A value as it is shown once its rows are read-only. -/
theorem view_sound {base : Nat → Prop} (hh : HR H μ w S base) {x : AV} {v : Value} (hv : VR H μ w S x v) (hx : isV x = true) {l : List Nat} (hl : ∀ b ∈ refs x, b ∈ l) : PV w (SF H μ S l) (view H x) v := by
  have h1 : ∀ {c : AV} {u : Value}, VR H μ w S c u → (∀ b ∈ refs1 c, b ∈ l) → PV w (SF H μ S l) (view1 H c) u := fun hc hl => view1_sound hh hc (fun B h => .inl h) (hlm := fun b hb B hm hB => mapB_SF hh (hl b hb) hm hB) fun b hb r B hr hB => by
    cases hxb : nth .free H b with
    | free => simp [hxb, rdOf] at hr
    | cells cs => simp [hxb, rdOf] at hr
    | map _ _ _ _ _ => simp [hxb, rdOf] at hr
    | fmap _ _ _ _ _ => simp [hxb, rdOf] at hr
    | iter _ _ _ _ _ _ => simp [hxb, rdOf] at hr
    | row ver e k xs => exact .inr ⟨b, hl b hb, by rw [hxb]; rfl, hB⟩
    | fro ver e k xs =>
      have hblk := hh.blk b
      rw [hxb] at hblk
      exact .inl (hblk.1 B hB)
  cases x with
  | agg cs =>
    have hcs : ∀ {vs : Array Value}, cs.length = vs.size → (∀ i, i < cs.length → VR H μ w S (nth .junk cs i) (vs.getD i undef)) → PV w (SF H μ S l) (view H (.agg cs)) (.agg vs) := fun hlen hc => by
      refine .agg _ _ (by simpa using hlen) fun i hi => ?_
      have hi' : i < cs.length := by simpa using hi
      rw [nth_map AV.junk AV.junk (view1 H) cs i hi']
      exact h1 (hc i hi') fun b hb => hl b (by
        show b ∈ cs.flatMap refs1
        exact List.mem_flatMap.2 ⟨_, by rw [nth_lt _ _ _ hi']; exact List.getElem_mem hi', hb⟩)
    cases hv with
    | pv h => cases h with | agg _ _ hlen hc => exact hcs hlen fun i hi => .pv (hc i hi)
    | agg _ _ hlen hc => exact hcs hlen hc
  | tup _ | when _ _ | clo _ _ | junk => simp [isV] at hx
  | _ => exact h1 hv hl

theorem fillA_length {place : Nat → Option (Nat × Nat)} : ∀ (parts : List (Nat × AV)) (cs : List AV) (out : List AV) (_ : Unit), fillA place cs parts = some out → out.length = cs.length
  | [], cs, out, _, h => by simp only [fillA, Option.some.injEq] at h; rw [h]
  | (i, x) :: parts, cs, out, _, h => by
    simp only [fillA] at h
    cases hpl : place i with
    | none => simp [hpl] at h
    | some p =>
      simp only [hpl] at h
      cases hcond : (isV x && ((cellsA x).length == p.2 && Nat.ble (p.1 + p.2) cs.length)) with
      | false => simp [hcond] at h
      | true =>
        rw [hcond] at h
        simp only [cond_true] at h
        simp only [Bool.and_eq_true, beq_iff_eq, Nat.ble_eq] at hcond
        rw [fillA_length parts _ out () h, takeL_eq, dropL_eq]
        simp
        omega

theorem buildCsl_after {base len : Nat} {t e : TypeId} {parts : List (Nat × AV)} {vparts : Array (Nat × Value)} (he : elemT P t = some e) (hr : RepAt w0 S0 H μ S w) (hf : FreeAt H base 1) (hpl : parts.length = vparts.toList.length)
    (hp : ∀ i, i < parts.length → (nth (0, .junk) parts i).1 = (nth (0, undef) vparts.toList i).1 ∧ VR H μ w S (nth (0, .junk) parts i).2 (nth (0, undef) vparts.toList i).2) (hc : (buildCslE P e base len parts).chk = true) :
    ∃ u w', (Instr.buildSlice t len vparts).run P w = .ok u w' ∧ After w0 S0 H μ S w (buildCslE P e base len parts) u w' := by
  obtain ⟨h0, hlt⟩ := hf.zero (by omega)
  unfold buildCslE at hc ⊢
  cases hfill : fillA (fun i => some (i * P.cellsOf e, P.cellsOf e)) (reps len (cellsA (zeroA P e))) parts with
  | none => simp [hfill, Eff.bad] at hc
  | some cs =>
    simp only [hfill, Bool.and_eq_true, beq_iff_eq, Nat.blt_eq, Nat.ble_eq] at hc ⊢
    obtain ⟨c1, c2, c4, c5, c6⟩ := hc
    obtain ⟨z, inf, hi, hz, hz', hcr⟩ := zeroA_run (P := P) (H := H) (μ := μ) (w := w) (S := S) c4
    have hs : inf.size = P.cellsOf e := (cellsOf_info hi).symm
    have hzs : z.cells.size = P.cellsOf e := by rw [← hcr.1, c2]
    have hinit : CR H μ w S (reps len (cellsA (zeroA P e))) (madeCells z.cells (len * P.cellsOf e)) := by
      refine ⟨by rw [reps_length, size_madeCells, c2], fun i hi => ?_⟩
      rw [reps_length, c2] at hi
      rw [reps_nth _ _ (by rw [c2]; exact hi), made_get hi (by omega), c2, hzs]
      have hm : i % P.cellsOf e < P.cellsOf e := Nat.mod_lt _ c1
      exact hcr.2 _ (by omega)
    obtain ⟨vout, hfr, hout⟩ := fill_sound (vparts := vparts.toList) hinit hpl hp hfill
    have hrun : (Instr.buildSlice t len vparts).run P w = .ok (.slice (some ⟨w.heap.size, 0, none⟩) len len) (w.alloc (.cells vout e)) := by
      have hsz : ¬ (len * P.cellsOf e > 2 ^ 24) := by omega
      by_cases h00 : len * P.cellsOf e = 0
      · rw [h00] at hfr
        have : madeCells z.cells 0 = #[] := by simp [madeCells, Array.range_zero']
        rw [this] at hfr
        have hz0 : len = 0 := (Nat.mul_eq_zero.1 h00).resolve_right (by omega)
        subst hz0
        simp [Instr.buildSlice, run_underlying (elemT_spec he), run_sizeOf hi, hfr, newRow, Array.range_zero']
      · have hz0 : ¬ (len = 0 ∨ P.cellsOf e = 0) := fun h => h00 (by rcases h with h | h <;> simp [h])
        simp only [madeCells] at hfr
        simp [Instr.buildSlice, run_underlying (elemT_spec he), run_sizeOf hi, hz0, hsz, hz, hfr, newRow]
        exact fun h => absurd h h00
    have hh := hr.hr.newCells (t := e) h0 hlt (hr.fresh _ hr.below.size) hout
    refine ⟨_, _, hrun, setI μ base (.pointer (some ⟨w.heap.size, 0, none⟩)), S, ?_, ?_, fun _ h => h, fun B h => (Grow.alloc _ _).old B (hr.hr.stab B h), ?_⟩
    · exact ⟨hh, (Grow.alloc _ _).below hr.below, hr.sub, hr.sup, hr.fresh, hr.pins.ext (Ext.setFree h0)⟩
    · exact Ext.setFree h0
    · exact .csl base len cs w.heap.size len (nth_put_eq hlt) (by simp [setI]) (Nat.le_refl _)

theorem buildSlice_after {base len : Nat} {t : TypeId} {parts : List (Nat × AV)} {vparts : Array (Nat × Value)} (hr : RepAt w0 S0 H μ S w) (hf : FreeAt H base 1) (hpl : parts.length = vparts.toList.length)
    (hp : ∀ i, i < parts.length → (nth (0, .junk) parts i).1 = (nth (0, undef) vparts.toList i).1 ∧ VR H μ w S (nth (0, .junk) parts i).2 (nth (0, undef) vparts.toList i).2) (hc : (buildSliceE P t H base len parts).chk = true) :
    ∃ u w', (Instr.buildSlice t len vparts).run P w = .ok u w' ∧ After w0 S0 H μ S w (buildSliceE P t H base len parts) u w' := by
  obtain ⟨h0, hlt⟩ := hf.zero (by omega)
  cases he : elemT P t with
  | none => simp [buildSliceE, he, Eff.bad] at hc
  | some e =>
    simp only [buildSliceE, he] at hc ⊢
    cases hbr : bears H parts with
    | true =>
      simp only [hbr, cond_true] at hc ⊢
      exact buildCsl_after he hr hf hpl hp hc
    | false =>
    simp only [hbr, cond_false] at hc ⊢
    cases hfill : fillA (fun i => some (i * P.cellsOf e, P.cellsOf e)) (reps len (cellsA (zeroA P e))) (parts.map fun p => (p.1, view H p.2)) with
    | none => simp [hfill, Eff.bad] at hc
    | some cs =>
      simp only [hfill, Bool.and_eq_true, beq_iff_eq, Nat.blt_eq, Nat.ble_eq] at hc ⊢
      obtain ⟨c1, cw, c2, c3, cd, c4, c5, c6⟩ := hc
      obtain ⟨hf1, hf2⟩ := hr.hr.frozen (parts.flatMap fun p => refs p.2)
      have hx1 := Ext.frozen (H := H) (μ := μ) (parts.flatMap fun p => refs p.2)
      have hn := frozenB_nth H (parts.flatMap fun p => refs p.2) H (fun _ => .inl rfl) rfl base
      rw [h0] at hn
      have h0' : nth .free (sets H (frozenB H (parts.flatMap fun p => refs p.2))) base = .free := by
        rw [hn]; cases (parts.flatMap fun p => refs p.2).contains base <;> rfl
      have hlt' : base < (sets H (frozenB H (parts.flatMap fun p => refs p.2))).length := by rw [sets_length]; exact hlt
      obtain ⟨z, inf, hi, hz, hz', hcr⟩ := zeroA_run (P := P) (H := []) (μ := μ) (w := w) (S := S) c4
      have hs : inf.size = P.cellsOf e := (cellsOf_info hi).symm
      have hzs : z.cells.size = P.cellsOf e := by rw [← hcr.1, c2]
      have hinit : CR [] μ w (SF H μ S (parts.flatMap fun p => refs p.2)) (reps len (cellsA (zeroA P e))) (madeCells z.cells (len * P.cellsOf e)) := by
        refine ⟨by rw [reps_length, size_madeCells, c2], fun i hi => ?_⟩
        rw [reps_length, c2] at hi
        rw [reps_nth _ _ (by rw [c2]; exact hi), made_get hi (by omega), c2, hzs]
        have hm : i % P.cellsOf e < P.cellsOf e := Nat.mod_lt _ c1
        exact (hcr.2 _ (by omega)).mono (Ext.refl _ _) (fun B h => .inl h) (fun _ _ => rfl)
      obtain ⟨vout, hfr, hout⟩ := fill_sound (vparts := vparts.toList) hinit (by simpa using hpl) (fun i hi' => by
        have hi2 : i < parts.length := by simpa using hi'
        rw [nth_map (0, AV.junk) (0, AV.junk) (fun p => (p.1, view H p.2)) parts i hi2]
        obtain ⟨q1, q2⟩ := hp i hi2
        have hmem : nth (0, AV.junk) parts i ∈ parts := by rw [nth_lt _ _ _ hi2]; exact List.getElem_mem hi2
        exact ⟨q1, .pv (view_sound hr.hr q2 (List.all_eq_true.1 c5 _ hmem) fun b hb => List.mem_flatMap.2 ⟨_, hmem, hb⟩)⟩) hfill
      have hcl : cs.length = len * P.cellsOf e := by
        have := fillA_length _ _ _ () hfill
        rw [this, reps_length, c2]
      have hrun : (Instr.buildSlice t len vparts).run P w = .ok (.slice (some ⟨w.heap.size, 0, none⟩) len len) (w.alloc (.cells vout e)) := by
        have hsz : ¬ (len * P.cellsOf e > 2 ^ 24) := by omega
        by_cases h00 : len * P.cellsOf e = 0
        · rw [h00] at hfr
          have : madeCells z.cells 0 = #[] := by simp [madeCells, Array.range_zero']
          rw [this] at hfr
          have hz0 : len = 0 := (Nat.mul_eq_zero.1 h00).resolve_right (by omega)
          subst hz0
          simp [Instr.buildSlice, run_underlying (elemT_spec he), run_sizeOf hi, hfr, newRow, Array.range_zero']
        · have hz0 : ¬ (len = 0 ∨ P.cellsOf e = 0) := fun h => h00 (by rcases h with h | h <;> simp [h])
          simp only [madeCells] at hfr
          simp [Instr.buildSlice, run_underlying (elemT_spec he), run_sizeOf hi, hz0, hsz, hz, hfr, newRow]
          exact fun h => absurd h h00
      refine ⟨_, _, hrun, ?_⟩
      have hlen : len ≤ 16777216 := Nat.le_trans (Nat.le_mul_of_pos_right len c1) c6
      have hg := Grow.alloc w (.cells vout e)
      have hrow : RowV (w.alloc (.cells vout e)) S0.own (PC (w.alloc (.cells vout e)) (SF H μ S (parts.flatMap fun p => refs p.2))) (.slice (some ⟨w.heap.size, 0, none⟩) len len) e (kE P e) (chunks (kE P e) len cs) := by
        refine .inr ⟨w.heap.size, 0, len, vout, by rw [chunks_length], hr.fresh _ hr.below.size, heap_alloc_new w _, by rw [chunks_length]; exact Nat.le_refl _, by simp only [maxLen]; omega, by rw [← hout.1, hcl, Nat.zero_add, cw], fun i hi j hj => ?_⟩
        rw [chunks_length] at hi
        have hpq : ∀ q, q < len * width (kE P e) → PV w (SF H μ S (parts.flatMap fun p => refs p.2)) (nth .junk cs q) (vout.getD q undef) ∧ (vout.getD q undef).oneCell' = true := fun q hq => by
          have hk : q < cs.length := by rw [hcl, ← cw]; exact hq
          have hpure : pure1 (nth .junk cs q) = true := List.all_eq_true.1 c3 _ (by rw [nth_lt _ _ _ hk]; exact List.getElem_mem hk)
          exact ⟨pv_of_pure (hout.2 _ hk) hpure, pure_one (pv_of_pure (hout.2 _ hk) hpure) hpure⟩
        have hin : i * width (kE P e) + j < len * width (kE P e) := by
          have : (i + 1) * width (kE P e) ≤ len * width (kE P e) := Nat.mul_le_mul_right _ (by omega)
          rw [Nat.add_mul, Nat.one_mul] at this; omega
        rw [Nat.zero_add]
        exact ⟨(chunks_sound (kE P e) len cs (fun q => vout.getD q undef) cd (fun q hq => (hpq q hq).1) i hi j hj).mono (fun _ h => h) fun B h => hg.old B (hf1.stab B h), (hpq _ hin).2⟩
      have hh := hf1.newRow h0' hlt' hg (fun B h => by simp only [blkOf, Option.some.injEq] at h; omega) hrow
      refine ⟨setI μ base (.slice (some ⟨w.heap.size, 0, none⟩) len len), SF H μ S (parts.flatMap fun p => refs p.2), ?_, ?_, fun B h => .inl h, fun B h => hg.old B (hr.hr.stab B h), ?_⟩
      · rw [sets_append]
        exact ⟨hh, hg.below hr.below, fun B h => .inl (hr.sub B h), fun B h => (hf2 B h).elim (hr.sup B) .inr, hr.fresh, hr.pins.ext (hx1.trans (Ext.setFree h0'))⟩
      · rw [sets_append]; exact hx1.trans (Ext.setFree h0')
      · rw [sets_append]; exact vr_newRow hlt' hrow 0

end
end Go.Abs
