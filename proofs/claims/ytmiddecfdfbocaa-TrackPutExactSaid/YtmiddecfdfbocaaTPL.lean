/- Put puts cells into the branch, or into a new one, as the document says. -/
import Derived.Test.YtmiddecfdfbocaaTP
import Derived.Test.YtmiddecfdfbocaaTOL
import Derived.Test.YtmiddecfdfbocaaA22
set_option linter.all false
set_option linter.unusedVariables false
set_option linter.unusedSimpArgs false
open Go Go.Abs Go.Proofs
set_option linter.unusedVariables false
set_option linter.unusedSimpArgs false
namespace Go.Proofs.Ytmiddecfdfbocaa
/-! ### edits stand in order -/
def sortedE : Option Int → List Edit → Prop
  | _, [] => True
  | q, x :: l => (∀ u, q = some u → u < x.1) ∧ sortedE (some x.1) l
theorem editsF_sorted {st : Int → Bool} {bat : Int} : ∀ {l : List Edit} {q : Option Int} {e c : Int}, (editsF st bat q l e c).1 = 0 → sortedE q l
  | [], _, _, _, _ => trivial
  | x :: l, q, e, c, h => by
    simp only [editsF] at h
    cases h1 : decide (x.1 < bat) || (decide (x.1 > 1099511627776) || lateBad q x.1) <;> rw [h1] at h
    · rw [cond_false] at h
      cases h2 : decide ((x.2.length : Int) = 0) <;> rw [h2] at h
      · rw [cond_false] at h
        cases h3 : !decide (lookF st none x.2 = 0) <;> rw [h3] at h
        · rw [cond_false] at h
          refine ⟨fun u hu => ?_, editsF_sorted h⟩
          subst hu
          simp only [Bool.or_eq_false_iff, lateBad, decide_eq_false_iff_not] at h1
          omega
        · rw [cond_true] at h
          have h3' : ¬ lookF st none x.2 = 0 := by simpa using h3
          exact absurd h h3'
      · rw [cond_true] at h; exact absurd h (show ¬ ((103 : Int) = 0) by decide)
    · rw [cond_true] at h; exact absurd h (show ¬ ((102 : Int) = 0) by decide)
theorem branchesF_sorted {st : Int → Bool} : ∀ {l : List Branch} {i : Nat} {e c : Int}, branchesF st i l e c = 0 → ∀ b ∈ l, sortedE none b.2.2
  | [], _, _, _, _, b, hb => by simp at hb
  | x :: l, i, e, c, h, b, hb => by
    simp only [branchesF] at h
    cases h1 : fromBad i x.1 <;> rw [h1] at h
    · rw [cond_false] at h
      cases h2 : timeBad i x.2.1 <;> rw [h2] at h
      · rw [cond_false] at h
        by_cases h3 : (editsF st x.2.1 none x.2.2 e c).1 = 0
        · rw [show decide ((editsF st x.2.1 none x.2.2 e c).1 = 0) = true from decide_eq_true h3, Bool.not_true, cond_false] at h
          rcases List.mem_cons.1 hb with rfl | hb
          · exact editsF_sorted h3
          · exact branchesF_sorted h b hb
        · rw [show decide ((editsF st x.2.1 none x.2.2 e c).1 = 0) = false from decide_eq_false h3, Bool.not_false, cond_true] at h
          exact absurd h h3
      · rw [cond_true] at h; exact absurd h (by decide)
    · rw [cond_true] at h; exact absurd h (by decide)
theorem sorted_gt : ∀ {l : List Edit} {u : Int}, sortedE (some u) l → ∀ x ∈ l, u < x.1
  | [], _, _, x, hx => by simp at hx
  | y :: l, u, h, x, hx => by
    rcases List.mem_cons.1 hx with rfl | hx
    · exact h.1 u rfl
    · have := sorted_gt h.2 x hx
      have := h.1 u rfl
      omega
theorem sorted_last : ∀ {l : List Edit} {q : Option Int}, sortedE q l → ∀ x ∈ l, x.1 ≤ (nth edit0 l (l.length - 1)).1
  | [], _, _, x, hx => by simp at hx
  | [y], q, _, x, hx => by
    simp only [List.mem_singleton] at hx
    subst hx
    exact Int.le_refl _
  | y :: z :: l, q, h, x, hx => by
    have e : nth edit0 (y :: z :: l) ((y :: z :: l).length - 1) = nth edit0 (z :: l) ((z :: l).length - 1) := rfl
    rw [e]
    rcases List.mem_cons.1 hx with rfl | hx
    · have h1 := sorted_gt h.2 z (by simp)
      have h2 := sorted_last h.2 z (by simp)
      omega
    · exact sorted_last h.2 x hx
theorem past_last {es : List Edit} (h : sortedE none es) (t : Int) : pastE t es = !lastE t es := by
  simp only [lastE]
  by_cases h0 : es.length = 0
  · have : es = [] := List.eq_nil_of_length_eq_zero h0
    subst this
    rfl
  · rw [show decide ((es.length : Int) = 0) = false by simp; intro h; exact h0 (by rw [h]; rfl), cond_false, Bool.eq_iff_iff]
    simp only [pastE, List.any_eq_true, decide_eq_true_eq, Bool.not_eq_true', decide_eq_false_iff_not]
    constructor
    · rintro ⟨x, hx, hle⟩
      have := sorted_last h x hx
      omega
    · intro hle
      exact ⟨_, nth_mem edit0 es (i := es.length - 1) (by omega), by omega⟩
theorem pastB_last (b t : Int) : ∀ bs : List Branch, pastB b t bs = !lastB b t bs
  | [] => rfl
  | o :: l => by
    have ih := pastB_last b t l
    simp only [pastB, lastB, List.any_cons, List.all_cons] at ih ⊢
    rw [ih, show decide (t > o.2.1) = !decide (t ≤ o.2.1) by rw [Bool.eq_iff_iff]; simp]
    cases decide (o.1 = b) <;> cases decide (t ≤ o.2.1) <;> simp
theorem pastF_last {k : Int} {cs : List Six} {p : List Cell} {bs : List Branch} {b t : Int} (hv : rValidM (k, cs, p, bs) = 0) (h0 : 0 ≤ b) (h1 : b < (bs.length : Int)) : pastF bs b t = !lastF bs b t := by
  have hs : sortedE none (nth branch0 bs b.toNat).2.2 := by
    have hm := nth_mem branch0 bs (i := b.toNat) (by omega)
    simp only [rValidM, validF] at hv
    by_cases c1 : rCheckM (k, cs) = 0
    · rw [show decide (rCheckM (k, cs) = 0) = true from decide_eq_true c1, Bool.not_true, cond_false] at hv
      by_cases c2 : rproperM (k, cs, true, p) = 0
      · rw [show decide (rproperM (k, cs, true, p) = 0) = true from decide_eq_true c2, Bool.not_true, cond_false] at hv
        cases c3 : decide ((bs.length : Int) = 0) || decide ((bs.length : Int) > 256) <;> rw [c3] at hv
        · rw [cond_false] at hv
          exact branchesF_sorted hv _ hm
        · rw [cond_true] at hv; exact absurd hv (by decide)
      · rw [show decide (rproperM (k, cs, true, p) = 0) = false from decide_eq_false c2, Bool.not_false, cond_true] at hv
        exact absurd hv c2
    · rw [show decide (rCheckM (k, cs) = 0) = false from decide_eq_false c1, Bool.not_false, cond_true] at hv
      exact absurd hv (by decide)
  simp only [pastF, lastF, past_last hs, pastB_last]
  cases lastE t (nth branch0 bs b.toNat).2.2 <;> cases lastB b t bs <;> rfl

/-! ### both put alike -/
theorem putT_congr {α : Type} {E : Int → α} {K0 K1 : List Branch → Int → α} {v v' : List Branch → Int} {l l' : Int} {past past' : Bool} {bs : List Branch} {b t : Int} {c : List Cell} (h1 : v bs = v' bs) (h2 : v (bs ++ [(b, t, [(t, c)])]) = v' (bs ++ [(b, t, [(t, c)])]))
    (h3 : v (bs.set b.toNat ((nth branch0 bs b.toNat).1, (nth branch0 bs b.toNat).2.1, (nth branch0 bs b.toNat).2.2 ++ [(t, c)])) = v' (bs.set b.toNat ((nth branch0 bs b.toNat).1, (nth branch0 bs b.toNat).2.1, (nth branch0 bs b.toNat).2.2 ++ [(t, c)])))
    (h4 : v' bs = 0 → l = l') (h5 : v' bs = 0 → 0 ≤ b → b < (bs.length : Int) → past = past') : putT E K0 K1 v l past bs b t c = putT E K0 K1 v' l' past' bs b t c := by
  unfold putT
  rw [h1, h2, h3]
  by_cases h0 : v' bs = 0
  · rw [h4 h0]
    by_cases hb : 0 ≤ b ∧ b < (bs.length : Int)
    · rw [h5 h0 hb.1 hb.2]
    · have : (decide (b < 0) || decide (b ≥ (bs.length : Int))) = true := by simp; omega
      rw [this]
      rfl
  · rw [show decide (v' bs = 0) = false from decide_eq_false h0]
    rfl
theorem look_same {k : Int} {cs : List Six} {c : List Cell} (hc : checkM (k, cs) = 0) (h : ∀ x ∈ c, inR x.2.2 = true) : lookedM (k, cs, c) = rCellsOfM (k, cs, c) := by
  simp only [lookedM, rCellsOfM]
  exact lookF_same fun x hx => st_same hc (h x hx)
theorem valid_check {k : Int} {cs : List Six} {p : List Cell} {bs : List Branch} (h : rValidM (k, cs, p, bs) = 0) : checkM (k, cs) = 0 := by
  simp only [rValidM, validF] at h
  by_cases c1 : rCheckM (k, cs) = 0
  · exact c1
  · rw [show decide (rCheckM (k, cs) = 0) = false from decide_eq_false c1, Bool.not_false, cond_true] at h
    exact absurd h (by decide)
theorem put_same {k : Int} {cs : List Six} {p : List Cell} {bs : List Branch} {b t : Int} {c : List Cell} (h : journalIn (k, cs, p, bs)) (hc : ∀ x ∈ c, inR x.2.2 = true) : oPutM (k, cs, p, bs, b, t, c) = rPutM (k, cs, p, bs, b, t, c) := by
  have hnew : journalIn (k, cs, p, bs ++ [(b, t, [(t, c)])]) := ⟨h.1, fun y hy x hx z hz => by
    rcases List.mem_append.1 hy with hy | hy
    · exact h.2 y hy x hx z hz
    · simp only [List.mem_singleton] at hy
      subst hy
      simp only [List.mem_singleton] at hx
      subst hx
      exact hc z hz⟩
  have hset : ∀ i, journalIn (k, cs, p, bs.set i ((nth branch0 bs i).1, (nth branch0 bs i).2.1, (nth branch0 bs i).2.2 ++ [(t, c)])) := fun i => ⟨h.1, fun y hy x hx z hz => by
    rcases List.mem_or_eq_of_mem_set hy with hy | rfl
    · exact h.2 y hy x hx z hz
    · simp only at hx
      rcases List.mem_append.1 hx with hx | hx
      · by_cases hi : i < bs.length
        · exact h.2 _ (nth_mem branch0 bs hi) x hx z hz
        · rw [nth_ge _ _ _ (by omega)] at hx; simp at hx
      · simp only [List.mem_singleton] at hx
        subst hx
        exact hc z hz⟩
  simp only [oPutM, rPutM, putG]
  exact putT_congr (v := fun bs => validM (k, cs, p, bs)) (v' := fun bs => rValidM (k, cs, p, bs)) (valid_same h) (valid_same hnew) (valid_same (hset _)) (fun hv => look_same (valid_check hv) hc) fun hv h0 h1 => pastF_last hv h0 h1
theorem ans_ok {k : Int} {cs : List Six} {p : List Cell} {bs : List Branch} {b t : Int} {c : List Cell} (h : putOk (k, cs, p, bs, b, t, c) = true) (hcs : cs.length < big) (x : TwoJournals) (hx : (x.1, x.2.1, x.2.2.1, x.2.2.2.1) = ((rPutM (k, cs, p, bs, b, t, c)).1, (rPutM (k, cs, p, bs, b, t, c)).2.1, (rPutM (k, cs, p, bs, b, t, c)).2.2.1, (rPutM (k, cs, p, bs, b, t, c)).2.2.2.1)) : sameOk x = true := by
  have key : ∀ a : Ans, a = rPutM (k, cs, p, bs, b, t, c) → a.2.1.length < big ∧ journalOk (a.1, a.2.1, a.2.2.1, a.2.2.2.1) = true ∧ a.2.2.2.1.length < big := by
    intro a ha
    have fnew := fit_new h
    have fset := fun hb : b.toNat < bs.length => fit_set (i := b.toNat) (x := (nth branch0 bs b.toNat).1) (y := (nth branch0 bs b.toNat).2.1) h hb
    have h' := h
    simp only [putOk, Bool.and_eq_true, decide_eq_true_eq] at h'
    obtain ⟨⟨h1, h2⟩, h3, h4, h5⟩ := h'
    have hn : ∀ e, a = putN e → a.2.1.length < big ∧ journalOk (a.1, a.2.1, a.2.2.1, a.2.2.2.1) = true ∧ a.2.2.2.1.length < big := fun e he => by
      subst he
      exact ⟨show 0 < big by decide, rfl, show 0 < big by decide⟩
    simp only [rPutM, putG, putT] at ha
    cases c1 : !decide (rValidM (k, cs, p, bs) = 0) <;> rw [c1] at ha
    · rw [cond_false] at ha
      cases c2 : decide (b < 0) || decide (b ≥ (bs.length : Int)) <;> rw [c2] at ha
      · rw [cond_false] at ha
        simp only [Bool.or_eq_false_iff, decide_eq_false_iff_not] at c2
        cases c3 : decide (t < (nth branch0 bs b.toNat).2.1) || decide (t > 1099511627776) <;> rw [c3] at ha
        · rw [cond_false] at ha
          cases c4 : !decide (rCellsOfM (k, cs, c) = 0) <;> rw [c4] at ha
          · rw [cond_false] at ha
            cases c5 : decide ((c.length : Int) = 0) <;> rw [c5] at ha
            · rw [cond_false] at ha
              cases c6 : !lastF bs b t <;> rw [c6] at ha
              · rw [cond_false] at ha
                cases c7 : !decide (rValidM (k, cs, p, bs.set b.toNat ((nth branch0 bs b.toNat).1, (nth branch0 bs b.toNat).2.1, (nth branch0 bs b.toNat).2.2 ++ [(t, c)])) = 0) <;> rw [c7] at ha
                · rw [cond_false] at ha
                  subst ha
                  exact ⟨hcs, fset (by omega), by simp only [List.length_set, big]; omega⟩
                · exact hn 103 ha
              · rw [cond_true] at ha
                cases c7 : !decide (rValidM (k, cs, p, bs ++ [(b, t, [(t, c)])]) = 0) <;> rw [c7] at ha
                · rw [cond_false] at ha
                  subst ha
                  exact ⟨hcs, fnew, by simp only [List.length_append, List.length_cons, List.length_nil, big]; omega⟩
                · exact hn 103 ha
            · rw [cond_true] at ha
              subst ha
              exact ⟨hcs, h2, by simp only [big]; omega⟩
          · exact hn _ ha
        · exact hn 102 ha
      · exact hn 101 ha
    · exact hn _ ha
  obtain ⟨q1, q2, q3⟩ := key _ rfl
  obtain ⟨x1, x2, x3, x4, y⟩ := x
  simp only [Prod.mk.injEq] at hx
  obtain ⟨rfl, rfl, rfl, rfl⟩ := hx
  simp only [journalOk, Bool.and_eq_true, decide_eq_true_eq] at q2
  simp only [sameOk, Bool.and_eq_true, decide_eq_true_eq]
  exact ⟨q1, q2.1, q3, q2.2⟩
theorem lPut_plain (k : Int) (cs : List Six) (p : List Cell) (bs : List Branch) (b t : Int) (c : List Cell) (h : putOk (k, cs, p, bs, b, t, c) = true) (hcs : cs.length < big) (hj : journalIn (k, cs, p, bs)) (hc : ∀ x ∈ c, inR x.2.2 = true) : lPut_run 0 (k, cs, p, bs, b, t, c) = ⟨true, .bool true, []⟩ := by
  refine (lPut_arg ..).trans ((lPut_eq ..).trans ?_)
  rw [show rPutOk (k, cs, p, bs, b, t, c) = true from h, show oPutOk (k, cs, p, bs, b, t, c) = true from h, cond_true, cond_true, put_same hj hc]
  generalize ha : rPutM (k, cs, p, bs, b, t, c) = a
  have hok := ans_ok h hcs (a.1, a.2.1, a.2.2.1, a.2.2.2.1, a.1, a.2.1, a.2.2.1, a.2.2.2.1) (by rw [ha])
  rw [decide_eq_true rfl, decide_eq_true rfl, cond_true, cond_true, hok, cond_true]
  rw [show sameM (a.1, a.2.1, a.2.2.1, a.2.2.2.1, a.1, a.2.1, a.2.2.1, a.2.2.2.1) = true from same_refl (a.1, a.2.1, a.2.2.1, a.2.2.2.1)]
theorem bytes_cell : Try.prog.bytesOf 58 = 24 := by kernel_rfl
theorem bytes_case : Try.prog.bytesOf 71 = 48 := by kernel_rfl
theorem bytes_edit : Try.prog.bytesOf 47 = 32 := by kernel_rfl
theorem bytes_branch : Try.prog.bytesOf 45 = 40 := by kernel_rfl
theorem wf_ask {y : Ask} (h : wfT Try.prog lPut_K y) : putOk y = true ∧ y.2.1.length < big ∧ journalIn (y.1, y.2.1, y.2.2.1, y.2.2.2.1) ∧ ∀ x ∈ y.2.2.2.2.2.2, inR x.2.2 = true := by
  obtain ⟨k, cs, p, bs, b, t, c⟩ := y
  obtain ⟨_, hcs, hp, hbs, _, _, hc⟩ := h
  have ecs := hcs.1
  have ep := hp.1
  have ebs := hbs.1
  have ec := hc.1
  rw [bytes_case] at ecs
  rw [bytes_cell] at ep ec
  rw [bytes_branch] at ebs
  have cellsIn : ∀ l : List Cell, wfT Try.prog (.slice 58 cell_k) l → ∀ c ∈ l, inR c.2.2 = true := fun l hl c hc => by
    have := (wf_mem hl hc).2.2
    simp only [inR, Bool.and_eq_true, decide_eq_true_eq]
    exact this
  have cellsLen : ∀ l : List Cell, wfT Try.prog (.slice 58 cell_k) l → l.length * 24 ≤ 140737488351232 := fun l hl => by
    have := hl.1
    rw [bytes_cell] at this
    exact this
  have hb : ∀ b ∈ bs, b.2.2.length * 32 ≤ 140737488351232 ∧ ∀ x ∈ b.2.2, x.2.length * 24 ≤ 140737488351232 ∧ ∀ c ∈ x.2, inR c.2.2 = true := fun b hb => by
    have hw := (wf_mem hbs hb).2.2
    have h1 := hw.1
    rw [bytes_edit] at h1
    exact ⟨h1, fun x hx => ⟨cellsLen _ (wf_mem hw hx).2, cellsIn _ (wf_mem hw hx).2⟩⟩
  have lcs : cs.length * 48 ≤ 140737488351232 := ecs
  have lp : p.length * 24 ≤ 140737488351232 := ep
  have lbs : bs.length * 40 ≤ 140737488351232 := ebs
  have lc : c.length * 24 ≤ 140737488351232 := ec
  refine ⟨?_, by simp only [big]; omega, ⟨cellsIn p hp, fun y hy x hx => ((hb y hy).2 x hx).2⟩, cellsIn c hc⟩
  simp only [putOk, Bool.and_eq_true, decide_eq_true_eq]
  refine ⟨⟨?_, ?_⟩, by omega, ?_, by omega⟩
  · simp only [copiedOk, Bool.and_eq_true, decide_eq_true_eq]
    refine ⟨by omega, by omega, by omega, ?_⟩
    rw [List.all_eq_true]
    intro y hy
    simp only [branchFit, Bool.and_eq_true, decide_eq_true_eq, List.all_eq_true, editFit]
    exact ⟨by have := (hb y hy).1; omega, fun x hx => by have := ((hb y hy).2 x hx).1; omega⟩
  · simp only [journalOk, Bool.and_eq_true, decide_eq_true_eq]
    refine ⟨by simp only [big]; omega, ?_⟩
    rw [List.all_eq_true]
    intro y hy
    simp only [branchOk, Bool.and_eq_true, decide_eq_true_eq, List.all_eq_true, editOk, big]
    exact ⟨by have := (hb y hy).1; omega, fun x hx => by have := ((hb y hy).2 x hx).1; omega⟩
  · rw [List.all_eq_true]
    intro y hy
    simp only [roomy, decide_eq_true_eq]
    have := (hb y hy).1
    omega
theorem lPut_fin (y : CT lPut_K) (h : wfT Try.prog lPut_K y) : ∃ F, runF (cx_lPut F) Try.f5 (groupA lPut_sh (enc lPut_K y)) [] = ⟨true, .bool true, []⟩ := by
  obtain ⟨h1, h2, h3, h4⟩ := wf_ask h
  exact ⟨0, lPut_plain _ _ _ _ _ _ _ h1 h2 h3 h4⟩
end Go.Proofs.Ytmiddecfdfbocaa
