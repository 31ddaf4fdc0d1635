/- Regions in any order. -/
import Derived.Test.YtmiddecfdfbocaaA13
set_option linter.all false
set_option linter.unusedVariables false
set_option linter.unusedSimpArgs false
namespace Go.Abs
open Go.RowKit (Below)
set_option linter.unusedSimpArgs false
set_option linter.unusedVariables false
set_option linter.unusedSectionVars false

section
variable {H : List Blk} {μ : Nat → Value} {w : World} {S : Nat → Prop} {w0 : World} {S0 : Sc} {cx : Cx}

/-! ### what stands before what -/
theorem edgeBits_spec {acc : List Nat} {i : Nat} : ∀ {l : List Edge}, (edgeBits acc l).testBit i = true → ∃ e ∈ l, Region.binds .any e = true ∧ (i = e.on ∨ (nth 0 acc e.on).testBit i = true)
  | [], h => by simp [edgeBits] at h
  | e :: l, h => by
    simp only [edgeBits] at h
    cases hb : Region.binds .any e with
    | false =>
      rw [hb] at h
      obtain ⟨e', h1, h2⟩ := edgeBits_spec h
      exact ⟨e', List.mem_cons_of_mem _ h1, h2⟩
    | true =>
      rw [hb] at h
      simp only [cond_true, Nat.testBit_or, Bool.or_eq_true] at h
      rcases h with h | h | h
      · obtain ⟨e', h1, h2⟩ := edgeBits_spec h
        exact ⟨e', List.mem_cons_of_mem _ h1, h2⟩
      · rw [Nat.testBit_two_pow] at h
        exact ⟨e, by simp, hb, .inl (by simpa using Eq.symm (by simpa using h))⟩
      · exact ⟨e, by simp, hb, .inr h⟩
theorem befs_spec : ∀ (l : List Oper) (acc : List Nat) (k i : Nat), (nth 0 (befs l acc) k).testBit i = true →
    (k < acc.length ∧ (nth 0 acc k).testBit i = true) ∨ ∃ o, acc.length ≤ k ∧ l[k - acc.length]? = some o ∧ ∃ e ∈ o.after.toList, Region.binds .any e = true ∧ (i = e.on ∨ (e.on < k ∧ (nth 0 (befs l acc) e.on).testBit i = true))
  | [], acc, k, i, h => by
    simp only [befs] at h
    refine .inl ⟨Nat.lt_of_not_le fun hk => ?_, h⟩
    rw [nth_ge _ _ _ hk] at h; simp at h
  | o :: l, acc, k, i, h => by
    have keep : ∀ (l : List Oper) (acc : List Nat) (q : Nat), q < acc.length → nth 0 (befs l acc) q = nth 0 acc q := fun l => by
      induction l with
      | nil => intro acc q _; rfl
      | cons o l ih =>
        intro acc q hq
        simp only [befs]
        rw [ih _ q (by simp; omega), nth_append, if_pos hq]
    simp only [befs] at h
    rcases befs_spec l _ k i h with ⟨h1, h2⟩ | ⟨o', h1, h2, h3⟩
    · simp only [List.length_append, List.length_cons, List.length_nil] at h1
      rw [nth_append] at h2
      by_cases hk : k < acc.length
      · rw [if_pos hk] at h2; exact .inl ⟨hk, h2⟩
      · rw [if_neg hk] at h2
        have hk' : k = acc.length := by omega
        subst hk'
        simp only [Nat.sub_self, nth] at h2
        obtain ⟨e, e1, e2, e3⟩ := edgeBits_spec h2
        refine .inr ⟨o, Nat.le_refl _, by simp, e, e1, e2, ?_⟩
        rcases e3 with h | h
        · exact .inl h
        · have hlt : e.on < acc.length := Nat.lt_of_not_le fun hk => by rw [nth_ge _ _ _ hk] at h; simp at h
          refine .inr ⟨hlt, ?_⟩
          rw [keep _ _ _ hlt]; exact h
    · simp only [List.length_append, List.length_cons, List.length_nil] at h1 h2
      refine .inr ⟨o', by omega, ?_, ?_⟩
      · rw [show k - acc.length = (k - (acc.length + (0 + 1))) + 1 by omega]
        simpa using h2
      · obtain ⟨e, e1, e2, e3⟩ := h3
        exact ⟨e, e1, e2, e3⟩
theorem edgesOk_spec : ∀ (l : List Oper) (j : Nat), edgesOk l j = true → ∀ (i : Nat) (o : Oper), l[i]? = some o → ∀ e ∈ o.after.toList, Region.binds .any e = true → e.on < j + i
  | [], _, _, i, o, ho, _, _, _ => by simp at ho
  | x :: l, j, h, i, o, ho, e, he, hb => by
    simp only [edgesOk, Bool.and_eq_true] at h
    cases i with
    | zero =>
      simp at ho
      subst ho
      have := List.all_eq_true.1 h.1 e he
      simp only [hb, Bool.not_true, Bool.false_or, Nat.blt_eq] at this
      omega
    | succ i =>
      have := edgesOk_spec l (j + 1) h.2 i o (by simpa using ho) e he hb
      omega

instance : Inhabited Foot := ⟨⟨[], [], [], []⟩⟩
theorem drawRow_spec {bj : Nat} {f : Foot} : ∀ (l : List Foot) (k : Nat), drawRow bj f l k = true → ∀ i, i < l.length → bj.testBit (k + i) = true ∨ clash (nth default l i) f = false
  | [], _, _, i, hi => by simp at hi
  | g :: l, k, h, i, hi => by
    simp only [drawRow, Bool.and_eq_true, Bool.or_eq_true, Bool.not_eq_true'] at h
    cases i with
    | zero => simpa [nth] using h.1
    | succ i =>
      have := drawRow_spec l (k + 1) h.2 i (by simpa using hi)
      rw [show k + (i + 1) = k + 1 + i by omega]
      exact this
theorem drawOk_spec {bs : List Nat} : ∀ (fs done : List Foot) (k : Nat), done.length = k → drawOk bs done fs k = true → ∀ j, k ≤ j → j < k + fs.length → ∀ i, i < j → (nth 0 bs j).testBit i = true ∨ clash (nth default (done ++ fs) i) (nth default (done ++ fs) j) = false
  | [], done, k, hk, h, j, h1, h2, i, hi => by simp at h2; omega
  | f :: fs, done, k, hk, h, j, h1, h2, i, hi => by
    simp only [drawOk, Bool.and_eq_true] at h
    by_cases hj : j = k
    · subst hj
      have := drawRow_spec done 0 h.1 i (by omega)
      rw [nth_append, nth_append, if_pos (by omega), if_neg (by omega), show j - done.length = 0 by omega]
      simpa [nth] using this
    · have := drawOk_spec fs (done ++ [f]) (k + 1) (by simp [hk]) h.2 j (by omega) (by simp at h2; omega) i hi
      simpa using this

theorem meets_spec {a b : List Nat} : meets a b = true ↔ ∃ x, x ∈ a ∧ x ∈ b := by simp [meets]
theorem mem_upTo : ∀ (n b x : Nat), x ∈ upTo n b ↔ b ≤ x ∧ x < b + n
  | 0, b, x => by simp [upTo]
  | n + 1, b, x => by simp only [upTo, List.mem_cons, mem_upTo n (b + 1) x]; omega

section draw
variable {ops : Array Oper} {B : Nat} {st : St}

def eff (cx : Cx) (B : Nat) (l : List Oper) (st : St) (i : Nat) : Ef :=
  { dst := (nth default l i).dst, val := stepVal cx l (bse B l i) (nth default l i) (stt cx B l st i).T (stt cx B l st i).H, wr := (opE cx l (stt cx B l st i).T (stt cx B l st i).H (bse B l i) (nth default l i)).wr }

variable (hchk : ∀ i o, i < ops.toList.length → ops.toList[i]? = some o → stepChk cx ops.toList (bse B ops.toList i) o (stt cx B ops.toList st i).T (stt cx B ops.toList st i).H = true)
include hchk

theorem app_all : ∀ n, n ≤ ops.toList.length → app (eff cx B ops.toList st) (fun _ => true) n (st.T, st.H) = ((stt cx B ops.toList st n).T, (stt cx B ops.toList st n).H)
  | 0, _ => rfl
  | n + 1, h => by
    have hn : n < ops.toList.length := by omega
    have hg : ops.toList[n]? = some (nth default ops.toList n) := by rw [List.getElem?_eq_getElem hn, nth_lt _ _ _ hn]
    have e := stepOp_TH (hchk n _ hn hg)
    simp only [app, if_true, app_all n (by omega), stt, hg, e.1, e.2]
    rfl
theorem app_prefix (n j : Nat) (hn : n ≤ ops.toList.length) (hj : j ≤ n) : app (eff cx B ops.toList st) (fun i => Nat.blt i j) n (st.T, st.H) = ((stt cx B ops.toList st j).T, (stt cx B ops.toList st j).H) := by
  induction n with
  | zero => obtain rfl : j = 0 := by omega
            rfl
  | succ n ih =>
    by_cases hjn : j = n + 1
    · subst hjn
      rw [← app_all hchk (n + 1) hn]
      exact app_L _ fun i hi => by simpa [Nat.blt_eq] using hi
    · have : Nat.blt n j = false := by rw [Bool.eq_false_iff]; simp [Nat.blt_eq]; omega
      simp only [app, this]
      exact ih (by omega) (by omega)

variable (hdr : ∀ i j, i < j → j < ops.toList.length → (nth 0 (befs ops.toList []) j).testBit i = true ∨ clash (ftt cx B ops.toList st i) (ftt cx B ops.toList st j) = false)
  (hed : ∀ i o, ops.toList[i]? = some o → ∀ e ∈ o.after.toList, Region.binds .any e = true → e.on < i)

/-- Listed: with an operation, all that stand before it. -/
def Down (ops : Array Oper) (L : Nat → Bool) : Prop := ∀ (j : Nat) (o : Oper), ops.toList[j]? = some o → L j = true → ∀ e ∈ o.after.toList, Region.binds .any e = true → L e.on = true

omit hchk in
theorem bef_listed {L : Nat → Bool} (hL : Down ops L) {i : Nat} : ∀ (j : Nat) (o : Oper), ops.toList[j]? = some o → (∀ e ∈ o.after.toList, Region.binds .any e = true → L e.on = true) → (nth 0 (befs ops.toList []) j).testBit i = true → L i = true := by
  intro j
  induction j using Nat.strongRecOn with
  | _ j ih =>
    intro o ho he hb
    rcases befs_spec ops.toList [] j i hb with ⟨h, _⟩ | ⟨o', _, h2, e, e1, e2, e3⟩
    · simp at h
    · have hoo : o' = o := by simp only [List.length_nil, Nat.sub_zero] at h2; rw [ho] at h2; exact (Option.some.inj h2).symm
      subst hoo
      have hl := he e e1 e2
      rcases e3 with rfl | ⟨h3, h4⟩
      · exact hl
      · have hlt : e.on < ops.toList.length := by
          have := (List.getElem?_eq_some_iff.1 ho).1
          omega
        have hg : ops.toList[e.on]? = some ops.toList[e.on] := List.getElem?_eq_getElem hlt
        exact ih e.on h3 _ hg (hL e.on _ hg hl) h4

include hdr

/-- Those that clash with an operation that may be next are listed just when they stand ahead of it in the text. -/
theorem agree {L : Nat → Bool} (hL : Down ops L) {j : Nat} {o : Oper} (ho : ops.toList[j]? = some o) (hj : L j = false) (he : ∀ e ∈ o.after.toList, Region.binds .any e = true → L e.on = true) (i : Nat) (hi : i < ops.toList.length)
    (hc : (i < j → clash (ftt cx B ops.toList st i) (ftt cx B ops.toList st j) = true) ∧ (j < i → clash (ftt cx B ops.toList st j) (ftt cx B ops.toList st i) = true)) : L i = Nat.blt i j := by
  have hjl := (List.getElem?_eq_some_iff.1 ho).1
  rcases Nat.lt_trichotomy i j with h | h | h
  · have h1 : Nat.blt i j = true := by simpa [Nat.blt_eq] using h
    rw [h1]
    rcases hdr i j h hjl with hb | hb
    · exact bef_listed hL j o ho he hb
    · rw [hc.1 h] at hb; cases hb
  · subst h
    rw [hj]; symm; rw [Bool.eq_false_iff]; simp [Nat.blt_eq]
  · have h1 : Nat.blt i j = false := by rw [Bool.eq_false_iff]; simp [Nat.blt_eq]; omega
    rw [h1]
    cases hli : L i with
    | false => rfl
    | true =>
      rcases hdr j i h hi with hb | hb
      · have hg : ops.toList[i]? = some ops.toList[i] := List.getElem?_eq_getElem hi
        have := bef_listed hL i _ hg (hL i _ hg hli) hb
        rw [hj] at this; cases this
      · rw [hc.2 h] at hb; cases hb

theorem indep_at {L : Nat → Bool} (hL : Down ops L) {j : Nat} (hj : L j = false) (k : Nat) (hjk : j < k) (hk : k < ops.toList.length) (hlk : L k = true) : indep (eff cx B ops.toList st j) (eff cx B ops.toList st k) := by
  have nc : clash (ftt cx B ops.toList st j) (ftt cx B ops.toList st k) = false := by
    rcases hdr j k hjk hk with hb | hb
    · have hg : ops.toList[k]? = some ops.toList[k] := List.getElem?_eq_getElem hk
      have := bef_listed hL k _ hg (hL k _ hg hlk) hb
      rw [hj] at this; cases this
    · exact hb
  simp only [clash, Bool.or_eq_false_iff] at nc
  obtain ⟨⟨⟨n1, n2⟩, n3⟩, n4⟩ := nc
  refine ⟨fun d h1 h2 => ?_, fun b h1 h2 => ?_⟩
  · rw [Bool.eq_false_iff] at n3
    exact n3 (meets_spec.2 ⟨d, by simp only [ftt, footOf]; simp only [eff] at h1; simp [h1], by simp only [ftt, footOf]; simp only [eff] at h2; simp [h2]⟩)
  · rw [Bool.eq_false_iff] at n1
    exact n1 (meets_spec.2 ⟨b, by simp only [ftt, footOf, List.mem_append]; exact .inl h1, by simp only [ftt, footOf, List.mem_append]; exact .inl (.inl h2)⟩)

variable (hC : CSound cx.P cx.C) (hB : ∀ b, B ≤ b → nth .free st.H b = .free) (hlen : B + slotsAll ops.toList ≤ st.H.length)
include hC hB hlen hchk hed

theorem draw_sim (hnn : ∀ o ∈ ops.toList, isNextO o = false) {Q : Exit → Act → World → Prop} (hQ : ∀ a w, RepTH w0 S0 (stt cx B ops.toList st ops.toList.length).T (stt cx B ops.toList st ops.toList.length).H a w → Q .normal a w) :
    ∀ (fuel : Nat) (listed : Array Bool) (a : Act) (w : World), listed.size = ops.toList.length → Down ops (fun i => listed.getD i false) → ((List.range ops.toList.length).filter fun i => !listed.getD i false).length ≤ fuel →
      RepTH w0 S0 (app (eff cx B ops.toList st) (fun i => listed.getD i false) ops.toList.length (st.T, st.H)).1 (app (eff cx B ops.toList st) (fun i => listed.getD i false) ops.toList.length (st.T, st.H)).2 a w →
      wpAny cx.P .any ops Q fuel listed a w := by
  have hsz : ops.size = ops.toList.length := by simp
  have done : ∀ (listed : Array Bool) (a : Act) (w : World), (∀ i, i < ops.toList.length → listed.getD i false = true) → RepTH w0 S0 (app (eff cx B ops.toList st) (fun i => listed.getD i false) ops.toList.length (st.T, st.H)).1 (app (eff cx B ops.toList st) (fun i => listed.getD i false) ops.toList.length (st.T, st.H)).2 a w → Q .normal a w := fun listed a w h hr => by
    rw [app_L (L' := fun _ => true) _ fun i hi => h i hi, app_all hchk _ (Nat.le_refl _)] at hr
    exact hQ a w hr
  have rdy : ∀ (listed : Array Bool) j, listed.size = ops.toList.length → (j ∈ Region.ready .any ops listed ↔ ∃ o, ops.toList[j]? = some o ∧ listed.getD j false = false ∧ ∀ e ∈ o.after.toList, Region.binds .any e = true → listed.getD e.on false = true) := fun listed j hs => by
    simp only [Region.ready, List.mem_filter, List.mem_range, Bool.and_eq_true, Bool.not_eq_true']
    constructor
    · rintro ⟨h1, h2, h3⟩
      have hj : j < ops.toList.length := by omega
      have hg : ops[j]? = some ops[j] := Array.getElem?_eq_getElem h1
      refine ⟨ops[j], by rw [← hg]; simp, ?_, fun e he hb => ?_⟩
      · rw [Array.getD_eq_getD_getElem?, Array.getElem?_eq_getElem (by omega)] at h2 ⊢; exact h2
      · rw [hg] at h3
        simp only [Option.map_some, Option.getD_some, Array.all_eq_true_iff_forall_mem] at h3
        have := h3 e (Array.mem_toList_iff.1 he)
        simpa [hb] using this
    · rintro ⟨o, h1, h2, h3⟩
      have hj := (List.getElem?_eq_some_iff.1 h1).1
      have hg : ops[j]? = some o := by rw [← h1]; simp
      refine ⟨by omega, ?_, ?_⟩
      · rw [Array.getD_eq_getD_getElem?, Array.getElem?_eq_getElem (by omega)] at h2 ⊢; exact h2
      · rw [hg]
        simp only [Option.map_some, Option.getD_some, Array.all_eq_true_iff_forall_mem]
        intro e he
        cases hb : Region.binds .any e with
        | false => rfl
        | true => simpa using h3 e (Array.mem_toList_iff.2 he) hb
  have full : ∀ (listed : Array Bool), listed.size = ops.toList.length → Region.ready .any ops listed = [] → ∀ i, i < ops.toList.length → listed.getD i false = true := fun listed hs hr i => by
    induction i using Nat.strongRecOn with
    | _ i ih =>
      intro hi
      cases hl : listed.getD i false with
      | true => rfl
      | false =>
        have hg : ops.toList[i]? = some ops.toList[i] := List.getElem?_eq_getElem hi
        have : i ∈ Region.ready .any ops listed := (rdy listed i hs).2 ⟨_, hg, hl, fun e he hb => by
          have := hed i _ hg e he hb
          exact ih e.on this (by omega)⟩
        rw [hr] at this; cases this
  intro fuel
  induction fuel with
  | zero =>
    intro listed a w hs hL hcount hr
    have hall : ∀ i, i < ops.toList.length → listed.getD i false = true := fun i hi => by
      cases hl : listed.getD i false with
      | true => rfl
      | false =>
        have : i ∈ (List.range ops.toList.length).filter fun i => !listed.getD i false := by simp only [List.mem_filter, List.mem_range]; exact ⟨hi, by simp [hl]⟩
        have h0 := List.eq_nil_of_length_eq_zero (Nat.le_zero.1 hcount)
        rw [h0] at this; cases this
    refine ⟨?_, done listed a w hall hr⟩
    rw [List.eq_nil_iff_forall_not_mem]
    intro j hj
    obtain ⟨o, h1, h2, _⟩ := (rdy listed j hs).1 hj
    rw [hall j (List.getElem?_eq_some_iff.1 h1).1] at h2; cases h2
  | succ fuel ih =>
    intro listed a w hs hL hcount hr
    refine ⟨fun hr0 => done listed a w (full listed hs hr0) hr, fun j hj => ?_⟩
    obtain ⟨o, ho, hlj, hej⟩ := (rdy listed j hs).1 hj
    have hjl := (List.getElem?_eq_some_iff.1 ho).1
    have hnj : nth default ops.toList j = o := by rw [nth_lt _ _ _ hjl]; exact (List.getElem?_eq_some_iff.1 ho).2
    have hag := agree (st := st) (B := B) (cx := cx) hchk hdr hL ho hlj hej
    have hpre := app_prefix hchk ops.toList.length j (Nat.le_refl _) (by omega)
    -- what the operation reads is as in the text's order
    have hT : ∀ t, t ∈ tmpsOf o.op.operands.toList ++ (guardD ops.toList o.guard).toList → nth .junk (app (eff cx B ops.toList st) (fun i => listed.getD i false) ops.toList.length (st.T, st.H)).1 t = nth .junk (stt cx B ops.toList st j).T t := fun t ht => by
      have e := app_T (E := eff cx B ops.toList st) (L := fun i => listed.getD i false) (L' := fun i => Nat.blt i j) (s := (st.T, st.H)) (t := t) ops.toList.length fun i hi hd => hag i hi (by
        have hd' : t ∈ (ftt cx B ops.toList st i).dst := by simp only [ftt, footOf]; simp only [eff] at hd; simp [hd]
        have hu : t ∈ (ftt cx B ops.toList st j).use := by simp only [ftt, footOf, hnj]; exact ht
        exact ⟨fun _ => by simp only [clash, Bool.or_eq_true]; exact .inl (.inr (meets_spec.2 ⟨t, hd', List.mem_append_right _ hu⟩)), fun _ => by simp only [clash, Bool.or_eq_true]; exact .inr (meets_spec.2 ⟨t, hd', hu⟩)⟩)
      rw [e, hpre]
    have hHr : ∀ b, b ∈ opRd cx (stt cx B ops.toList st j).T (stt cx B ops.toList st j).H o → nth .free (app (eff cx B ops.toList st) (fun i => listed.getD i false) ops.toList.length (st.T, st.H)).2 b = nth .free (stt cx B ops.toList st j).H b := fun b hb => by
      have e := app_H (E := eff cx B ops.toList st) (L := fun i => listed.getD i false) (L' := fun i => Nat.blt i j) (s := (st.T, st.H)) (b := b) ops.toList.length fun i hi hd => hag i hi (by
        have hd' : b ∈ (ftt cx B ops.toList st i).wr := by simp only [ftt, footOf, List.mem_append]; exact .inl hd
        have hu : b ∈ (ftt cx B ops.toList st j).rd := by simp only [ftt, footOf, hnj]; exact hb
        exact ⟨fun _ => by simp only [clash, Bool.or_eq_true]; exact .inl (.inl (.inl (meets_spec.2 ⟨b, hd', List.mem_append_right _ hu⟩))), fun _ => by simp only [clash, Bool.or_eq_true]; exact .inl (.inl (.inr (meets_spec.2 ⟨b, hd', hu⟩)))⟩)
      rw [e, hpre]
    have hHf : ∀ b, bse B ops.toList j ≤ b → b < bse B ops.toList j + slots o → nth .free (app (eff cx B ops.toList st) (fun i => listed.getD i false) ops.toList.length (st.T, st.H)).2 b = nth .free (stt cx B ops.toList st j).H b := fun b h1 h2 => by
      have hu : b ∈ (ftt cx B ops.toList st j).wr := by simp only [ftt, footOf, hnj, List.mem_append]; exact .inr ((mem_upTo _ _ _).2 ⟨h1, h2⟩)
      have e := app_H (E := eff cx B ops.toList st) (L := fun i => listed.getD i false) (L' := fun i => Nat.blt i j) (s := (st.T, st.H)) (b := b) ops.toList.length fun i hi hd => hag i hi (by
        have hd' : b ∈ (ftt cx B ops.toList st i).wr := by simp only [ftt, footOf, List.mem_append]; exact .inl hd
        exact ⟨fun _ => by simp only [clash, Bool.or_eq_true]; exact .inl (.inl (.inl (meets_spec.2 ⟨b, hd', List.mem_append_left _ hu⟩))), fun _ => by simp only [clash, Bool.or_eq_true]; exact .inl (.inl (.inl (meets_spec.2 ⟨b, hu, List.mem_append_left _ hd'⟩)))⟩)
      rw [e, hpre]
    have hcong := opE_congr (cx := cx) (base := bse B ops.toList j) (o := o) (T := (stt cx B ops.toList st j).T) (H := (stt cx B ops.toList st j).H) (fun t ht => (hT t (List.mem_append_left _ ht)).symm) (fun b hb => (hHr b hb).symm)
    have hgb : guardB ops.toList (app (eff cx B ops.toList st) (fun i => listed.getD i false) ops.toList.length (st.T, st.H)).1 o.guard = guardB ops.toList (stt cx B ops.toList st j).T o.guard := by
      cases hgd : o.guard with
      | none => rfl
      | some p =>
        obtain ⟨q, want⟩ := p
        simp only [guardB]
        cases hd : (nth none (ops.toList.map some) q).bind (·.dst) with
        | none => rfl
        | some d =>
          have := hT d (List.mem_append_right _ (by simp [guardD, hgd, hd]))
          simp only [this]
    have hoe : opE cx ops.toList (app (eff cx B ops.toList st) (fun i => listed.getD i false) ops.toList.length (st.T, st.H)).1 (app (eff cx B ops.toList st) (fun i => listed.getD i false) ops.toList.length (st.T, st.H)).2 (bse B ops.toList j) o = opE cx ops.toList (stt cx B ops.toList st j).T (stt cx B ops.toList st j).H (bse B ops.toList j) o := by
      unfold opE
      rw [hgb, ← hcong.1]
    have hchkL : stepChk cx ops.toList (bse B ops.toList j) o (app (eff cx B ops.toList st) (fun i => listed.getD i false) ops.toList.length (st.T, st.H)).1 (app (eff cx B ops.toList st) (fun i => listed.getD i false) ops.toList.length (st.T, st.H)).2 = true := by
      have := hchk j o hjl ho
      simp only [stepChk] at this ⊢
      rw [hgb, hoe, ← hcong.2]
      exact this
    have hvalL : stepVal cx ops.toList (bse B ops.toList j) o (app (eff cx B ops.toList st) (fun i => listed.getD i false) ops.toList.length (st.T, st.H)).1 (app (eff cx B ops.toList st) (fun i => listed.getD i false) ops.toList.length (st.T, st.H)).2 = (eff cx B ops.toList st j).val := by
      simp only [stepVal, eff, hnj]
      rw [hgb, hoe]
    have hwrL : (opE cx ops.toList (app (eff cx B ops.toList st) (fun i => listed.getD i false) ops.toList.length (st.T, st.H)).1 (app (eff cx B ops.toList st) (fun i => listed.getD i false) ops.toList.length (st.T, st.H)).2 (bse B ops.toList j) o).wr = (eff cx B ops.toList st j).wr := by
      simp only [eff, hnj]
      rw [hoe]
    have hfree : FreeAt (app (eff cx B ops.toList st) (fun i => listed.getD i false) ops.toList.length (st.T, st.H)).2 (bse B ops.toList j) (slots o) := fun i hi => by
      refine ⟨?_, ?_⟩
      · rw [hHf _ (by omega) (by omega)]
        exact stt_free hB j (fun i' o' hi2 => hchk i' o' (by omega)) _ (by omega)
      · rw [(app_length _ _ _ _).2]
        have := bse_all (B := B) (l := ops.toList) (i := j + 1)
        rw [bse_succ ho] at this
        show bse B ops.toList j + i < st.H.length
        omega
    obtain ⟨μ, S, h1, hst, h2, h3⟩ := hr
    refine step_sim (by rw [← ho]; simp) hC h1 hst h2 h3 hfree hchkL (NextOk.none (cx := cx) (w0 := w0) (S0 := S0) (hnn o (List.mem_of_getElem? ho)) μ S h1 h3) fun a' w' hr' => ?_
    rw [hvalL, hwrL] at hr'
    have hjs : j < listed.size := by omega
    have hset : ∀ i, (listed.setIfInBounds j true).getD i false = (i == j || listed.getD i false) := fun i => by
      by_cases hij : i = j
      · subst hij; simp [Array.getD_eq_getD_getElem?, hjs]
      · rw [Array.getD_eq_getD_getElem?, Array.getElem?_setIfInBounds, if_neg (Ne.symm hij), ← Array.getD_eq_getD_getElem?]
        have hb : (i == j) = false := by simpa using hij
        rw [hb, Bool.false_or]
    refine ih _ a' w' (by simp [hs]) (fun i o' ho' hi e he hb => ?_) ?_ ?_
    · simp only [hset] at hi ⊢
      simp only [Bool.or_eq_true, beq_iff_eq] at hi ⊢
      rcases hi with rfl | hi
      · rw [ho] at ho'; cases ho'
        exact .inr (hej e he hb)
      · exact .inr (hL i o' ho' hi e he hb)
    · have hmem : j ∈ (List.range ops.toList.length).filter fun i => !listed.getD i false := by
        simp only [List.mem_filter, List.mem_range]; exact ⟨hjl, by rw [hlj]; rfl⟩
      have hsub : ((List.range ops.toList.length).filter fun i => !(listed.setIfInBounds j true).getD i false) = ((List.range ops.toList.length).filter fun i => !listed.getD i false).filter (fun i => i != j) := by
        rw [List.filter_filter]
        refine List.filter_congr fun i _ => ?_
        rw [hset]
        show (!(i == j || listed.getD i false)) = (!(i == j) && !listed.getD i false)
        cases (i == j) <;> cases listed.getD i false <;> rfl
      rw [hsub]
      have hlt : (((List.range ops.toList.length).filter fun i => !listed.getD i false).filter (fun i => i != j)).length < ((List.range ops.toList.length).filter fun i => !listed.getD i false).length :=
        List.length_filter_lt_length_iff_exists.2 ⟨j, hmem, by simp⟩
      omega
    · have hins := app_insert (E := eff cx B ops.toList st) (L := fun i => listed.getD i false) (s := (st.T, st.H)) (j := j) hlj ops.toList.length hjl fun k h4 h5 h6 => indep_at hchk hdr hL hlj k h4 h5 h6
      have heq : (fun i => (listed.setIfInBounds j true).getD i false) = fun i => i == j || listed.getD i false := funext hset
      rw [heq, hins]
      have hd : (eff cx B ops.toList st j).dst = o.dst := by simp only [eff, hnj]
      simp only [Ef.act, hd]
      exact hr'
end draw

theorem region_sim {id : Nat} {ops : Array Oper} {draw : Bool} {st : St} {a : Act} {Q : Exit → Act → World → Prop} (hC : CSound cx.P cx.C) (hm : cx.P.follows .mixedOrders = true) (hr : RepTH w0 S0 st.T st.H a w) (hok : (runRegion cx ops draw st).ok = true)
    (hno : (∀ o ∈ ops.toList, isNextO o = false) ∨ (draw = false ∧ (∀ i o, ops.toList[i]? = some o → 0 < i → isNextO o = false) ∧ ∀ o, ops.toList[0]? = some o → NextOk cx w0 S0 st.T (st.H ++ frees (slotsAll ops.toList)) o a w))
    (hQ : ∀ a' w', RepTH w0 S0 (runRegion cx ops draw st).T (runRegion cx ops draw st).H a' w' → Q .normal a' w') : (Code.region id ops draw).wp cx.P Q a w := by
  have hB : ∀ b, st.H.length ≤ b → nth .free (st.H ++ frees (slotsAll ops.toList)) b = .free := fun b hb => by rw [nth_app_frees, nth_ge _ _ _ hb]
  have hlen : st.H.length + slotsAll ops.toList ≤ (st.H ++ frees (slotsAll ops.toList)).length := by simp [frees_length]
  have hr1 : RepTH w0 S0 st.T (st.H ++ frees (slotsAll ops.toList)) a w := hr.same fun b => nth_app_frees _ _ _
  cases draw with
  | false =>
    simp only [runRegion] at hok hQ
    rw [runOps_eq] at hok hQ
    obtain ⟨_, hchk⟩ := stt_ok _ hok
    have hn0 : ∀ i o, ops.toList[i]? = some o → 0 < i → isNextO o = false := fun i o h hp => hno.elim (fun h' => h' o (List.mem_of_getElem? h)) fun h' => h'.2.1 i o h hp
    have hn1 : ∀ o, ops.toList[0]? = some o → NextOk cx w0 S0 st.T (st.H ++ frees (slotsAll ops.toList)) o a w := fun o h => hno.elim (fun h' => .none (h' o (List.mem_of_getElem? h))) fun h' => h'.2.2 o h
    refine wp_region ?_
    have := seq_sim (w0 := w0) (S0 := S0) (Q := Q) (st := { st with H := st.H ++ frees (slotsAll ops.toList) }) hC hB hlen hchk hn0 (fun a w h => hQ a w h) ops.toList.length 0 (by omega) a w hr1 (fun _ o ho => hn1 o ho)
    rw [List.range_eq_range']
    simpa using this
  | true =>
    simp only [runRegion, Bool.and_eq_true] at hok hQ
    rw [runOps_eq] at hok hQ
    obtain ⟨⟨ho1, ho2⟩, ho3⟩ := hok
    obtain ⟨_, hchk⟩ := stt_ok _ ho3
    rw [feet_eq] at ho2
    refine wp_region_any hm ?_
    have hr2 : RepTH w0 S0 st.T (st.H ++ frees (slotsAll ops.toList)) a { w with drawn := w.drawn + 1 } := hr1.grow ⟨rfl, rfl, rfl, Nat.le_refl _, fun _ _ => rfl⟩
    refine draw_sim (st := { st with H := st.H ++ frees (slotsAll ops.toList) }) (B := st.H.length) hchk (fun i j hij hj => ?_) (fun i o ho e he hb => by have := edgesOk_spec _ 0 ho1 i o ho e he hb; omega) hC hB hlen (hno.elim (fun h' => h') fun h => by cases h.1) (fun a w h => hQ a w h) ops.size _ a _ (by simp) ?_ ?_ ?_
    · have := drawOk_spec _ [] 0 rfl ho2 j (Nat.zero_le _) (by simpa using hj) i hij
      simp only [List.nil_append] at this
      have hn : ∀ k, k < ops.toList.length → nth default ((List.range' 0 ops.toList.length).map (ftt cx st.H.length ops.toList { st with H := st.H ++ frees (slotsAll ops.toList) })) k = ftt cx st.H.length ops.toList { st with H := st.H ++ frees (slotsAll ops.toList) } k := fun k hk => by
        rw [nth_lt _ _ _ (by simpa using hk)]; simp
      rw [hn i (by omega), hn j hj] at this
      exact this
    · intro j o _ hj
      simp only [Array.getD_eq_getD_getElem?, Array.getElem?_replicate] at hj
      split at hj <;> simp at hj
    · refine Nat.le_trans (List.length_filter_le _ _) (by simp)
    · have e : app (eff cx st.H.length ops.toList { st with H := st.H ++ frees (slotsAll ops.toList) }) (fun i => (Array.replicate ops.size false).getD i false) ops.toList.length (st.T, st.H ++ frees (slotsAll ops.toList)) = (st.T, st.H ++ frees (slotsAll ops.toList)) := by
        have : ∀ n, app (eff cx st.H.length ops.toList { st with H := st.H ++ frees (slotsAll ops.toList) }) (fun i => (Array.replicate ops.size false).getD i false) n (st.T, st.H ++ frees (slotsAll ops.toList)) = (st.T, st.H ++ frees (slotsAll ops.toList)) := fun n => by
          induction n with
          | zero => rfl
          | succ n ih =>
            have : (Array.replicate ops.size false).getD n false = false := by
              simp only [Array.getD_eq_getD_getElem?, Array.getElem?_replicate]; split <;> rfl
            simp only [app, this]
            exact ih
        exact this _
      rw [e]
      exact hr2

end
end Go.Abs
