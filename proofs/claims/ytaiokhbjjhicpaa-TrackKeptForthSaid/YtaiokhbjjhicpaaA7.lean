/- append. -/
import Derived.Test.YtaiokhbjjhicpaaA6
set_option linter.all false
set_option linter.unusedVariables false
set_option linter.unusedSimpArgs false
namespace Go.Abs
open Go.RowKit (Below)
set_option linter.unusedSimpArgs false
set_option linter.unusedVariables false

section
variable {H : List Blk} {μ : Nat → Value} {w : World} {S : Nat → Prop} {P : Program} {w0 : World} {S0 : Sc}

/-- Elements, in a list of cells. -/
def Elems (w : World) (S : Nat → Prop) (k : CK) (xs : List (CT k)) (news : List Value) : Prop :=
  news.length = xs.length * width k ∧ ∀ i, i < xs.length → ∀ j, j < width k → PC w S (nth .junk (gt k xs i) j) (news.getD (i * width k + j) undef)

theorem Elems.one {k : CK} {xs : List (CT k)} {news : List Value} (h : Elems w S k xs news) : ∀ u ∈ news, u.oneCell' = true := by
  intro u hu
  obtain ⟨q, hk, rfl⟩ := List.getElem_of_mem hu
  have hsz := width_pos k
  rw [h.1] at hk
  have h1 : q / width k < xs.length := Nat.div_lt_of_lt_mul (by rw [Nat.mul_comm]; exact hk)
  have h2 := h.2 (q / width k) h1 (q % width k) (Nat.mod_lt _ hsz)
  have e : q / width k * width k + q % width k = q := by rw [Nat.mul_comm]; exact Nat.div_add_mod q _
  rw [e, List.getD_eq_getElem?_getD, List.getElem?_eq_getElem (by rw [h.1]; exact hk)] at h2
  exact h2.2

theorem Elems.join {k : CK} {xs ys : List (CT k)} {olds news : List Value} (h : Elems w S k xs olds) (h' : Elems w S k ys news) : Elems w S k (xs ++ ys) (olds ++ news) := by
  refine ⟨by rw [List.length_append, h.1, h'.1, List.length_append, Nat.add_mul], fun i hi j hj => ?_⟩
  rw [List.length_append] at hi
  by_cases hn : i < xs.length
  · rw [gt_append_left hn]
    have hk : i * width k + j < olds.length := by
      rw [h.1]
      have : (i + 1) * width k ≤ xs.length * width k := Nat.mul_le_mul_right _ hn
      rw [Nat.add_mul] at this; omega
    rw [List.getD_eq_getElem?_getD, List.getElem?_append_left hk, ← List.getD_eq_getElem?_getD]
    exact h.2 i hn j hj
  · rw [gt_append_right (by omega)]
    have hk : olds.length ≤ i * width k + j := by
      rw [h.1]
      have : xs.length * width k ≤ i * width k := Nat.mul_le_mul_right _ (by omega)
      omega
    have e : i * width k + j - olds.length = (i - xs.length) * width k + j := by
      rw [h.1, Nat.sub_mul]
      have : xs.length * width k ≤ i * width k := Nat.mul_le_mul_right _ (by omega)
      omega
    rw [List.getD_eq_getElem?_getD, List.getElem?_append_right hk, ← List.getD_eq_getElem?_getD, e]
    exact h'.2 _ (by omega) j hj

theorem Elems.mono {w' : World} {S' : Nat → Prop} {k : CK} {xs : List (CT k)} {news : List Value} (h : Elems w S k xs news) (hS : ∀ B, S B → S' B) (hw : ∀ B, S B → w'.heap[B]? = w.heap[B]?) : Elems w' S' k xs news :=
  ⟨h.1, fun i hi j hj => (h.2 i hi j hj).mono hS hw⟩

/-- A row whose first cells are these. -/
theorem Elems.row {cap B o n : Nat} {M : Nat → Prop} {k : CK} {xs : List (CT k)} {olds : List Value} {cur : Array Value} {e : TypeId} (h : Elems w S k xs olds) (hn' : xs.length = n) (hb : M B) (hg : w.heap[B]? = some (.cells cur e (0, 0))) (hn : n ≤ cap) (hc : cap ≤ maxLen) (hs : cur.size = o + cap * width k) (ht : (cur.toList.drop o).take (n * width k) = olds) :
    RowV w M (PC w S) (.slice (some ⟨B, o, none⟩) n cap) e k xs := by
  subst hn'
  refine .inr ⟨B, o, cap, cur, rfl, hb, hg, hn, hc, hs, fun i hi j hj => ?_⟩
  have hk : i * width k + j < xs.length * width k := by
    have : (i + 1) * width k ≤ xs.length * width k := Nat.mul_le_mul_right _ hi
    rw [Nat.add_mul] at this; omega
  have := h.2 i hi j hj
  rw [← ht, List.getD_eq_getElem?_getD, List.getElem?_take, if_pos hk, List.getElem?_drop] at this
  rw [Array.getD_eq_getD_getElem?]
  simpa using this

theorem RowV.elems {M : Nat → Prop} {v : Value} {e : TypeId} {k : CK} {xs : List (CT k)} (h : RowV w M (PC w S) v e k xs) :
    (v = .slice none 0 0 ∧ xs = []) ∨ ∃ B o cap cur, v = .slice (some ⟨B, o, none⟩) xs.length cap ∧ M B ∧ w.heap[B]? = some (.cells cur e (0, 0)) ∧ xs.length ≤ cap ∧ cap ≤ maxLen ∧ cur.size = o + cap * width k ∧ Elems w S k xs ((cur.toList.drop o).take (xs.length * width k)) := by
  rcases h with h | ⟨B, o, cap, cur, rfl, h1, h2, h3, h4, h5, h6⟩
  · exact .inl h
  · refine .inr ⟨B, o, cap, cur, rfl, h1, h2, h3, h4, h5, ?_, fun i hi j hj => ?_⟩
    · rw [List.length_take, List.length_drop, show cur.toList.length = cur.size from Array.length_toList, h5]
      have := Nat.mul_le_mul_right (width k) h3
      omega
    · have hk : i * width k + j < xs.length * width k := by
        have : (i + 1) * width k ≤ xs.length * width k := Nat.mul_le_mul_right _ hi
        rw [Nat.add_mul] at this; omega
      rw [List.getD_eq_getElem?_getD, List.getElem?_take, if_pos hk, List.getElem?_drop]
      have := h6 i hi j hj
      rw [Array.getD_eq_getD_getElem?] at this
      simpa using this

theorem Elems.nil {k : CK} : Elems w S k ([] : List (CT k)) [] := ⟨by simp, fun i hi => absurd hi (by simp)⟩
/-- What is appended. -/
theorem src_ro {k : CK} {xs : List (CT k)} {v : Value} (h : PV w S (.ro k xs) v) :
    ∃ A c news, v = .slice A xs.length c ∧ Elems w S k xs news ∧ (A = none → xs.length = 0) ∧ ∀ a, A = some a → ∀ j u, news[j]? = some u → w.cell? (a.add j) = some u := by
  obtain ⟨A, c, rfl, hx⟩ := pv_ro_inv h
  rcases Nat.eq_zero_or_pos xs.length with h0 | h0
  · have : xs = [] := List.eq_nil_of_length_eq_zero h0
    subst this
    exact ⟨A, c, [], rfl, Elems.nil, fun _ => rfl, fun a _ j u h => by simp at h⟩
  · obtain ⟨hn, B, o, u, rfl, hS, hcell, hp⟩ := hx h0
    have hs0 := width_pos k
    refine ⟨_, c, (List.range (xs.length * width k)).map fun q => u (q / width k) (q % width k), rfl, ⟨by simp, fun i hi j hj => ?_⟩, (fun h => by cases h), fun a ha j v hv => ?_⟩
    · have hk : i * width k + j < xs.length * width k := by
        have : (i + 1) * width k ≤ xs.length * width k := Nat.mul_le_mul_right _ hi
        rw [Nat.add_mul] at this; omega
      have e1 : (i * width k + j) / width k = i := by rw [Nat.mul_comm, Nat.mul_add_div (by omega), Nat.div_eq_of_lt hj]; rfl
      have e2 : (i * width k + j) % width k = j := by rw [Nat.mul_comm, Nat.mul_add_mod, Nat.mod_eq_of_lt hj]
      rw [List.getD_eq_getElem?_getD, List.getElem?_map, List.getElem?_range hk]
      simp only [Option.map_some, Option.getD_some, e1, e2]
      exact hp i j hi hj
    · simp only [Option.some.injEq] at ha
      subst ha
      rw [List.getElem?_map] at hv
      rcases Nat.lt_or_ge j (xs.length * width k) with hj | hj
      · rw [List.getElem?_range hj] at hv
        simp only [Option.map_some, Option.some.injEq] at hv
        subst hv
        have e : j / width k * width k + j % width k = j := by rw [Nat.mul_comm]; exact Nat.div_add_mod j _
        have := hcell (j / width k) (j % width k) (Nat.div_lt_of_lt_mul (by rw [Nat.mul_comm]; exact hj)) (Nat.mod_lt _ hs0)
        rw [e] at this
        rw [Addr.add_lit]
        exact this
      · rw [List.getElem?_eq_none (by simpa using hj)] at hv
        cases hv
theorem src_sound {base : Nat → Prop} {k : CK} (hh : HR H μ w S base) {x : AV} {v : Value} (hv : VR H μ w S x v) (hok : isRo k (view1 H x) = true) :
    ∃ A c news, v = .slice A (asL k (view1 H x)).length c ∧ Elems w S k (asL k (view1 H x)) news ∧ (A = none → (asL k (view1 H x)).length = 0) ∧ ∀ a, A = some a → ∀ j u, news[j]? = some u → w.cell? (a.add j) = some u := by
  cases hv with
  | pv h =>
    have e : ∀ (w : World) (S : Nat → Prop), PV w S x v → PV w S (view1 H x) v := fun w S h => by cases h <;> first | exact .junk _ | (simp only [view1]; assumption) | (constructor <;> assumption) | (simp only [view1]; constructor <;> assumption)
    exact src_ro ((e w S h).asL hok)
  | sl b ver off lw len r A c hr hle hlc hA hcur =>
    simp only [view1, hr] at hok ⊢
    cases hvv : (ver == r.ver) with
    | false => simp [hvv, isRo] at hok
    | true =>
      simp only [hvv, cond_true] at hok ⊢
      simp only [isRo, decide_eq_true_eq] at hok
      subst hok
      rw [asL_ro]
      obtain ⟨hwn, hfit, hs⟩ := hcur (by simpa using hvv)
      have hwl : (win off lw r.xs).length = len := by rw [win_length (by rw [show r.xs.length = r.n from rfl, ← hwn]; exact hfit)]; exact hwn.symm
      have hrs : r.sz = width r.k := rfl
      have hrn : r.n = r.xs.length := rfl
      rcases Nat.eq_zero_or_pos len with h0 | h0
      · have hwe : win off lw r.xs = [] := List.eq_nil_of_length_eq_zero (by omega)
        subst h0
        rw [hwe]
        exact ⟨A, c, [], rfl, Elems.nil, fun _ => rfl, fun a _ j u h => by simp at h⟩
      · rcases hs with ⟨_, _, hz, _⟩ | ⟨B, o, cap, A', hm, hfit', hv', hA'⟩
        · omega
        · simp only [Value.slice.injEq, true_and] at hv'
          obtain ⟨rfl, rfl⟩ := hv'
          have := hA' (.inr (by omega))
          subst this
          rcases (hh.rdB hr).elems with ⟨hz, _⟩ | ⟨B2, o2, cap2, cur, hm2, _, hg, hn, _, hcs, hel⟩
          · rw [hz] at hm; simp at hm
          · rw [hm] at hm2
            simp only [Value.slice.injEq, Option.some.injEq, Addr.mk.injEq, and_true, true_and] at hm2
            obtain ⟨⟨rfl, rfl⟩, _, rfl⟩ := hm2
            generalize hszz : width r.k = sz at *
            have hle1 : off * sz + len * sz ≤ r.n * sz := by rw [← Nat.add_mul]; exact Nat.mul_le_mul_right _ hfit
            have hle2 : r.n * sz ≤ cap * sz := Nat.mul_le_mul_right _ hn
            refine ⟨_, cap - off, (cur.toList.drop (o + off * sz)).take (len * sz), by rw [hwl], ⟨?_, fun i hi j hj => ?_⟩, (fun h => by cases h), fun a ha j v hv => ?_⟩
            · rw [hwl, hszz]; simp only [List.length_take, List.length_drop, Array.length_toList, hcs]; omega
            · rw [hwl] at hi
              rw [hszz] at hj ⊢
              rw [gt_win (by rw [← hrn, ← hwn]; exact hi)]
              have q2 := hel.2 (off + i) (by omega) j (by omega)
              rw [hszz] at q2
              have hk : i * sz + j < len * sz := by
                have : (i + 1) * sz ≤ len * sz := Nat.mul_le_mul_right _ hi
                rw [Nat.add_mul] at this; omega
              rw [List.getD_eq_getElem?_getD, List.getElem?_take, if_pos (by rw [Nat.add_mul, ← hrn]; omega), List.getElem?_drop] at q2
              rw [List.getD_eq_getElem?_getD, List.getElem?_take, if_pos hk, List.getElem?_drop, show o + off * sz + (i * sz + j) = o + ((off + i) * sz + j) by rw [Nat.add_mul]; omega]
              exact q2
            · simp only [Option.some.injEq] at ha
              subst ha
              rw [List.getElem?_take] at hv
              split at hv
              · rw [List.getElem?_drop] at hv
                rw [Addr.add_lit, hrs, cell_of_row w B _ cur _ (0, 0) hg]
                simpa using hv
              · cases hv
  | mp b B _ _ =>
    simp only [view1] at hok
    cases hb : mapD (nth .free H b) <;> rw [hb] at hok <;> simp [isRo] at hok
  | _ => simp [view1, isRo] at hok

/-- What an append does to memory. -/
structure Appended (w w' : World) (v v' : Value) : Prop where
  os : w'.os = w.os
  tape : w'.tape = w.tape
  output : w'.output = w.output
  size : w.heap.size ≤ w'.heap.size
  old : ∀ B, B < w.heap.size → blkOf v ≠ some B → w'.heap[B]? = w.heap[B]?
  new : ∀ B, blkOf v' = some B → blkOf v = some B ∨ w.heap.size ≤ B

theorem appended_refl {v : Value} : Appended w w v v := ⟨rfl, rfl, rfl, Nat.le_refl _, fun _ _ _ => rfl, fun _ h => .inl h⟩

theorem appended_fresh {v : Value} {n c : Nat} {o : Obj} : Appended w (w.drew.alloc o) v (.slice (some ⟨w.heap.size, 0, none⟩) n c) :=
  ⟨rfl, rfl, rfl, by simp, fun B h _ => heap_alloc_old w.drew o B h, fun B h => .inr (by simp only [blkOf, Option.some.injEq] at h; omega)⟩

theorem fresh_row {N cap : Nat} {M : Nat → Prop} {k : CK} {ys : List (CT k)} {xs : List Value} {z : Array Value} {e : TypeId} (h : Elems w S k ys xs) (hN : ys.length = N) (hs : ∀ B, S B → B < w.heap.size) (hb : M w.heap.size) (hc : N ≤ cap) (hm : cap ≤ maxLen) (hz : z.size = width k) {cells : Array Value} (hcells : cells = xs.toArray ++ Builtin.zeroCells z (cap - N)) :
    RowV (w.drew.alloc (.cells cells e)) M (PC (w.drew.alloc (.cells cells e)) S) (.slice (some ⟨w.heap.size, 0, none⟩) N cap) e k ys := by
  subst hN
  have hm' : Elems (w.drew.alloc (.cells cells e)) S k ys xs := h.mono (fun _ h => h) fun B hB => heap_alloc_old w.drew _ B (hs B hB)
  refine hm'.row rfl hb (heap_alloc_new w.drew _) hc hm ?_ ?_
  · rw [hcells, Array.size_append, size_zeroCells, hz, List.size_toArray, h.1, ← Nat.add_mul, Nat.zero_add]
    congr 1; omega
  · rw [hcells, Array.toList_append, ← h.1, List.drop_zero]
    exact List.take_left

/-- append in place: the slice may begin anywhere in its block. -/
theorem run_append_in {t ty e : TypeId} {i : TypeInfo} (ht : P.underlying t = some (.slice e)) (hi : P.info? e = some i)
    {g o sLen sCap : Nat} {cur : Array Value} (hg : w.heap[g]? = some (.cells cur e (0, 0)))
    {a : Addr} {m c : Nat} {news : List Value} (hl : news.length = m * i.size) (hnews : ∀ j u, news[j]? = some u → w.cell? (a.add j) = some u) (h1 : ∀ u ∈ news, u.oneCell' = true)
    (hroom : sLen + m ≤ sCap) (hfit : o + sLen * i.size + news.length ≤ cur.size) :
    (Builtin.append_ #[t, t] ty #[.slice (some ⟨g, o, none⟩) sLen sCap, .slice (some a) m c]).run P w =
      .ok (.slice (some ⟨g, o, none⟩) (sLen + m) sCap) (w.setRow g (cur.toList.take (o + sLen * i.size) ++ news ++ cur.toList.drop (o + sLen * i.size + news.length)).toArray) := by
  have hf := run_firstCells_some (P := P) w i.size m a m c news hl hnews
  have hst := run_storeCells_at P g (o + sLen * i.size) e news 0 cur w hg (by simpa using hfit) h1
  simp only [Nat.add_zero] at hst
  simp [Builtin.append_, run_underlying ht, sizeOf, typeInfo, hi, Builtin.lenOf, hroom, hf, Addr.add_lit, hst]

theorem append_core {n m c : Nat} {M : Nat → Prop} {t ty e : TypeId} {v : Value} {A : Option Addr} {k : CK} {xs ys : List (CT k)} {news : List Value} {inf : TypeInfo} {z : Value} (hxn : xs.length = n) (hym : ys.length = m) (hrow : RowV w M (PC w S) v e k xs) (hsrc : Elems w S k ys news) (hA : A = none → m = 0)
    (hcells : ∀ a, A = some a → ∀ j u, news[j]? = some u → w.cell? (a.add j) = some u) (ht : P.underlying t = some (.slice e)) (hi : P.info? e = some inf) (hz : inf.zero = some z) (hsz : inf.size = width k) (hzs : z.cells.size = width k) (hbp : 0 < inf.bytes)
    (hS : ∀ B, S B → B < w.heap.size) (hns : ∀ B, blkOf v = some B → ¬ S B) (hbase : M w.heap.size) (hb : (n + m) * inf.bytes ≤ 140737488355328) :
    ∃ v' w', (Builtin.append_ #[t, t] ty #[v, .slice A m c]).run P w = .ok v' w' ∧ RowV w' M (PC w' S) v' e k (xs ++ ys) ∧ Appended w w' v v' := by
  have hp := width_pos k
  have hsl := hsrc.1
  rw [hym] at hsl
  have hnm : n + m ≤ 140737488355328 := Nat.le_trans (Nat.le_mul_of_pos_right _ hbp) hb
  have hml : n + m ≤ maxLen := by simp only [maxLen]; omega
  rcases Nat.eq_zero_or_pos m with h0 | h0
  · subst h0
    have hys : ys = [] := List.eq_nil_of_length_eq_zero hym
    have hrow' : RowV w M (PC w S) v e k (xs ++ ys) := by rw [hys, List.append_nil]; exact hrow
    refine ⟨v, w, ?_, hrow', appended_refl⟩
    rcases hrow with ⟨rfl, hxe⟩ | ⟨B, o, cap, cur, rfl, h1, h2, h3, h4, h5, h6⟩
    · cases A <;> simp [Builtin.append_, run_underlying ht, sizeOf, typeInfo, hi, Builtin.lenOf, Builtin.firstCells, loadCells, loadCellsFrom]
    · cases A <;> simp [Builtin.append_, run_underlying ht, sizeOf, typeInfo, hi, Builtin.lenOf, Builtin.firstCells, loadCells, loadCellsFrom, h3, storeCells]
  · cases A with
    | none => exact absurd (hA rfl) (by omega)
    | some a =>
      have hnews := hcells a rfl
      rw [← hsz] at hsl hp
      rcases hrow.elems with ⟨rfl, hxe⟩ | ⟨B, o, cap, cur, rfl, h1, h2, h3, h4, h5, hel⟩
      · subst hxe
        simp only [List.length_nil] at hxn
        subst hxn
        have hr := run_append_nil (P := P) w t ty e inf z ht hi hz a m c news hsl hnews h0 (by omega) (by simp only [Nat.zero_add] at hb; omega)
        refine ⟨_, _, hr, ?_, appended_fresh⟩
        simp only [List.nil_append]
        exact fresh_row hsrc hym hS hbase (grownCap_ge w m 0 e) (grownCap_le_maxLen w m 0 e (by omega)) hzs rfl
      · subst hxn
        generalize hnn : xs.length = n at *
        have hjl : (xs ++ ys).length = n + m := by rw [List.length_append, hnn, hym]
        rw [← hsz] at h5 hel
        have hj := hel.join hsrc
        by_cases hroom : n + m ≤ cap
        · have hfit : o + n * inf.size + news.length ≤ cur.size := by
            rw [hsl, h5]
            have := Nat.mul_le_mul_right inf.size hroom
            rw [Nat.add_mul] at this; omega
          have hr := run_append_in (P := P) (w := w) (t := t) (ty := ty) (e := e) (i := inf) ht hi (g := B) (o := o) (sLen := n) (sCap := cap) h2 (a := a) (m := m) (c := c) hsl hnews hsrc.one hroom hfit
          refine ⟨_, _, hr, ?_, ⟨rfl, rfl, rfl, by simp, fun B' _ h => setRow_other w B B' _ (fun e => h (by rw [e]; rfl)), fun B' h => .inl h⟩⟩
          have hBS : ¬ S B := hns B rfl
          refine (hj.mono (fun _ h => h) fun B' h => setRow_other w B B' _ (fun e => hBS (e ▸ h))).row hjl h1 (setRow_heap w B cur _ e _ h2) hroom h4 ?_ ?_
          · simp only [List.size_toArray, List.length_append, List.length_take, List.length_drop, Array.length_toList, ← hsz]
            omega
          · have hj1 := hj.1
            rw [hjl] at hj1
            have e1 : cur.toList.take (o + n * inf.size) = cur.toList.take o ++ (cur.toList.drop o).take (n * inf.size) := by
              rw [List.take_add]
            have e2 : (cur.toList.take o).length = o := by rw [List.length_take, Array.length_toList]; omega
            simp only [e1, List.append_assoc]
            rw [List.drop_left' e2, ← List.append_assoc, ← hj1]
            exact List.take_left
        · have holds : ∀ j u, ((cur.toList.drop o).take (n * inf.size))[j]? = some u → w.cell? ((⟨B, o, none⟩ : Addr).add j) = some u := fun j u h => by
            rw [List.getElem?_take] at h
            split at h
            · rw [List.getElem?_drop] at h
              rw [Addr.add_lit, cell_of_row w B _ cur _ (0, 0) h2]; simpa using h
            · cases h
          have hr := run_append_grow (P := P) w t ty e inf z ht hi hz ⟨B, o, none⟩ n cap _ (by have := hel.1; rw [hnn, ← hsz] at this; exact this) holds a m c news hsl hnews (by omega) (by omega) (growslice_fits (by omega) hb)
          refine ⟨_, _, hr, ?_, appended_fresh⟩
          exact fresh_row hj hjl hS hbase (grownCap_ge w _ cap e) (grownCap_le_maxLen w _ cap e hml) hzs (by simp)

/-- The tail of a row. -/
theorem RowV.tail {M : Nat → Prop} {m v : Value} {e : TypeId} {off len : Nat} {k : CK} {xs : List (CT k)} (h : RowV w M (PC w S) m e k xs) (hs : Sub m xs.length (width k) off len v) (hl : off + len = xs.length) :
    (RowV w M (PC w S) v e k (xs.drop off) ∧ ∀ B, blkOf v = some B → blkOf m = some B) ∨ (len = 0 ∧ off ≠ 0 ∧ ∃ A, v = .slice (some A) 0 0) := by
  have hdl : (xs.drop off).length = len := by rw [List.length_drop]; omega
  rcases hs with ⟨_, rfl, rfl, rfl⟩ | ⟨B, o, cap, A, hm, hfit, rfl, hA⟩
  · exact .inl ⟨.inl ⟨rfl, List.eq_nil_of_length_eq_zero hdl⟩, fun B h => by simp [blkOf] at h⟩
  · rcases h with ⟨hz, _⟩ | ⟨B', o', cap', cur, hm', h1, h2, h3, h4, h5, h6⟩
    · rw [hz] at hm; simp at hm
    · rw [hm] at hm'
      simp only [Value.slice.injEq, Option.some.injEq, Addr.mk.injEq, and_true, true_and] at hm'
      obtain ⟨⟨rfl, rfl⟩, rfl⟩ := hm'
      generalize hszz : width k = sz at *
      by_cases hc : off < cap ∨ off = 0
      · have hAA := hA hc.symm
        subst hAA
        refine .inl ⟨.inr ⟨B, o + off * sz, cap - off, cur, by rw [hdl], h1, h2, by omega, by omega, ?_, fun i hi j hj => ?_⟩, fun B' h => by rw [hm]; simpa [blkOf] using h⟩
        · rw [h5, hszz, Nat.sub_mul]
          have : off * sz ≤ cap * sz := Nat.mul_le_mul_right _ (by omega)
          omega
        · rw [gt_drop]
          rw [hdl] at hi
          rw [hszz] at hj ⊢
          have := h6 (off + i) (by omega) j hj
          rw [show o + off * sz + (i * sz + j) = o + ((off + i) * sz + j) by rw [Nat.add_mul]; omega]
          exact this
      · have h0 : len = 0 := by omega
        subst h0
        exact .inr ⟨rfl, by omega, A, by rw [show cap - off = 0 by omega]⟩

theorem rowV_sl {b ver : Nat} {v : Value} {e : TypeId} {k : CK} {xs : List (CT k)} {w' : World} {base : Nat → Prop} {R : AV → Value → Prop} (hb : rdOf (nth .free H b) = some ⟨ver, e, k, xs⟩) (hm : μ b = v) (hr : RowV w' base R v e k xs) :
    VR H μ w' S (.sl b ver 0 none) v := by
  rcases hr with ⟨rfl, rfl⟩ | ⟨B, o, cap, cur, rfl, _, _, hn, _⟩
  · exact .sl _ _ _ _ 0 ⟨ver, e, k, []⟩ none 0 hb (Nat.le_refl _) (Nat.le_refl _) (fun h => absurd h (by omega)) fun _ => ⟨rfl, by simp, .inl ⟨hm, rfl, rfl, rfl⟩⟩
  · exact .sl _ _ _ _ xs.length ⟨ver, e, k, xs⟩ _ cap hb (Nat.le_refl _) hn (fun _ => ⟨B, o, rfl⟩) fun _ => ⟨rfl, by simp [Rd.n], .inr ⟨B, o, cap, ⟨B, o, none⟩, by simpa [Rd.n] using hm, by omega, by simp, fun _ => by simp⟩⟩

theorem HR.more {base : Nat → Prop} {w' : World} {S' : Nat → Prop} (hh : HR H μ w S base) (hg : Grow w w') (h1 : ∀ B, S B → S' B) (h2 : ∀ B, S' B → S B ∨ w.heap.size ≤ B) (h3 : ∀ B, S' B → B < w'.heap.size) : HR H μ w' S' base := by
  have hS : ∀ B, S B → w'.heap[B]? = w.heap[B]? := fun B h => hg.old B (hh.stab B h)
  refine ⟨fun b => ?_, hh.inj, h3⟩
  have hb := hh.blk b
  have hold : nth .free H b ≠ .free → ∀ B, blkOf (μ b) = some B → B < w.heap.size := fun h B hB => hh.old h hB
  cases hx : nth .free H b with
  | free => trivial
  | cells cs =>
    rw [hx] at hb
    obtain ⟨B, arr, t, e1, e2, e3, e4, e5, e6⟩ := hb
    have hlt := hold (by rw [hx]; simp) B (by rw [e1]; rfl)
    exact ⟨B, arr, t, e1, by rw [hg.old B hlt]; exact e2, e3, fun h => (h2 B h).elim e4 (fun h => by omega), e5, fun i hi => (e6 i hi).mono (Ext.refl _ _) h1 hS⟩
  | map ka va kk vk m =>
    rw [hx] at hb
    obtain ⟨B, e1, e3, e4, e5⟩ := hb
    have hlt := hold (by rw [hx]; simp) B (by rw [e1]; rfl)
    exact ⟨B, e1, e3, fun h => (h2 B h).elim e4 (fun h => by omega), e5.mono h1 hS (hg.old B hlt)⟩
  | fmap ka va kk vk m =>
    rw [hx] at hb
    obtain ⟨B, e1, e3, e5⟩ := hb
    have hlt := hold (by rw [hx]; simp) B (by rw [e1]; rfl)
    exact ⟨B, e1, h1 B e3, e5.mono h1 hS (hg.old B hlt)⟩
  | iter ka va kk vk rest cur =>
    rw [hx] at hb
    obtain ⟨B, e1, e3, e4, e5⟩ := hb
    have hlt := hold (by rw [hx]; simp) B (by rw [e1]; rfl)
    exact ⟨B, e1, e3, fun h => (h2 B h).elim e4 (fun h => by omega), e5.mono h1 hS (hg.old B hlt)⟩
  | row ver e k xs =>
    rw [hx] at hb
    have hlt := hold (by rw [hx]; simp)
    exact ⟨fun B hB h => (h2 B h).elim (hb.1 B hB) (fun h => by have := hlt B hB; omega), hb.2.imp (fun _ h => h) (fun B hB => hg.old B (hlt B hB)) fun x y hp => hp.mono h1 hS⟩
  | fro ver e k xs =>
    rw [hx] at hb
    have hlt := hold (by rw [hx]; simp)
    exact ⟨fun B hB => h1 B (hb.1 B hB), hb.2.imp (fun _ h => h) (fun B hB => hg.old B (hlt B hB)) fun x y hp => hp.mono h1 hS⟩

/-- A row that no abstract block names: it is read only. -/
theorem RowV.toRo {w' : World} {M S' : Nat → Prop} {v : Value} {e : TypeId} {k : CK} {xs : List (CT k)} (h : RowV w' M (PC w' S) v e k xs) (hS : ∀ B, S B → S' B) (hb : ∀ B, blkOf v = some B → S' B) : PV w' S' (.ro k xs) v := by
  rcases h with ⟨rfl, rfl⟩ | ⟨B, o, cap, cur, rfl, _, h2, h3, h4, h5, h6⟩
  · exact .roNil k none 0
  · refine .ro k xs xs.length B o cap (fun i j => cur.getD (o + (i * width k + j)) undef) rfl (hb B rfl) h3 (fun i j hi hj => ?_) (fun i j hi hj => (h6 i hi j hj).2) fun i j hi hj => (h6 i hi j hj).1.mono hS fun _ _ => rfl
    rw [cell_of_row w' B _ cur _ _ h2, Array.getD_eq_getD_getElem?]
    have hlt : o + (i * width k + j) < cur.size := by
      have : (i + 1) * width k ≤ cap * width k := Nat.mul_le_mul_right _ (by omega)
      rw [Nat.add_mul] at this
      omega
    simp [hlt]
theorem append_zc {t ty : TypeId} {x : AV} {vs vx : Value} {k : CK} {e : TypeId} {z : Value} {inf : TypeInfo} (hr : RepAt w0 S0 H μ S w) (hs : VR H μ w S .zc vs) (hx : VR H μ w S x vx) (hok : isRo k (view1 H x) = true)
    (ht : P.underlying t = some (.slice e)) (hi : P.info? e = some inf) (hz : inf.zero = some z) (hsz : inf.size = width k) (hzs : z.cells.size = width k) (hbp : 0 < inf.bytes) (hb : (asL k (view1 H x)).length * inf.bytes ≤ 140737488355328) :
    ∃ u w', (Builtin.append_ #[t, t] ty #[vs, vx]).run P w = .ok u w' ∧ After w0 S0 H μ S w (Eff.v (.ro k (asL k (view1 H x))) true) u w' := by
  obtain ⟨A0, rfl⟩ := vr_zc hs
  obtain ⟨A, c, news, rfl, hel, hA, hcells⟩ := src_sound hr.hr hx hok
  generalize asL k (view1 H x) = ys at *
  have grown : ∀ (v' : Value) (w' : World), RowV w' S0.own (PC w' S) v' e k ys → Grow w w' → (∀ B, blkOf v' = some B → w.heap.size ≤ B ∧ B < w'.heap.size) → After w0 S0 H μ S w (Eff.v (.ro k ys) true) v' w' := fun v' w' hrow hg hnew => by
    have hh : HR H μ w' (fun B => S B ∨ (w.heap.size ≤ B ∧ B < w'.heap.size)) S0.own := hr.hr.more hg (fun _ h => .inl h) (fun B h => h.imp id fun h => h.1) fun B h => h.elim (fun h => Nat.lt_of_lt_of_le (hr.hr.stab B h) hg.size) fun h => h.2
    refine ⟨μ, _, ⟨hh, hg.below hr.below, fun B h => .inl (hr.sub B h), fun B h => h.elim (hr.sup B) fun h => .inr (hr.fresh B (Nat.le_trans hr.below.size h.1)), hr.fresh, hr.pins⟩, Ext.refl H μ, fun _ h => .inl h, fun B h => hg.old B (hr.hr.stab B h), .pv (hrow.toRo (fun _ h => .inl h) fun B h => .inr (hnew B h))⟩
  by_cases h0 : ys.length = 0
  · have hys : ys = [] := List.eq_nil_of_length_eq_zero h0
    subst hys
    refine ⟨.slice A0 0 0, w, ?_, μ, S, hr, Ext.refl H μ, fun _ h => h, fun _ _ => rfl, .pv (.roNil k A0 0)⟩
    cases A0 <;> cases A <;> simp [Builtin.append_, run_underlying ht, sizeOf, typeInfo, hi, Builtin.lenOf, Builtin.firstCells, loadCells, loadCellsFrom, storeCells]
  · cases A0 with
    | none =>
      obtain ⟨v', w', hrun, hrow, hap⟩ := append_core (P := P) (ty := ty) (t := t) (c := c) (n := 0) (M := S0.own) (v := .slice none 0 0) (xs := []) rfl rfl (.inl ⟨rfl, rfl⟩) hel hA hcells ht hi hz hsz hzs hbp hr.hr.stab (fun B h => by simp [blkOf] at h) (hr.fresh _ hr.below.size) (by rw [Nat.zero_add]; exact hb)
      rw [List.nil_append] at hrow
      refine ⟨v', w', hrun, grown v' w' hrow ⟨hap.os, hap.tape, hap.output, hap.size, fun B h => hap.old B h (by simp [blkOf])⟩ fun B h => ⟨(hap.new B h).elim (fun h => by simp [blkOf] at h) id, ?_⟩⟩
      rcases hrow with ⟨rfl, hy⟩ | ⟨B', o, cap, cur, rfl, _, h2, _⟩
      · simp [blkOf] at h
      · simp only [blkOf, Option.some.injEq] at h
        subst h
        rcases Nat.lt_or_ge B' w'.heap.size with h' | h'
        · exact h'
        · rw [Array.getElem?_eq_none h'] at h2; cases h2
    | some A' =>
      cases A with
      | none => exact absurd (hA rfl) h0
      | some a =>
        have hnm : ys.length ≤ 140737488355328 := Nat.le_trans (Nat.le_mul_of_pos_right _ hbp) hb
        have hgr := run_append_grow (P := P) w t ty e inf z ht hi hz A' 0 0 [] (by simp) (fun j u h => by simp at h) a ys.length c news (by rw [hsz]; exact hel.1) (hcells a rfl) (by omega) (by omega) (growslice_fits (by omega) (by rw [Nat.zero_add]; exact hb))
        refine ⟨_, _, hgr, grown _ _ ?_ ⟨rfl, rfl, rfl, by simp, fun B h => heap_alloc_old w.drew _ B h⟩ fun B h => ?_⟩
        · have := fresh_row (w := w) (M := S0.own) (e := e) (cells := (#[] ++ news.toArray ++ Builtin.zeroCells z.cells (grownCap w (0 + ys.length) 0 e - (0 + ys.length)))) hel (by rw [Nat.zero_add]) hr.hr.stab (hr.fresh _ hr.below.size) (grownCap_ge w (0 + ys.length) 0 e) (grownCap_le_maxLen w (0 + ys.length) 0 e (by simp only [maxLen]; omega)) hzs (by simp)
          simpa using this
        · simp only [blkOf, Option.some.injEq] at h
          subst h
          simp
theorem append_after {base : Nat} {t ty : TypeId} {s x : AV} {vs vx : Value} (hr : RepAt w0 S0 H μ S w) (hf : FreeAt H base 1) (hs : VR H μ w S s vs) (hx : VR H μ w S x vx) (hc : (appendE P t H base s x).chk = true) :
    ∃ u w', (Builtin.append_ #[t, t] ty #[vs, vx]).run P w = .ok u w' ∧ After w0 S0 H μ S w (appendE P t H base s x) u w' := by
  obtain ⟨h0, hlt⟩ := hf.zero (by omega)
  cases he : elemT P t with
  | none => simp [appendE, he, Eff.bad] at hc
  | some e =>
    cases s <;> (try (simp [appendE, he, Eff.bad] at hc; done))
    · simp only [appendE, he] at hc ⊢
      simp only [Bool.and_eq_true, beq_iff_eq, Nat.blt_eq, decide_eq_true_eq] at hc
      obtain ⟨c1, c2, ⟨c3, c4⟩, cw, c5, c6⟩ := hc
      rw [vr_nils hs]
      obtain ⟨z, inf, hi, hz, hz', hcr⟩ := zeroA_run (P := P) (H := []) (μ := μ) (w := w) (S := S) c3
      have hb : inf.bytes = P.bytesOf e := by simp [Program.bytesOf, hi]
      have hsi : inf.size = width (kE P e) := by rw [cw]; exact (cellsOf_info hi).symm
      have hzs : z.cells.size = width (kE P e) := by rw [← hcr.1, c4, cw]
      obtain ⟨A, c, news, rfl, hel, hA, hcells⟩ := src_sound hr.hr hx c5
      obtain ⟨v', w', hrun, hrow, hap⟩ := append_core (P := P) (ty := ty) (t := t) (c := c) (n := 0) (M := S0.own) (v := .slice none 0 0) (xs := []) rfl rfl (.inl ⟨rfl, rfl⟩) hel hA hcells (elemT_spec he) hi hz' hsi hzs (by omega) hr.hr.stab (fun B h => by simp [blkOf] at h) (hr.fresh _ hr.below.size) (by rw [hb, Nat.zero_add]; exact c6)
      rw [List.nil_append] at hrow
      have hg : Grow w w' := ⟨hap.os, hap.tape, hap.output, hap.size, fun B h => hap.old B h (by simp [blkOf])⟩
      have hh := hr.hr.newRow h0 hlt hg (fun B h => (hap.new B h).elim (fun h => by simp [blkOf] at h) id) hrow
      exact ⟨v', w', hrun, setI μ base v', S, ⟨hh, hg.below hr.below, hr.sub, hr.sup, hr.fresh, hr.pins.ext (Ext.setFree h0)⟩, Ext.setFree h0, fun _ h => h, fun B h => hg.old B (hr.hr.stab B h), vr_newRow hlt hrow 0⟩
    · simp only [appendE, he, Eff.v] at hc
      simp only [Bool.and_eq_true, beq_iff_eq, Nat.blt_eq, decide_eq_true_eq] at hc
      obtain ⟨c1, c2, ⟨c3, c4⟩, cw, c5, c6⟩ := hc
      obtain ⟨z, inf, hi, hz, hz', hcr⟩ := zeroA_run (P := P) (H := []) (μ := μ) (w := w) (S := S) c3
      have hb : inf.bytes = P.bytesOf e := by simp [Program.bytesOf, hi]
      have hsi : inf.size = width (kE P e) := by rw [cw]; exact (cellsOf_info hi).symm
      have hzs : z.cells.size = width (kE P e) := by rw [← hcr.1, c4, cw]
      obtain ⟨u, w', q1, μ', S', q2, q3, q4, q5, q6⟩ := append_zc (P := P) (ty := ty) hr hs hx c5 (elemT_spec he) hi hz' hsi hzs (by omega) (by rw [hb]; exact c6)
      simp only [appendE, he]
      exact ⟨u, w', q1, μ', S', q2, q3, q4, q5, q6⟩
    · rename_i b ver off lw
      simp only [appendE, he] at hc ⊢
      cases hbk : nth .free H b <;> (try (simp [hbk, Eff.bad] at hc; done))
      rename_i ver' e' k xs
      simp only [hbk] at hc ⊢
      simp only [Bool.and_eq_true, beq_iff_eq, Nat.blt_eq, decide_eq_true_eq] at hc
      simp only [Bool.or_eq_true, beq_iff_eq, decide_eq_true_eq] at hc
      obtain ⟨rfl, ⟨rfl, cw⟩, c1, c2, ⟨c3, c4⟩, c6, c5, hend, c7⟩ := hc
      obtain ⟨z, inf, hi, hz, hz', hcr⟩ := zeroA_run (P := P) (H := []) (μ := μ) (w := w) (S := S) c3
      have hb : inf.bytes = P.bytesOf e' := by simp [Program.bytesOf, hi]
      have hsi : inf.size = width k := by rw [cw]; exact (cellsOf_info hi).symm
      have hzs : z.cells.size = width k := by rw [← hcr.1, c4, cw]
      obtain ⟨A, c, news, rfl, hel, hA, hcells⟩ := src_sound hr.hr hx c6
      generalize hys : asL k (view1 H x) = ys at *
      have hblk := hr.hr.blk b
      rw [hbk] at hblk
      obtain ⟨hns, hrow0⟩ := hblk
      obtain ⟨len, hlen, hfit, hsub⟩ : ∃ len, len = winN xs.length off lw ∧ off + len ≤ xs.length ∧ Sub (μ b) xs.length (width k) off len vs := by
        cases hs with
        | pv h => cases h
        | sl _ _ _ _ ln r A c hr' hle hlc hA hcur =>
          rw [hbk] at hr'
          simp only [rdOf, Option.some.injEq] at hr'
          subst hr'
          exact ⟨ln, hcur rfl⟩
      rw [← hlen] at c7
      have hn : off + len = xs.length := by
        cases lw with
        | none => simp only [winN] at hlen; simp only [endsAt, Nat.ble_eq] at hend; omega
        | some l => simp only [winN] at hlen; simp only [endsAt, beq_iff_eq] at hend; omega
      have hdl : (xs.drop off).length = len := by rw [List.length_drop]; omega
      have main : ∃ v' w', (Builtin.append_ #[t, t] ty #[vs, .slice A ys.length c]).run P w = .ok v' w' ∧ RowV w' S0.own (PC w' S) v' e' k (xs.drop off ++ ys) ∧ Appended w w' (μ b) v' := by
        rcases hrow0.tail hsub hn with ⟨ht, hbv⟩ | ⟨h0l, hoff, A', hv'⟩
        · obtain ⟨v', w', q1, q2, q3⟩ := append_core (P := P) (ty := ty) (t := t) (c := c) hdl rfl ht hel hA hcells (elemT_spec he) hi hz' hsi hzs (by omega) hr.hr.stab (fun B hB => hns B (hbv B hB)) (hr.fresh _ hr.below.size) (by rw [hb]; exact c7)
          exact ⟨v', w', q1, q2, q3.os, q3.tape, q3.output, q3.size, fun B h1 h2 => q3.old B h1 fun h => h2 (hbv B h), fun B h => (q3.new B h).imp (hbv B) id⟩
        · subst h0l
          subst hv'
          have hm0 : 0 < ys.length := by omega
          cases A with
          | none => exact absurd (hA rfl) (by omega)
          | some a =>
            have hde : xs.drop off = [] := List.eq_nil_of_length_eq_zero hdl
            have hnm : ys.length ≤ 140737488355328 := Nat.le_trans (Nat.le_mul_of_pos_right _ c2) (by simpa using c7)
            have hgr := run_append_grow (P := P) w t ty e' inf z (elemT_spec he) hi hz' A' 0 0 [] (by simp) (fun j u h => by simp at h) a ys.length c news (by rw [hsi]; exact hel.1) (hcells a rfl) (by omega) (by omega) (growslice_fits (by omega) (by rw [hb]; exact c7))
            refine ⟨_, _, hgr, ?_, appended_fresh⟩
            rw [hde, List.nil_append]
            have := fresh_row (w := w) (M := S0.own) (e := e') (cells := (#[] ++ news.toArray ++ Builtin.zeroCells z.cells (grownCap w (0 + ys.length) 0 e' - (0 + ys.length)))) hel (by rw [Nat.zero_add]) hr.hr.stab (hr.fresh _ hr.below.size) (grownCap_ge w (0 + ys.length) 0 e') (grownCap_le_maxLen w (0 + ys.length) 0 e' (by simp only [maxLen]; omega)) hzs (by simp)
            simpa using this
      obtain ⟨v', w', hrun, hrow, hap⟩ := main
      have hx' : Ext H μ (put H b (.row (ver + 1) e' k (xs.drop off ++ ys))) (setI μ b v') := Ext.row hbk (by omega) (fun h => absurd h (by omega))
      have hSB : ∀ B, S B → w'.heap[B]? = w.heap[B]? := fun B h => hap.old B (hr.hr.stab B h) (fun e => hns B e h)
      have hnS' : ∀ B, blkOf v' = some B → ¬ S B := fun B h hS => by
        rcases hap.new B h with h | h
        · exact hns B h hS
        · have := hr.hr.stab B hS; omega
      have hlt' : b < H.length := lt_of_live (by rw [hbk]; simp)
      have hh := hr.hr.change (by rw [hbk]; trivial) hx' hap.size hap.old hns hap.new (x := .row (ver + 1) e' k (xs.drop off ++ ys)) ⟨by simpa [setI] using hnS', by simpa [setI] using hrow⟩
      refine ⟨v', w', hrun, setI μ b v', S, ⟨hh, ?_, hr.sub, hr.sup, hr.fresh, hr.pins.ext hx'⟩, hx', fun _ h => h, hSB, ?_⟩
      · refine hr.below.trans ⟨hap.os, hap.tape, hap.output, hap.size, fun q hq hM => hap.old q hq fun hB => hM (hr.hr.rowBase hbk hB)⟩
      · exact rowV_sl (by rw [show sets H [(b, Blk.row (ver + 1) e' k (xs.drop off ++ ys))] = put H b _ from rfl, nth_put_eq hlt']; rfl) (by simp [setI]) hrow

end
end Go.Abs
