/- Part of the proof, by an evaluator over plain values: L2. -/
import Derived.Test.YtjmgcpohgpjpiaaO2
set_option linter.all false
set_option linter.unusedVariables false
set_option linter.unusedSimpArgs false
open Go Go.Abs Go.Proofs
set_option linter.unusedSimpArgs false
namespace Go.Proofs.Ytjmgcpohgpjpiaa
/-! ### Tell -/
def saids (next put : List (List Int)) : Int → List Int → List Int
  | _, [] => []
  | q, a :: l => nth 0 (nth [] put q.toNat) a.toNat :: saids next put (nth 0 (nth [] next q.toNat) a.toNat) l
def letsIn (next : List (List Int)) (lets : List (List Bool)) : Int → List Int → Nat
  | _, [] => 0
  | q, a :: l => bif nth false (nth [] lets q.toNat) a.toNat then letsIn next lets (nth 0 (nth [] next q.toNat) a.toNat) l + 1 else 0
theorem saids_length (next put : List (List Int)) : ∀ (q : Int) (l : List Int), (saids next put q l).length = l.length
  | _, [] => rfl
  | q, a :: l => by simp [saids, saids_length]
theorem letsIn_le (next : List (List Int)) (lets : List (List Bool)) : ∀ (q : Int) (l : List Int), letsIn next lets q l ≤ l.length
  | _, [] => Nat.le_refl _
  | q, a :: l => by
    simp only [letsIn, List.length_cons]
    have := letsIn_le next lets (nth 0 (nth [] next q.toNat) a.toNat) l
    cases nth false (nth [] lets q.toNat) a.toNat
    · simp
    · simp; omega
/-- What a contract's rows are like. -/
structure Good (w : Nat) (outs : Int) (next put : List (List Int)) (lets : List (List Bool)) : Prop where
  lp : put.length = next.length
  ll : lets.length = next.length
  n1 : 1 ≤ next.length
  row : ∀ q, q < next.length → (nth [] next q).length = w ∧ (nth [] put q).length = w ∧ (nth [] lets q).length = w
  to : ∀ q, q < next.length → ∀ a, a < w → 0 ≤ nth 0 (nth [] next q) a ∧ nth 0 (nth [] next q) a < next.length
theorem wordsOk_spec {n outs : Int} {nx pt : List Int} : ∀ (k a : Nat), wordsOk n outs nx pt k a = true → ∀ j, a ≤ j → j < a + k → 0 ≤ nth 0 nx j ∧ nth 0 nx j < n
  | 0, a, _, j, h1, h2 => by omega
  | k + 1, a, h, j, h1, h2 => by
    simp only [wordsOk, Bool.and_eq_true, decide_eq_true_eq] at h
    obtain ⟨h3, h4, _, h5⟩ := h
    by_cases e : j = a
    · subst e; exact ⟨h3, h4⟩
    · exact wordsOk_spec k (a + 1) h5 j (by omega) (by omega)
theorem rowsOk_spec {w : Nat} {n outs : Int} {next put : List (List Int)} {lets : List (List Bool)} : ∀ (k q : Nat), rowsOk w n outs next put lets k q = true → ∀ j, q ≤ j → j < q + k →
    ((nth [] next j).length = w ∧ (nth [] put j).length = w ∧ (nth [] lets j).length = w) ∧ ∀ a, a < w → 0 ≤ nth 0 (nth [] next j) a ∧ nth 0 (nth [] next j) a < n
  | 0, q, _, j, h1, h2 => by omega
  | k + 1, q, h, j, h1, h2 => by
    simp only [rowsOk, Bool.and_eq_true, decide_eq_true_eq] at h
    obtain ⟨h3, h4, h5⟩ := h
    by_cases e : j = q
    · subst e; exact ⟨h3, fun a ha => wordsOk_spec _ 0 h4 a (by omega) (by omega)⟩
    · exact rowsOk_spec k (q + 1) h5 j (by omega) (by omega)
theorem contractOk_spec {ins outs delay : Int} {next put : List (List Int)} {lets : List (List Bool)} (h : contractOk ins outs delay next put lets = true) :
    (0 ≤ ins ∧ ins ≤ 4) ∧ (1 ≤ delay ∧ delay ≤ 64) ∧ Good (2 ^ ins.toNat) outs next put lets := by
  simp only [contractOk, Bool.and_eq_true, decide_eq_true_eq] at h
  obtain ⟨⟨h1, h2, h3, h4, h5, h6, h7, h8, h9, h10⟩, h11⟩ := h
  exact ⟨⟨h1, h2⟩, ⟨h5, h6⟩, h9, h10, h7, fun q hq => (rowsOk_spec _ 0 h11 q (by omega) (by omega)).1, fun q hq => (rowsOk_spec _ 0 h11 q (by omega) (by omega)).2⟩
theorem streamOk_spec {xs : List Int} {bits : Int} (h : streamOk xs bits = true) : xs.length ≤ 4096 ∧ ∀ i, i < xs.length → 0 ≤ nth 0 xs i ∧ nth 0 xs i < 2 ^ bits.toNat := by
  simp only [streamOk, Bool.and_eq_true, decide_eq_true_eq, List.all_eq_true, okWord] at h
  exact ⟨h.2, fun i hi => h.1 _ (nth_mem 0 xs hi)⟩

theorem oTell_L0_spec (F : Nat) (xs : List Int) (ins outs delay : Int) (next put : List (List Int)) (lets : List (List Bool)) (hi : 0 ≤ ins) (g : Good (2 ^ ins.toNat) outs next put lets) (hx : xs.length ≤ 4096) (hw : ∀ i, i < xs.length → 0 ≤ nth 0 xs i ∧ nth 0 xs i < 2 ^ ins.toNat) : ∀ (k n i : Nat), i + k = xs.length → k < n →
    ∀ (c : Nat) (told due : List Int) (q : Nat) (fl : Bool), c ≤ i → told.length = i → 1 ≤ due.length → due.length ≤ 64 → q < next.length →
    oTell_L0 F n c xs xs.length i told ins outs delay next put lets q fl due =
      ⟨true, .tup [.sl 0 0 0 none, .int .i64 ((c + bif fl then letsIn next lets q (xs.drop i) else 0 : Nat) : Int), .int .i64 0], [.row 0 3 (.int .i64) (told ++ (due ++ saids next put q (xs.drop i)).take k)]⟩
  | k, 0, i, _, h => by omega
  | 0, n + 1, i, hi, _ => by
    intro c told due q fl hc ht hd hd2 hq
    rw [oTell_L0_succ, drop_len xs (by omega)]
    simp [show ¬ ((i : Int) < xs.length) by omega, letsIn]
  | k + 1, n + 1, i, hi, hn => by
    intro c told due q fl hc ht hd hd2 hq
    obtain ⟨hw0, hw1⟩ := hw i (by omega)
    obtain ⟨r1, r2, r3⟩ := g.row q hq
    have hwn : (nth 0 xs i).toNat < 2 ^ ins.toNat := by
      have : ((2 : Int) ^ ins.toNat) = ((2 ^ ins.toNat : Nat) : Int) := by simp
      omega
    obtain ⟨t1, t2⟩ := g.to q hq _ hwn
    obtain ⟨q', hq'⟩ : ∃ q' : Nat, nth 0 (nth [] next q) (nth 0 xs i).toNat = (q' : Int) := ⟨_, (Int.toNat_of_nonneg t1).symm⟩
    have ih := oTell_L0_spec F xs ins outs delay next put lets ‹_› g hx hw k n (i + 1) (by omega) (by omega)
    rw [oTell_L0_succ, drop_nth 0 xs (show i < xs.length by omega), wrap_succ (show c < 9223372036854775807 by omega), wrap_succ (show i < 9223372036854775807 by omega)]
    have hcast : ((2 : Int) ^ ins.toNat) = ((2 ^ ins.toNat : Nat) : Int) := by simp
    simp only [saids, letsIn, Int.toNat_natCast]
    rw [hq']
    obtain ⟨d0, due', rfl⟩ : ∃ d0 due', due = d0 :: due' := by cases due with | nil => simp at hd | cons a b => exact ⟨a, b, rfl⟩
    have hlen : ((d0 :: due').drop 1 ++ [nth 0 (nth [] put q) (nth 0 xs i).toNat]).length = due'.length + 1 := by simp
    simp only [List.length_cons] at hd hd2
    have e1 : ∀ s : Int, (told ++ [d0]) ++ ((due' ++ [s]) ++ saids next put q' (xs.drop (i + 1))).take k = told ++ ((d0 :: due') ++ s :: saids next put q' (xs.drop (i + 1))).take (k + 1) := fun s => by simp
    have ih1 := fun c fl hc => ih c (told ++ [d0]) (due' ++ [nth 0 (nth [] put q) (nth 0 xs i).toNat]) q' fl hc (by simp [ht]) (by simp) (by simp; omega) (by omega)
    have a1 : (i : Int) < xs.length := by omega
    have a2 : (q : Int) < lets.length := by have := g.ll; omega
    have a3 : (q : Int) < put.length := by have := g.lp; omega
    have a4 : (q : Int) < next.length := by omega
    have a5 : nth 0 xs i < ((nth [] lets q).length : Int) := by rw [r3]; omega
    have a6 : nth 0 xs i < ((nth [] put q).length : Int) := by rw [r2]; omega
    have a7 : nth 0 xs i < ((nth [] next q).length : Int) := by rw [r1]; omega
    have a9 : (i + 1) * 8 ≤ 140737488355328 := by omega
    have a10 : (due'.length + 1) * 8 ≤ 140737488355328 := by omega
    cases fl with
    | true =>
      cases hl : nth false (nth [] lets q) (nth 0 xs i).toNat with
      | true =>
        have := ih1 (c + 1) true (by omega)
        rw [e1] at this
        simp at this
        simp [nble, a1, a2, a3, a4, a5, a6, a7, a9, a10, hw0, hl, this, ht, nth]
        omega
      | false =>
        have := ih1 c false (by omega)
        rw [e1] at this
        simp at this
        simp [nble, a1, a2, a3, a4, a5, a6, a7, a9, a10, hw0, hl, this, ht, nth]
    | false =>
      have := ih1 c false (by omega)
      rw [e1] at this
      simp at this
      simp [nble, a1, a2, a3, a4, a5, a6, a7, a9, a10, hw0, this, ht, nth]
theorem due_step {d i : Nat} {said : List Int} (hs : said.length = i) (hd : 1 ≤ d) (s : Int) :
    ∃ D', (List.replicate d 0 ++ said).drop i = (if i < d then 0 else nth 0 said (i - d)) :: D' ∧ (List.replicate d 0 ++ (said ++ [s])).drop (i + 1) = D' ++ [s] := by
  refine ⟨(List.replicate d 0 ++ said).drop (i + 1), ?_, ?_⟩
  · rw [drop_nth 0 _ (by simp; omega), nth_append, List.length_replicate]
    congr 1
    split
    · rename_i h; rw [nth_lt _ _ _ (by simpa using h)]; simp
    · rfl
  · rw [← List.append_assoc, List.drop_append_of_le_length (by simp; omega)]
theorem rTell_L0_spec (F : Nat) (xs : List Int) (ins outs : Int) (d : Nat) (next put : List (List Int)) (lets : List (List Bool)) (hi : 0 ≤ ins) (hd : 1 ≤ d ∧ d ≤ 64) (g : Good (2 ^ ins.toNat) outs next put lets) (hx : xs.length ≤ 4096) (hw : ∀ i, i < xs.length → 0 ≤ nth 0 xs i ∧ nth 0 xs i < 2 ^ ins.toNat) : ∀ (k n i : Nat), i + k = xs.length → k < n →
    ∀ (c : Nat) (told said : List Int) (q : Nat), c ≤ i → told.length = i → said.length = i → q < next.length →
    rTell_L0 F n xs c q i ins outs d next put lets told said =
      ⟨true, .tup [.sl 0 0 0 none, .int .i64 ((c + (if c = i then letsIn next lets q (xs.drop i) else 0) : Nat) : Int), .int .i64 0], [.row 0 3 (.int .i64) (told ++ ((List.replicate d 0 ++ said).drop i ++ saids next put q (xs.drop i)).take k)]⟩
  | k, 0, i, _, h => by omega
  | 0, n + 1, i, hi, _ => by
    intro c told said q hc ht hs hq
    rw [rTell_L0_succ, drop_len xs (by omega)]
    simp [show ¬ ((i : Int) < xs.length) by omega, letsIn]
  | k + 1, n + 1, i, hi, hn => by
    intro c told said q hc ht hs hq
    obtain ⟨hw0, hw1⟩ := hw i (by omega)
    obtain ⟨r1, r2, r3⟩ := g.row q hq
    have hwn : (nth 0 xs i).toNat < 2 ^ ins.toNat := by
      have : ((2 : Int) ^ ins.toNat) = ((2 ^ ins.toNat : Nat) : Int) := by simp
      omega
    obtain ⟨t1, t2⟩ := g.to q hq _ hwn
    obtain ⟨q', hq'⟩ : ∃ q' : Nat, nth 0 (nth [] next q) (nth 0 xs i).toNat = (q' : Int) := ⟨_, (Int.toNat_of_nonneg t1).symm⟩
    have ih := rTell_L0_spec F xs ins outs d next put lets ‹_› hd g hx hw k n (i + 1) (by omega) (by omega)
    rw [rTell_L0_succ, drop_nth 0 xs (show i < xs.length by omega), wrap_succ (show c < 9223372036854775807 by omega), wrap_succ (show i < 9223372036854775807 by omega), wrap_id (n := (i : Int) - d) (by omega) (by omega)]
    have hcast : ((2 : Int) ^ ins.toNat) = ((2 ^ ins.toNat : Nat) : Int) := by simp
    simp only [saids, letsIn, Int.toNat_natCast]
    rw [hq']
    obtain ⟨D', hD, hD2⟩ := due_step hs hd.1 (nth 0 (nth [] put q) (nth 0 xs i).toNat)
    rw [hD]
    have e1 : ∀ v s : Int, (told ++ [v]) ++ ((D' ++ [s]) ++ saids next put q' (xs.drop (i + 1))).take k = told ++ ((v :: D') ++ s :: saids next put q' (xs.drop (i + 1))).take (k + 1) := fun v s => by simp
    have ih1 := fun c v hc => ih c (told ++ [v]) (said ++ [nth 0 (nth [] put q) (nth 0 xs i).toNat]) q' hc (by simp [ht]) (by simp [hs]) (by omega)
    rw [hD2] at ih1
    have a1 : (i : Int) < xs.length := by omega
    have a2 : (q : Int) < lets.length := by have := g.ll; omega
    have a3 : (q : Int) < put.length := by have := g.lp; omega
    have a4 : (q : Int) < next.length := by omega
    have a5 : nth 0 xs i < ((nth [] lets q).length : Int) := by rw [r3]; omega
    have a6 : nth 0 xs i < ((nth [] put q).length : Int) := by rw [r2]; omega
    have a7 : nth 0 xs i < ((nth [] next q).length : Int) := by rw [r1]; omega
    have a9 : (i + 1) * 8 ≤ 140737488355328 := by omega
    by_cases hid : i < d
    · have b1 : (i : Int) < d := by omega
      by_cases hci : c = i
      · subst hci
        cases hl : nth false (nth [] lets q) (nth 0 xs c).toNat with
        | true =>
          have := ih1 (c + 1) 0 (by omega)
          rw [e1] at this
          simp at this
          simp [nble, a1, a2, a3, a4, a5, a6, a7, a9, b1, hw0, hl, this, ht, hs, hid]
          omega
        | false =>
          have := ih1 c 0 (by omega)
          rw [e1] at this
          simp at this
          simp [nble, a1, a2, a3, a4, a5, a6, a7, a9, b1, hw0, hl, this, ht, hs, hid]
      · have := ih1 c 0 (by omega)
        rw [e1] at this
        simp [show c ≠ i + 1 by omega] at this
        simp [nble, a1, a2, a3, a4, a5, a6, a7, a9, b1, hw0, this, ht, hs, hid, hci, show ¬ (c : Int) = i by omega]
    · have b1 : ¬ (i : Int) < d := by omega
      have b2 : (0 : Int) ≤ i - d := by omega
      have b3 : ((i : Int) - d) < said.length := by omega
      have b4 : ((i : Int) - d).toNat = i - d := by omega
      have b5 : d ≤ i := by omega
      have b6 : (i : Int) - d < i := by omega
      have b7 : i - d < i := by omega
      by_cases hci : c = i
      · subst hci
        cases hl : nth false (nth [] lets q) (nth 0 xs c).toNat with
        | true =>
          have := ih1 (c + 1) (nth 0 said (c - d)) (by omega)
          rw [e1] at this
          simp at this
          simp [nble, a1, a2, a3, a4, a5, a6, a7, a9, b1, b2, b3, b4, b5, b6, b7, hw0, hl, this, ht, hs, hid]
          omega
        | false =>
          have := ih1 c (nth 0 said (c - d)) (by omega)
          rw [e1] at this
          simp at this
          simp [nble, a1, a2, a3, a4, a5, a6, a7, a9, b1, b2, b3, b4, b5, b6, b7, hw0, hl, this, ht, hs, hid]
      · have := ih1 c (nth 0 said (i - d)) (by omega)
        rw [e1] at this
        simp [show c ≠ i + 1 by omega] at this
        simp [nble, a1, a2, a3, a4, a5, a6, a7, a9, b1, b2, b3, b4, b5, b6, b7, hw0, this, ht, hs, hid, hci, show ¬ (c : Int) = i by omega]
abbrev CTy := Int × Int × Int × List (List Int) × List (List Int) × List (List Bool)
def tellOk : Int × Int × Int × List (List Int) × List (List Int) × List (List Bool) × List Int → Bool := fun (_, _, _, next, put, lets, stream) => decide (next.length < 9223372036854775807 ∧ put.length < 9223372036854775807 ∧ lets.length < 9223372036854775807 ∧ stream.length < 9223372036854775807)
def tellM : Int × Int × Int × List (List Int) × List (List Int) × List (List Bool) × List Int → List Int × Int × Int := fun (ins, outs, delay, next, put, lets, stream) =>
  bif contractOk ins outs delay next put lets then
    bif streamOk stream ins then ((List.replicate delay.toNat 0 ++ saids next put 0 stream).take stream.length, (letsIn next lets 0 stream : Int), 0) else ([], 0, 52)
  else ([], 0, 51)
theorem Ret.tell (l : List Int) (a b : Int) : Ret [none, none, none] (.pair (.slice 3 (.int .i64)) (.pair (.int .i64) (.int .i64))) ⟨true, .tup [.sl 0 0 0 none, .int .i64 a, .int .i64 b], [.row 0 3 (.int .i64) l]⟩ (l, a, b) :=
  ⟨rfl, rfl, rfl, rfl, rfl, rfl, fun ws h => by cases h; simp⟩
theorem rTell_ret (ins outs delay : Int) (next put : List (List Int)) (lets : List (List Bool)) (stream : List Int) (h : tellOk (ins, outs, delay, next, put, lets, stream) = true) :
    Ret rTell_re rTell_R (runF (cxRTell (stream.length + 1)) Try.f4 [.agg [.int .i64 ins, .int .i64 outs, .int .i64 delay, .ro (.slice 3 (.int .i64)) next, .ro (.slice 3 (.int .i64)) put, .ro (.slice 4 .bool) lets], .ro (.int .i64) stream] []) (tellM (ins, outs, delay, next, put, lets, stream)) := by
  simp only [tellOk, decide_eq_true_eq] at h
  have e : runF (cxRTell (stream.length + 1)) Try.f4 [.agg [.int .i64 ins, .int .i64 outs, .int .i64 delay, .ro (.slice 3 (.int .i64)) next, .ro (.slice 3 (.int .i64)) put, .ro (.slice 4 .bool) lets], .ro (.int .i64) stream] [] =
      ⟨true, .tup [.sl 0 0 0 none, .int .i64 (tellM (ins, outs, delay, next, put, lets, stream)).2.1, .int .i64 (tellM (ins, outs, delay, next, put, lets, stream)).2.2], [.row 0 3 (.int .i64) (tellM (ins, outs, delay, next, put, lets, stream)).1]⟩ := by
    rw [rTell_eq]
    simp only [tellM, validOk, validM, rStreamOk, rStreamM, h, and_self, decide_true, cond_true, beq_ne, and_true]
    cases hc : contractOk ins outs delay next put lets with
    | false => simp; rfl
    | true =>
      obtain ⟨g1, g2, g3⟩ := contractOk_spec hc
      rw [show decide (0 ≤ ins ∧ ins ≤ 62) = true from by simp; omega]
      cases hs : streamOk stream ins with
      | false => simp; rfl
      | true =>
        obtain ⟨s1, s2⟩ := streamOk_spec hs
        obtain ⟨d, rfl⟩ : ∃ d : Nat, delay = d := ⟨delay.toNat, by omega⟩
        have := rTell_L0_spec (stream.length + 1) stream ins outs d next put lets g1.1 (by omega) g3 s1 s2 stream.length (stream.length + 1) 0 (by omega) (by omega) 0 [] [] 0 (by omega) rfl rfl g3.n1
        rw [show ((0 : Nat) : Int) = 0 from rfl] at this
        simp only [cond_true, decide_true, Bool.not_true, cond_false]
        rw [this]
        simp
  rw [e]
  generalize tellM (ins, outs, delay, next, put, lets, stream) = y
  obtain ⟨l, a, b⟩ := y
  exact Ret.tell l a b
theorem oTell_ret (ins outs delay : Int) (next put : List (List Int)) (lets : List (List Bool)) (stream : List Int) (h : tellOk (ins, outs, delay, next, put, lets, stream) = true) :
    Ret oTell_re oTell_R (runF (cxOTell (stream.length + 1)) Try.f5 [.agg [.int .i64 ins, .int .i64 outs, .int .i64 delay, .ro (.slice 3 (.int .i64)) next, .ro (.slice 3 (.int .i64)) put, .ro (.slice 4 .bool) lets], .ro (.int .i64) stream] []) (tellM (ins, outs, delay, next, put, lets, stream)) := by
  simp only [tellOk, decide_eq_true_eq] at h
  have e : runF (cxOTell (stream.length + 1)) Try.f5 [.agg [.int .i64 ins, .int .i64 outs, .int .i64 delay, .ro (.slice 3 (.int .i64)) next, .ro (.slice 3 (.int .i64)) put, .ro (.slice 4 .bool) lets], .ro (.int .i64) stream] [] =
      ⟨true, .tup [.sl 0 0 0 none, .int .i64 (tellM (ins, outs, delay, next, put, lets, stream)).2.1, .int .i64 (tellM (ins, outs, delay, next, put, lets, stream)).2.2], [.row 0 3 (.int .i64) (tellM (ins, outs, delay, next, put, lets, stream)).1]⟩ := by
    rw [oTell_eq]
    simp only [tellM, validOk, validM, inRangeOk, inRangeM, h, and_self, decide_true, cond_true, beq_ne, and_true]
    cases hc : contractOk ins outs delay next put lets with
    | false => simp; rfl
    | true =>
      obtain ⟨g1, g2, g3⟩ := contractOk_spec hc
      rw [show decide (0 ≤ ins ∧ ins ≤ 62) = true from by simp; omega]
      cases hs : streamOk stream ins with
      | false => simp; rfl
      | true =>
        obtain ⟨s1, s2⟩ := streamOk_spec hs
        obtain ⟨d, rfl⟩ : ∃ d : Nat, delay = d := ⟨delay.toNat, by omega⟩
        have := oTell_L0_spec (stream.length + 1) stream ins outs d next put lets g1.1 g3 s1 s2 stream.length (stream.length + 1) 0 (by omega) (by omega) 0 [] (List.replicate d 0) 0 true (by omega) rfl (by simp; omega) (by simp; omega) g3.n1
        rw [show ((0 : Nat) : Int) = 0 from rfl] at this
        have b1 : (d : Int) * 8 ≤ 140737488355328 := by omega
        have b2 : (d : Int) ≤ 4611686018427387904 := by omega
        simp only [cond_true, decide_true, Bool.not_true, cond_false, Int.toNat_natCast, Int.natCast_nonneg, Int.le_refl, b1, b2, Bool.and_self]
        rw [this]
        simp
  rw [e]
  generalize tellM (ins, outs, delay, next, put, lets, stream) = y
  obtain ⟨l, a, b⟩ := y
  exact Ret.tell l a b
end Go.Proofs.Ytjmgcpohgpjpiaa
