/- Contracts of functions that are handed a pointer with the memory behind it, leave that as it is, and hand back values that are read only. -/
import Derived.Test.YtkecflbflcppkaaGreatDoorA24
import Derived.Test.YtkecflbflcppkaaGreatDoorA26
set_option linter.all false
set_option linter.unusedVariables false
set_option linter.unusedSimpArgs false
namespace Go.Abs
variable [Globs]
open Go.RowKit (Below)
/-- What is handed back, as it may be read: its rows are read only from now on. -/
def frzV (r : Res) : AV := match r.val with
  | .tup ws => .tup (ws.map (view r.heap))
  | v => view r.heap v
def frzR (r : Res) : Res := ⟨r.ok && (valsOf r.val).all isV, frzV r, sets r.heap (frozenB r.heap ((valsOf r.val).flatMap refs))⟩
theorem CSound.insertF {P : Program} {C : FuncId → List AV → List Blk → Res} {f : FuncId} {fn : Func} {spec : List AV → List Blk → Res} (hC : CSound P C) (hm : P.follows .mixedOrders = true) (hf : P.funcs[f]? = some fn) (hn : (fn.name == "runtime.NumGoroutine") = false) (hb : fn.body.isNone = false)
    (mode : FuncId → List Bool) (live : Nat → List Nat) (fuel : List AV → List Blk → Nat) (Kc : KT) (hK : ∀ fu pin, KOk { P := P, C := C, mode := mode, fuel := fu, live := live, pin := pin, K := Kc })
    (hs : ∀ vs Hi, (spec vs Hi).ok = true → spec vs Hi = frzR (runF { P := P, C := C, mode := mode, fuel := fuel vs Hi, live := live, pin := Hi.length, K := Kc } fn vs Hi)) :
    CSound P (addC f spec C) := by
  intro g vs Hi us w S M' μ hok hl hh hM hv
  simp only [addC] at hok ⊢
  cases hg : (g == f) with
  | false =>
    simp only [hg, cond_false] at hok ⊢
    exact hC g vs Hi us w S M' μ hok hl hh hM hv
  | true =>
    simp only [hg, cond_true] at hok ⊢
    have hgf : g = f := by simpa using hg
    subst hgf
    refine ⟨⟨fn, hf, hn, hb⟩, ?_⟩
    have key := hs vs Hi hok
    rw [key] at hok ⊢
    simp only [frzR, Bool.and_eq_true] at hok
    have := runF_sound (cx := { P := P, C := C, mode := mode, fuel := fuel vs Hi, live := live, pin := Hi.length, K := Kc }) (fn := fn) (vs := vs) (Hi := Hi) hC hm rfl (hK _ _) hf hok.1 hl hh hM hv
    refine this.mono fun e w' hw => ?_
    generalize hr : runF { P := P, C := C, mode := mode, fuel := fuel vs Hi, live := live, pin := Hi.length, K := Kc } fn vs Hi = r at *
    obtain ⟨v, rfl, hk, μ', S', hh', hs1, hs2, hs3, hpin, hv'⟩ := hw
    obtain ⟨hfz, hfb⟩ := hh'.frozen ((valsOf r.val).flatMap refs)
    refine ⟨v, rfl, hk, μ', SF r.heap μ' S' ((valsOf r.val).flatMap refs), hfz, fun B h => .inl (hs1 B h), fun B h => (hfb B h).elim (hs2 B) .inr, hs3, hpin.ext (Ext.frozen _), ?_⟩
    have hview : ∀ (x : AV) (u : Value), x ∈ valsOf r.val → VR r.heap μ' w' S' x u → VR (frzR r).heap μ' w' (SF r.heap μ' S' ((valsOf r.val).flatMap refs)) (view r.heap x) u := fun x u hx hu =>
      .pv (view_sound hh' hu (List.all_eq_true.1 hok.2 x hx) fun b hb => List.mem_flatMap.2 ⟨x, hx, hb⟩)
    show VR (frzR r).heap μ' w' _ (frzV r) v
    by_cases ht : ∃ ws, r.val = .tup ws
    · obtain ⟨ws, hws⟩ := ht
      rw [hws] at hv'
      obtain ⟨us', rfl, q1, q2⟩ := vr_tup hv'
      have e1 : frzV r = .tup (ws.map (view r.heap)) := by simp only [frzV, hws]
      rw [e1]
      refine .tup _ _ (by rw [List.length_map]; exact q1) fun i hi => ?_
      rw [List.length_map] at hi
      rw [nth_map AV.junk AV.junk (view r.heap) ws i hi]
      exact hview _ _ (by rw [hws]; show nth .junk ws i ∈ ws; rw [nth_lt _ _ _ hi]; exact List.getElem_mem hi) (q2 i hi)
    · have hvo : valsOf r.val = [r.val] := by
        cases hrv : r.val <;> first | rfl | exact absurd ⟨_, hrv⟩ ht
      have e1 : frzV r = view r.heap r.val := by
        unfold frzV
        split
        · rename_i ws hws; exact absurd ⟨ws, hws⟩ ht
        · rfl
      rw [e1]
      exact hview _ _ (by rw [hvo]; simp) hv'
theorem Tab.addF {P : Program} {C C' : FuncId → List AV → List Blk → Res} {mode : FuncId → List Bool} {K K' : KT} {f : FuncId} {fn : Func} {spec : List AV → List Blk → Res} (h : Tab P C mode K) (h' : Tab P C' mode K') (hf : P.funcs[f]? = some fn) (hn : (fn.name == "runtime.NumGoroutine") = false) (hb : fn.body.isNone = false)
    (hkn : K f = Option.none) (live : Nat → List Nat) (fuel : List AV → List Blk → Nat)
    (hs : ∀ vs Hi, (spec vs Hi).ok = true → spec vs Hi = frzR (runF { P := P, C := C', mode := mode, fuel := fuel vs Hi, live := live, pin := Hi.length, K := K' } fn vs Hi)) :
    Tab P (addC f spec C) mode K :=
  h.one (CSound.insertF h'.sound h.mixed hf hn hb mode live fuel K' (fun fu pin => h'.go fu _ pin) hs) hkn
end Go.Abs

namespace Go.Abs
def isRoX (k : CK) : AV → Bool | .ro k' _ => decide (k' = k) | _ => false
theorem isRoX_eq {k : CK} {v : AV} (h : isRoX k v = true) : v = .ro k (asL k v) := by
  cases v <;> simp [isRoX] at h
  rename_i k' xs
  subst h
  rw [asL_ro]
def isPtr0 : AV → Bool | .ptr b o => Nat.beq b 0 && Nat.beq o 0 | _ => false
theorem isPtr0_eq {v : AV} (h : isPtr0 v = true) : v = .ptr 0 0 := by
  cases v <;> simp [isPtr0] at h
  obtain ⟨rfl, rfl⟩ := h
  rfl
def isNilsX : AV → Bool | .nils => true | _ => false
theorem isNilsX_eq {v : AV} (h : isNilsX v = true) : v = .nils := by
  cases v <;> simp [isNilsX] at h
  rfl
def isMp1 : AV → Bool | .mp b => Nat.beq b 1 | _ => false
theorem isMp1_eq {v : AV} (h : isMp1 v = true) : v = .mp 1 := by
  cases v <;> simp [isMp1] at h
  subst h
  rfl
theorem isI_eq {v : AV} (h : isInt .i64 v = true) : v = .int .i64 (asInt v) := by
  cases v <;> simp [isInt] at h
  obtain ⟨rfl, _⟩ := h
  rfl
def isMapX (kk vk : CK) : Blk → Bool | .map ka va kk' vk' _ => ka && (!va && (decide (kk' = kk) && decide (vk' = vk))) | _ => false
def asMapX (kk vk : CK) : Blk → List (CT kk × CT vk) | .map _ _ kk' vk' m => asM kk vk (.rmap true false kk' vk' m) | _ => []
theorem isMapX_eq {kk vk : CK} {b : Blk} (h : isMapX kk vk b = true) : b = .map true false kk vk (asMapX kk vk b) := by
  cases b <;> simp [isMapX] at h
  rename_i ka va kk' vk' m
  obtain ⟨rfl, rfl, rfl, rfl⟩ := h
  simp [asMapX, asM]
end Go.Abs
