/- A map whose keys are three integers, as a list of keys in the order in which they came: the value of the k-th key is k. -/
import Derived.DeepKeys3
import Derived.ChangeKeysEq
import Derived.WideKeyRuns
import Derived.MapKept
import Derived.ChangeMaps5
import Derived.Test.YtjhgkojbpgakcaaGreatDoorRowN
namespace Go.Proofs.YtjhgkojbpgakcaaGreatDoor
open Go.RowKit Go.WideShapes Go.ChangeMaps
abbrev Tri := Int × Int × Int
def triV (k : Tri) : Value := .agg #[.int .i64 k.1, .int .i64 k.2.1, .int .i64 k.2.2]
def entM : Nat → List Tri → List MapEntry
  | _, [] => []
  | n, k :: ks => { key := triV k, val := .int .i64 (n : Int), born := n } :: entM (n + 1) ks
def esM (ks : List Tri) : Array MapEntry := (entM 0 ks).toArray
def posM : List Tri → Tri → Option Nat
  | [], _ => none
  | x :: l, k => if k = x then some 0 else (posM l k).map (· + 1)
def lkV (ks : List Tri) (k : Tri) : Nat := (posM ks k).getD 0
def lkB (ks : List Tri) (k : Tri) : Bool := (posM ks k).isSome
theorem posM_some : ∀ {ks : List Tri} {k : Tri} {j : Nat}, posM ks k = some j → ks[j]? = some k ∧ ∀ i, i < j → ks[i]? ≠ some k
  | [], k, j, h => by cases h
  | x :: l, k, j, h => by
    unfold posM at h
    split at h
    · rename_i e
      injection h with h
      subst h; subst e
      exact ⟨rfl, fun i hi => absurd hi (Nat.not_lt_zero _)⟩
    · rename_i e
      cases hp : posM l k with
      | none => rw [hp] at h; cases h
      | some m =>
        rw [hp] at h
        injection h with h
        subst h
        obtain ⟨h1, h2⟩ := posM_some hp
        refine ⟨h1, fun i hi => ?_⟩
        cases i with
        | zero => simp; exact fun q => e q.symm
        | succ i => exact h2 i (Nat.lt_of_succ_lt_succ hi)
theorem posM_none : ∀ {ks : List Tri} {k : Tri}, posM ks k = none → k ∉ ks
  | [], k, _ => by simp
  | x :: l, k, h => by
    unfold posM at h
    split at h
    · cases h
    · rename_i e
      cases hp : posM l k with
      | none => simp only [List.mem_cons, not_or]; exact ⟨e, posM_none hp⟩
      | some m => rw [hp] at h; cases h
theorem lk_t {ks : List Tri} {k : Tri} (h : lkB ks k = true) : ks[lkV ks k]? = some k := by
  unfold lkB at h
  unfold lkV
  cases hp : posM ks k with
  | none => rw [hp] at h; cases h
  | some j => exact (posM_some hp).1
theorem lk_f {ks : List Tri} {k : Tri} (h : lkB ks k = false) : k ∉ ks ∧ posM ks k = none := by
  unfold lkB at h
  cases hp : posM ks k with
  | none => exact ⟨posM_none hp, rfl⟩
  | some j => rw [hp] at h; cases h
theorem entM_append : ∀ (ks : List Tri) (n : Nat) (k : Tri), entM n (ks ++ [k]) = entM n ks ++ [{ key := triV k, val := .int .i64 ((n + ks.length : Nat) : Int), born := n + ks.length }]
  | [], n, k => by simp [entM]
  | x :: l, n, k => by
    rw [List.cons_append, entM, entM, entM_append l (n + 1) k, List.cons_append, List.length_cons]
    rw [show n + 1 + l.length = n + (l.length + 1) by omega]
def MpV (B R : Nat) (ks : List Tri) (w : World) : Prop := B ≤ R ∧ w.heap[R]? = some (.map (esM ks) ks.length)
structure MapOk (P : Program) (M K I : TypeId) : Prop where
  hm : P.underlying M = some (.map K I)
  hu : P.underlying K = some (.array 3 I)
  hi : P.underlying I = some (.int .i64)
  hI : ∃ i, P.info? I = some i
  hc : P.cellsOf I = 1
  hs : ∀ w, (sizeOf I).run P w = .ok 1 w
  ha : ∀ w, (isAgg I).run P w = .ok false w
  hz : ∀ w, (zeroValue I).run P w = .ok (.int .i64 0) w
section
variable {P : Program} {M K I : TypeId} {w : World}
theorem run_part3 (h : MapOk P M K I) (k : Tri) (w : World) : (part I #[.int .i64 k.1, .int .i64 k.2.1, .int .i64 k.2.2] 0).run P w = .ok (.int .i64 k.1) w ∧ (part I #[.int .i64 k.1, .int .i64 k.2.1, .int .i64 k.2.2] 1).run P w = .ok (.int .i64 k.2.1) w ∧ (part I #[.int .i64 k.1, .int .i64 k.2.1, .int .i64 k.2.2] 2).run P w = .ok (.int .i64 k.2.2) w := by
  refine ⟨?_, ?_, ?_⟩ <;> simp [part, h.hs, h.ha]
theorem run_equal3 (h : MapOk P M K I) (k l : Tri) (w : World) : (Op.equal K (triV k) (triV l)).run P w = .ok (decide (k = l)) w := by
  unfold Op.equal Op.maxDepth triV
  obtain ⟨i, hI⟩ := h.hI
  rw [run_equalIn_array w 9999 _ _ h.hu hI, h.hc]
  have q1 := run_part3 h k
  have q2 := run_part3 h l
  have e := fun a b w => run_equalIn_int (P := P) w 9998 I .i64 .i64 a b h.hi
  simp [Op.eqItems, List.range_succ, q1, q2, e]
  obtain ⟨a, b, c⟩ := k
  obtain ⟨a', b', c'⟩ := l
  simp only [Prod.mk.injEq]
  (repeat' split) <;> simp_all
theorem run_check3 (h : MapOk P M K I) (em : Bool) (k : Tri) (w : World) : (Instr.checkKey em 10000 K (triV k)).run P w = .ok () w := by
  unfold Instr.checkKey triV
  have q1 := run_part3 h k
  have e : ∀ (x : Int) (w : World), (Instr.checkKey em 9999 I (.int .i64 x)).run P w = .ok () w := fun x w => by
    unfold Instr.checkKey
    simp [run_underlying h.hi]
  simp [run_underlying h.hu, Std.Legacy.Range.forIn_eq_forIn_range', Std.Legacy.Range.size, List.range'_succ, h.hs, q1, e]
theorem run_find3 (h : MapOk P M K I) (k : Tri) : ∀ (ks : List Tri) (n i : Nat) (w : World), (Instr.findAsking K (triV k) (entM n ks) i).run P w = .ok ((posM ks k).map fun j => (i + j, .int .i64 ((n + j : Nat) : Int))) w
  | [], n, i, w => by simp [entM, Instr.findAsking, posM]
  | x :: l, n, i, w => by
    rw [entM, posM]
    unfold Instr.findAsking
    simp only [Sem.run_bind, run_equal3 h, Result.andThen_ok]
    by_cases e : k = x
    · simp [e]
    · simp only [e, decide_false, Bool.false_eq_true, if_false]
      rw [run_find3 h k l (n + 1) (i + 1) w]
      congr 1
      cases posM l k with
      | none => rfl
      | some j => simp only [Option.map_some]; rw [show n + 1 + j = n + (j + 1) by omega, show i + 1 + j = i + (j + 1) by omega]
theorem wide3 (h : MapOk P M K I) : (match P.underlying K with | some (.array _ _) | some (.struct _) => true | _ => false) = true := by rw [h.hu]
theorem run_get3 {B R : Nat} {ks : List Tri} (hw : MpV B R ks w) : (getObj R).run P w = .ok (.map (esM ks) ks.length) w := by simp [getObj, Sem.run, hw.2]
theorem run_set3 {B R : Nat} {ks : List Tri} (o : Obj) (hw : MpV B R ks w) : (setObj R o).run P w = .ok () (setBlock w R o) := by simp [setObj, Sem.run, hw.2, setBlock]
theorem run_lookup3 (h : MapOk P M K I) {B R : Nat} {ks : List Tri} (hw : MpV B R ks w) (k : Tri) : (Instr.lookup M (.map (some R)) (triV k) true).run P w = .ok (.tuple #[.int .i64 (lkV ks k : Int), .bool (lkB ks k)]) w := by
  unfold Instr.lookup
  simp only [Sem.run_bind, run_underlying h.hm, Result.andThen_ok, run_get3 hw, Sem.run_pure, run_check3 h]
  rw [run_findKey_eq w (wide3 h), show (esM ks).toList = entM 0 ks by simp [esM], run_find3 h]
  unfold lkV lkB
  cases posM ks k with
  | none => simp [h.hz]
  | some j => simp
theorem run_update3 (h : MapOk P M K I) {B R : Nat} {ks : List Tri} (hw : MpV B R ks w) {k : Tri} (hk : lkB ks k = false) : ∃ w', (Instr.mapUpdate M (.map (some R)) (triV k) (.int .i64 (ks.length : Int))).run P w = .ok () w' ∧ w' = setBlock w R (.map (esM (ks ++ [k])) (ks ++ [k]).length) := by
  refine ⟨_, ?_, rfl⟩
  unfold Instr.mapUpdate
  simp only [Sem.run_bind, run_underlying h.hm, Result.andThen_ok, run_get3 hw, run_check3 h]
  rw [run_findKey_eq w (wide3 h), show (esM ks).toList = entM 0 ks by simp [esM], run_find3 h, (lk_f hk).2]
  simp only [Option.map_none, Result.andThen_ok]
  rw [run_set3 _ hw]
  have e : (esM ks).push { key := triV k, val := .int .i64 (ks.length : Int), born := ks.length } = esM (ks ++ [k]) := by
    unfold esM
    rw [entM_append]
    simp
  rw [e]
  simp [setBlock]
end
section
variable {P : Program} {M K I : TypeId} {V w w0 : World} {ops : Array Oper} {Q : Exit → Act → World → Prop} {o : Oper} {rest : List Oper} {fs : List (World → Prop)} {a : Act} {B R : Nat} {ks : List Tri}
theorem MpV.below {w' : World} (h : MpV B R ks w) (hb : Below w.heap.size w w') : MpV B R ks w' := ⟨h.1, (hb.block R (Array.getElem?_eq_some_iff.1 h.2).1).trans h.2⟩
theorem MpV.lt (h : MpV B R ks w) : R < w.heap.size := (Array.getElem?_eq_some_iff.1 h.2).1
theorem MpV.spare {g : Nat} (h : MpV B R ks w) (hne : R ≠ g) : Spares g w (MpV B R ks) := fun w1 _ hf w2 hb => MpV.below ⟨h.1, (hf R hne h.lt).trans h.2⟩ hb
theorem gwM {q : Option Addr} (h : MpV B R ks w) (hne : ob q ≠ some R) : Grows (.slice q 0 0) w (MpV B R ks) := .of (fun _ hb => h.below hb) fun g hg => h.spare fun e => hne (by subst e; exact hg)
theorem spM {g o : Nat} {cs : List Value} (hne : R ≠ g) (h : MpV B R ks w) : ∀ w', Below (putAt g o cs w).heap.size (putAt g o cs w) w' → MpV B R ks w' := Spares.put (h.spare hne) o cs
theorem New.map {R' : Nat} (h : New V fs R') (hm : MpV B R ks ∈ fs) : R < R' := by
  obtain ⟨w, hw, rfl⟩ := h
  exact (hw.get hm).lt
theorem txMk (hg : Wants ops o a) (h1 : ∀ w, KS V fs w → (execOp a.eval o).run P w = .ok (.value (.map (some w.heap.size))) (w.alloc (.map #[] 0))) (h : ∀ R, New V fs R → Tx P V ops Q rest (MpV V.heap.size R [] :: fs) (a.put o.dst (.map (some R)))) : Tx P V ops Q (o :: rest) fs a :=
  ⟨fun w hw => by
    show if Region.wanted o (yielded ops a.tmps) = true then _ else _
    rw [if_pos hg]
    refine .inl ?_
    unfold Oper.wp
    rw [h1 w hw]
    exact (h w.heap.size ⟨w, hw, rfl⟩).out _ ((hw.step ((Below.refl _ _).alloc (Nat.le_refl _) _)).add fun w' hb => MpV.below ⟨hw.old.size, heap_new w _⟩ hb)⟩
theorem txUp (R : Nat) (k : Tri) (F : World → Prop) (kept : List (World → Prop)) (hg : Wants ops o a) (hR : ∀ w, KS V fs w → V.heap.size ≤ R) (h2 : ∀ w, KS V fs w → ∀ G ∈ kept, Spares R w G)
    (h1 : ∀ F1, RowKit.Hid (F = F1) → ∀ w, KS V fs w → Does P (fun u w' => u = undef ∧ (∃ ob, w' = setBlock w R ob) ∧ (∃ es c, w.heap[R]? = some (.map es c)) ∧ ∀ w2, Below w'.heap.size w' w2 → F1 w2) ((execOp a.eval o).run P w))
    (h : Tx P V ops Q rest (F :: kept) (a.put o.dst undef)) : Tx P V ops Q (o :: rest) fs a := by
  refine txP (α := Unit) (fun _ => undef) (fun _ => F :: kept) hg (fun f1 l1 hl w hw => ?_) (fun _ => h)
  obtain ⟨rfl, rfl⟩ := hl.out
  refine (h1 F (hid rfl) w hw).mono fun u w' ⟨c1, ⟨ob, c2⟩, ⟨es, c, c3⟩, c4⟩ => ⟨(), c1, ?_, al1 c4 fun G hG => ?_⟩
  · subst c2
    exact hw.old.trans ⟨rfl, rfl, rfl, by simp [setBlock], fun j hj => heap_setBlock_other c3 _ (by have := hR w hw; omega)⟩
  · subst c2
    exact h2 w hw G hG _ (by simp [setBlock]) fun g hg _ => heap_setBlock_other c3 _ hg
theorem MpV.up (h : MpV B R ks w) (k : Tri) : ∀ w2, Below (setBlock w R (.map (esM (ks ++ [k])) (ks ++ [k]).length)).heap.size (setBlock w R (.map (esM (ks ++ [k])) (ks ++ [k]).length)) w2 → MpV B R (ks ++ [k]) w2 := fun _ hb =>
  MpV.below ⟨h.1, heap_setBlock_same h.2 _⟩ hb
end
end Go.Proofs.YtjhgkojbpgakcaaGreatDoor
