/- Regions walked once, inside a round of a range over a function (or any wide fence), in the logic of facts. Maps whose keys are integers, in the separation logic: a map is a block with its entries. -/
import Derived.Test.YtmcfomainmppdaaGreatDoorFSd
import Derived.OrdersIn
import Derived.RangeFuncCalls
import Derived.MapKept
import Derived.ChangeMaps5
namespace Go.Proofs.YtmcfomainmppdaaGreatDoor
open Go.RowKit
section
variable {P : Program} {P0 : World → Prop} {ops : Array Oper} {md : Region.Mode} {F : Fence} {n : Nat}
structure Wide (F : Fence) (n : Nat) (P : Program) : Prop where
  fn : ∀ f, F.fn f
  calls : ∀ f args w R, Calls P f args w R → (F.depth.isSome = true → 1 ≤ n) ∧ CallsIn F (n - 1) P f args w R
theorem wide_wide (n : Nat) (P : Program) : Wide Fence.wide n P := ⟨fun _ => trivial, fun _ _ _ _ h => ⟨fun e => (by cases e), callsIn_wide.2 h⟩⟩
theorem wide_round (n l : Nat) (P : Program) : Wide (Fence.wide.inRound l) n P := ⟨fun _ => trivial, fun _ _ _ _ h => ⟨fun e => (by cases e), (callsIn_wide.2 h).inRound l⟩⟩
theorem Does.uponIn (hF : Wide F n P) {R : Value → World → Prop} {a : Act} {o : Oper} {K : Act → World → Prop} {Q : Exit → Act → World → Prop} (h : ∀ v w, R v w → K (a.put o.dst v) w)
    {r : Result Next} (hd : Does P R r) : o.uponIn F n P a K Q r := by
  cases r with
  | ok x w =>
    cases x with
    | value u => exact h _ _ hd
    | skip => exact h _ _ hd
    | enter f args =>
      obtain ⟨h1, h2⟩ := hF.calls _ _ _ _ hd
      exact ⟨h1, CallsIn.mono h2 fun _ _ ⟨v, he, hr⟩ => by subst he; exact h _ _ hr⟩
    | _ => exact False.elim hd
  | halt x w => exact False.elim hd
theorem sStep.wpIn (hF : Wide F n P) {k : Nat} {o : Oper} (hdef : ∀ c, o.op ≠ .defer c) {S : World → Prop} {a : Act} {K : (World → Prop) → Act → Prop} {K' : Act → World → Prop} {Q' : Exit → Act → World → Prop} {w : World} (hSP : ∀ w, S w → P0 w) (hw : S w)
    (h : ∀ S' a' w', (∀ w, S' w → P0 w) → S' w' → K S' a' → K' a' w') (hs : sStep P P0 ops k o S a K) :
    if Region.wanted o (yielded ops a.tmps) = true then o.wpIn F n P a w K' Q' else (∀ f, o.about P w a.eval = some f → F.fn f) ∧ K' (a.put o.dst undef) w := by
  unfold sStep at hs
  split
  · rename_i hg
    rw [if_pos hg] at hs
    refine ⟨fun f _ => hF.fn f, ?_⟩
    rw [Oper.semAt_eq _ _ _ hdef]
    split at hs
    · obtain ⟨v, h1, h2⟩ := hs
      exact Does.uponIn hF (R := fun u w' => u = v ∧ w' = w) (fun u w' ⟨e1, e2⟩ => by subst e1; subst e2; exact h _ _ _ hSP hw h2) (Flt.does ⟨rfl, rfl⟩ (h1 w (hSP w hw)))
    · obtain ⟨v, h1, h2⟩ := hs
      exact Does.uponIn hF (fun u w' ⟨e1, e2⟩ => by subst e1; exact h _ _ _ hSP e2 h2) (h1 w hw)
    · obtain ⟨α, _, f, S', ⟨hP, h1⟩, h2⟩ := hs
      exact Does.uponIn hF (fun u w' ⟨x, hx, hu⟩ => by subst hx; exact h _ _ _ (hP x) hu (h2 x)) (h1 w hw)
  · rename_i hg
    rw [if_neg hg] at hs
    exact ⟨fun f _ => hF.fn f, h _ _ _ hSP hw hs⟩
def noDefer (ops : Array Oper) : Bool := ops.all fun o => match o.op with
  | .defer _ => false
  | _ => true
theorem noDefer_spec {ops : Array Oper} (h : noDefer ops = true) : ∀ (j : Nat) (o : Oper) c, ops[j]? = some o → o.op ≠ .defer c := fun j o c ho hc => by
  unfold noDefer at h
  rw [Array.all_eq_true] at h
  obtain ⟨hj, he⟩ := Array.getElem?_eq_some_iff.1 ho
  have := h j hj
  rw [he, hc] at this
  cases this
end
section
variable {P : Program} {P0 : World → Prop} {base : Nat} {ops : Array Oper} {md : Region.Mode} {F : Fence} {n : Nat}
theorem nStep.wpIn (hF : Wide F n P) {k : Nat} {o : Oper} (hdef : ∀ c, o.op ≠ .defer c) {S : Kl} {a : Act} {K : Kl → Act → Prop} {K' : Act → World → Prop} {Q' : Exit → Act → World → Prop} {w : World} (hbase : ∀ w, P0 w → base ≤ w.heap.size) (hS : Gd P0 S) (hw : S.s w)
    (h : ∀ S' a' w', Gd P0 S' → S'.s w' → K S' a' → K' a' w') (hs : nStep P P0 base ops k o S a K) :
    if Region.wanted o (yielded ops a.tmps) = true then o.wpIn F n P a w K' Q' else (∀ f, o.about P w a.eval = some f → F.fn f) ∧ K' (a.put o.dst undef) w := by
  unfold nStep at hs
  split
  · rename_i hg
    rw [if_pos hg] at hs
    refine ⟨fun f _ => hF.fn f, ?_⟩
    rw [Oper.semAt_eq _ _ _ hdef]
    split at hs
    · obtain ⟨v, h1, h2⟩ := hs
      exact Does.uponIn hF (R := fun u w' => u = v ∧ w' = w) (fun u w' ⟨e1, e2⟩ => by subst e1; subst e2; exact h _ _ _ hS hw h2) (Flt.does ⟨rfl, rfl⟩ (h1 w (hS.p w hw)))
    · obtain ⟨v, h1, h2⟩ := hs
      exact Does.uponIn hF (fun u w' ⟨e1, e2⟩ => by subst e1; exact h _ _ _ hS (hS.cl _ _ hw e2) h2) (h1 w hw)
    · obtain ⟨obj, h1, h2⟩ := hs
      rw [h1 w (hS.p w hw)]
      exact h _ _ _ (hS.new _ obj) ⟨hS.cl w _ hw ((Below.refl _ _).alloc (Nat.le_refl _) _), ⟨hbase w (hS.p w hw), heap_new w obj⟩, fun hn => Nat.lt_irrefl _ (hS.k w hw _ hn)⟩ (h2 w.heap.size)
    · obtain ⟨α, _, f, S', c1, c2, h1, h2⟩ := hs
      exact Does.uponIn hF (fun u w' ⟨x, hx, _, _, _, hu⟩ => by subst hx; exact h _ _ _ (c1 x) hu (h2 x)) (h1 w hw)
  · rename_i hg
    rw [if_neg hg] at hs
    exact ⟨fun f _ => hF.fn f, h _ _ _ hS hw hs⟩
theorem wpAnyIn_of_N (hF : Wide F n P) (hdef : ∀ (j : Nat) (o : Oper) c, ops[j]? = some o → o.op ≠ .defer c) {kd : Nat → Nat} {ks : List Nat} (hkd : ∀ i, kd i = ks.getD i 0) {Q : Act → World → Prop} {Q' : Exit → Act → World → Prop} (hQ : ∀ a w, Q a w → Q' .normal a w) {w0 : World} (hw0 : P0 w0) (hbase : ∀ w, P0 w → base ≤ w.heap.size) (hsel : ∀ (j : Nat) (o : Oper) cs b, ops[j]? = some o → o.op ≠ .select cs b) (hB : floatB md ops ks = true) :
    ∀ (fuel : Nat) (listed : Array Bool) (l : List Nat) (S : Kl) (a : Act) (w : World), (∀ i, i ∈ l ↔ i < ops.size ∧ listed.getD i true = false) → l.Pairwise (· < ·) → listed.size = ops.size → Closed md ops listed → Gd P0 S → S.s w → wpN P P0 base ops kd Q l S a → l.length ≤ fuel → wpAnyIn F n P md ops Q' fuel listed a w
  | 0, listed, l, S, a, w, hm, _, _, _, _, hw, h, hf => by
    obtain rfl : l = [] := List.eq_nil_of_length_eq_zero (by omega)
    refine ⟨?_, hQ _ _ (h w hw)⟩
    refine List.eq_nil_iff_forall_not_mem.2 fun j hj => ?_
    obtain ⟨h1, o, ho, _⟩ := mem_ready.1 hj
    exact absurd ((hm j).2 ⟨(Array.getElem?_eq_some_iff.1 ho).1, h1⟩) List.not_mem_nil
  | fuel + 1, listed, l, S, a, w, hm, hpw, hsz, hcl, hS, hw, h, hf => by
    refine ⟨fun h0 => ?_, fun i hi => ?_⟩
    · cases l with
      | nil => exact hQ _ _ (h w hw)
      | cons j l =>
        exfalso
        obtain ⟨hj1, hj2⟩ := (hm j).1 (List.mem_cons_self ..)
        have hoj : ops[j]? = some ops[j] := Array.getElem?_eq_getElem hj1
        have hr : j ∈ Region.ready md ops listed := mem_ready.2 ⟨hj2, _, hoj, fun e he hb => by
          have hlt := (floatB_spec hB hoj).1 e he hb
          cases hv : listed.getD e.on false with
          | true => rfl
          | false =>
            exfalso
            have hes : e.on < listed.size := by omega
            have h3 : listed.getD e.on true = false := by
              rw [Array.getD_eq_getD_getElem?, Array.getElem?_eq_getElem hes] at hv ⊢
              simpa using hv
            have h4 := (hm e.on).2 ⟨by omega, h3⟩
            rw [List.pairwise_cons] at hpw
            rcases List.mem_cons.1 h4 with h5 | h5
            · omega
            · have := hpw.1 _ h5; omega⟩
        rw [h0] at hr
        cases hr
    · obtain ⟨hun, oi, ho, _⟩ := mem_ready.1 hi
      have hil : i ∈ l := (hm i).2 ⟨(Array.getElem?_eq_some_iff.1 ho).1, hun⟩
      have hpl := nPull (kd := kd) hw0 hsel ho l S a hpw hil (fun j hj hlt oj hoj => by
        rcases (floatB_spec hB ho).2 j oj hlt hoj with h1 | h1
        · have h2 := h1 listed hcl hi
          have h3 := ((hm j).1 hj).2
          have hjs : j < listed.size := by rw [hsz]; exact ((hm j).1 hj).1
          rw [Array.getD_eq_getD_getElem?, Array.getElem?_eq_getElem hjs] at h2 h3
          simp only [Option.getD_some] at h2 h3
          rw [h2] at h3; cases h3
        · rw [hkd, hkd]; exact ⟨h1.2, h1.1⟩) hS h
      unfold wpOpIn
      rw [ho]
      refine nStep.wpIn hF (fun c => hdef i oi c ho) hbase hS hw (fun S' a' w' hS' hw' hk => ?_) hpl
      refine wpAnyIn_of_N hF hdef hkd hQ hw0 hbase hsel hB fuel _ (l.erase i) S' a' w' (fun k => ?_) (hpw.sublist List.erase_sublist) (by rw [Array.size_setIfInBounds]; exact hsz) (hcl.set hi) hS' hw' hk (by rw [List.length_erase_of_mem hil]; omega)
      have hnd : l.Nodup := hpw.imp (fun h => Nat.ne_of_lt h)
      rw [hnd.mem_erase_iff, hm k]
      by_cases hki : i = k
      · subst hki
        have his : i < listed.size := by rw [hsz]; exact (Array.getElem?_eq_some_iff.1 ho).1
        simp [his]
      · rw [getD_set_ne true hki]
        exact ⟨fun h => h.2, fun h => ⟨fun e => hki e.symm, h⟩⟩
theorem wpIn_region_X (hF : Wide F n P) {id : Nat} {Q : Exit → Act → World → Prop} {a : Act} {w : World} {l : List Oper} (P0 : World → Prop) (base : Nat) (S : Kl) (ks : List Nat) (hm : P.follows .mixedOrders = true)
    (hn : Region.noSelect l.toArray = true) (hlen : (l.length == ks.length) = true) (hst : floatB .any l.toArray ks = true) (hB : ∀ w, P0 w → base ≤ w.heap.size) (hS : Gd P0 S) (hnd : noDefer l.toArray = true) (hw : S.s w.drew) (h : wpX P P0 base l.toArray (fun a w => Q .normal a w) ks l S a) :
    (Code.region id l.toArray true).wpIn F n P Q a w := by
  have hlen' : l.length = ks.length := by simpa using hlen
  refine wpIn_region_any hm ?_
  refine wpAnyIn_of_N hF (noDefer_spec hnd) (P0 := P0) (base := base) (kd := fun i => ks.getD i 0) (ks := ks) (fun _ => rfl) (Q := fun a w => Q .normal a w) (fun _ _ h => h) (hS.p _ hw) hB (Region.noSelect_spec hn) hst _ _ (List.range' 0 l.length) S a _ (fun i => ?_) List.pairwise_lt_range' (by simp) (fun j o hj ht => ?_) hS hw
    (wpX_to_N (ops := l.toArray) (ks0 := ks) (fun _ => rfl) (by simp [hlen']) l 0 S a hS (by simp) (by simpa using h)) (by simp)
  · rw [List.mem_range'_1]
    constructor
    · intro hi
      have hlt : i < l.length := by omega
      simp [hlt]
    · intro hi
      have := hi.1
      simp at this
      omega
  · have hlt : j < l.toArray.size := (Array.getElem?_eq_some_iff.1 hj).1
    simp at hlt
    simp [hlt] at ht
theorem wpListIn_of_X (hF : Wide F n P) {Q' : Exit → Act → World → Prop} (hB : ∀ w, P0 w → base ≤ w.heap.size) : ∀ (ks : List Nat) (l : List Oper) (S : Kl) (a : Act) (w : World), (l.all fun o => match o.op with | .defer _ => false | _ => true) = true → Gd P0 S → S.s w →
    wpX P P0 base ops (fun a w => Q' .normal a w) ks l S a → wpListIn F n P ops Q' l a w
  | [], [], _, _, _, _, _, hw, h => h _ hw
  | _ :: _, [], _, _, _, _, _, hw, h => h _ hw
  | [], _ :: _, _, _, _, _, _, _, h => False.elim h
  | _ :: ks, o :: rest, _, _, _, hd, hS, hw, h => by
    rw [List.all_cons, Bool.and_eq_true] at hd
    exact nStep.wpIn hF (fun c e => by rw [e] at hd; exact absurd hd.1 Bool.false_ne_true) hB hS hw (fun S' a' w' hS' hw' hk => wpListIn_of_X hF hB ks rest S' a' w' hd.2 hS' hw' hk) h
end
section
variable {P : Program} {V : World} {fs : List Ft} {a : Act} {F : Fence} {n : Nat}
theorem wpIn_region_S (hF : Wide F n P) {id : Nat} {Q : Exit → Act → World → Prop} {w : World} {l : List Oper} (f0 : List Ft) (ks : List Nat) (hK : SS V fs w) (h : Sx P V l.toArray (fun a w => Q .normal a w) f0 ks l fs a) (hs : f0.Sublist fs) (hm : P.follows .mixedOrders = true := by kernel_rfl)
    (hn : Region.noSelect l.toArray = true := by kernel_rfl) (hlen : (l.length == ks.length) = true := by kernel_rfl) (hst : floatB .any l.toArray ks = true := by kernel_rfl) (hnd : noDefer l.toArray = true := by kernel_rfl) : (Code.region id l.toArray true).wpIn F n P Q a w :=
  wpIn_region_X hF (SS V f0) V.heap.size _ ks hm hn hlen hst (fun _ h => h.old.size) (gdS hs) hnd hK.drew (h.out hs)
theorem wpIn_region_T (hF : Wide F n P) {id : Nat} {Q : Exit → Act → World → Prop} {w : World} {l : List Oper} (ks : List Nat) (hK : SS V fs w) (h : Sx P V l.toArray (fun a w => Q .normal a w) [] ks l fs a) (hnd : (l.all fun o => match o.op with | .defer _ => false | _ => true) = true := by kernel_rfl) : (Code.region id l.toArray false).wpIn F n P Q a w :=
  wpIn_region_lit (wpListIn_of_X hF (P0 := SS V []) (base := V.heap.size) (fun _ h => h.old.size) ks l _ a w hnd (gdS (List.nil_sublist _)) hK (h.out (List.nil_sublist _)))
end
end Go.Proofs.YtmcfomainmppdaaGreatDoor
namespace Go.Proofs.YtmcfomainmppdaaGreatDoor
open Go.RowKit Go.ChangeMaps
def entI : Nat → List (Int × Value) → List MapEntry
  | _, [] => []
  | n, p :: l => { key := .int .i64 p.1, val := p.2, born := n } :: entI (n + 1) l
def mapI (l : List (Int × Value)) : Obj := .map (entI 0 l).toArray l.length
def posI : List (Int × Value) → Int → Option (Nat × Value)
  | [], _ => none
  | p :: l, k => if k = p.1 then some (0, p.2) else (posI l k).map fun q => (q.1 + 1, q.2)
def lkI (z : Value) (l : List (Int × Value)) (k : Int) : Value := ((posI l k).map (·.2)).getD z
def upI : List (Int × Value) → Int → Value → List (Int × Value)
  | [], k, v => [(k, v)]
  | p :: l, k, v => if k = p.1 then (k, v) :: l else p :: upI l k v
theorem entI_app : ∀ (l : List (Int × Value)) (n : Nat) (k : Int) (v : Value), entI n (l ++ [(k, v)]) = entI n l ++ [{ key := .int .i64 k, val := v, born := n + l.length }]
  | [], n, k, v => by simp [entI]
  | x :: l, n, k, v => by
    rw [List.cons_append, entI, entI, entI_app l (n + 1) k, List.cons_append, List.length_cons]
    rw [show n + 1 + l.length = n + (l.length + 1) by omega]
theorem find_now : ∀ (l : List (Int × Value)) (n i : Nat) (k : Int), Instr.findNow (.int .i64) (.int .i64 k) (entI n l) i = some ((posI l k).map fun q => (i + q.1, q.2))
  | [], _, _, _ => rfl
  | p :: l, n, i, k => by
    rw [entI, posI]
    unfold Instr.findNow Instr.sameNow
    by_cases e : k = p.1
    · simp [e]
    · rw [if_neg e]
      simp only [if_true, beq_eq_false_iff_ne.2 e]
      rw [find_now l (n + 1) (i + 1) k]
      cases posI l k with
      | none => rfl
      | some q => simp only [Option.map_some]; rw [show i + 1 + q.1 = i + (q.1 + 1) by omega]
theorem upI_none : ∀ {l : List (Int × Value)} {k : Int} {v : Value}, posI l k = none → upI l k v = l ++ [(k, v)]
  | [], _, _, _ => rfl
  | p :: l, k, v, h => by
    unfold posI at h
    split at h
    · cases h
    · rename_i e
      rw [upI, if_neg e, upI_none (Option.map_eq_none_iff.1 h), List.cons_append]
theorem upI_some : ∀ {l : List (Int × Value)} {k : Int} {v u : Value} {i : Nat} (n : Nat), posI l k = some (i, u) → (entI n l)[i]?.map (·.key) = some (.int .i64 k) ∧ entI n (upI l k v) = (entI n l).modify i (fun e => { e with key := .int .i64 k, val := v }) ∧ (upI l k v).length = l.length
  | [], _, _, _, _, _, h => by cases h
  | p :: l, k, v, u, i, n, h => by
    unfold posI at h
    split at h
    · rename_i e
      injection h with h
      injection h with h1 h2
      subst h1; subst e
      rw [upI, if_pos rfl, entI, entI]
      exact ⟨rfl, rfl, rfl⟩
    · rename_i e
      cases hp : posI l k with
      | none => rw [hp] at h; cases h
      | some q =>
        rw [hp] at h
        injection h with h
        injection h with h1 h2
        subst h1
        obtain ⟨j, y⟩ := q
        obtain ⟨c1, c2, c3⟩ := upI_some (v := v) (n + 1) hp
        rw [upI, if_neg e, entI, entI]
        exact ⟨c1, by rw [c2]; rfl, by rw [List.length_cons, c3, List.length_cons]⟩
structure MapT (P : Program) (M K E : TypeId) (z : Value) : Prop where
  hm : P.underlying M = some (.map K E)
  hk : P.underlying K = some (.int .i64)
  hz : ∀ w, (zeroValue E).run P w = .ok z w
section
variable {P : Program} {M K E : TypeId} {z : Value} {w : World} {R : Nat} {l : List (Int × Value)}
theorem run_gI (hw : Has 0 R (mapI l) w) : (getObj R).run P w = .ok (.map (entI 0 l).toArray l.length) w := by
  have := hw.2
  unfold mapI at this
  simp [getObj, Sem.run, this]
theorem run_sI (o : Obj) (hw : Has 0 R (mapI l) w) : (setObj R o).run P w = .ok () (setBlock w R o) := by
  have := hw.2
  unfold mapI at this
  simp [setObj, Sem.run, this, setBlock]
theorem run_cI (h : MapT P M K E z) (e : Bool) (k : Int) : (Instr.checkKey e 10000 K (.int .i64 k)).run P w = .ok () w := by
  unfold Instr.checkKey
  simp [run_underlying h.hk]
theorem run_fI (h : MapT P M K E z) (k : Int) : (Instr.findKey K (.int .i64 k) (entI 0 l)).run P w = .ok ((posI l k).map fun q => (0 + q.1, q.2)) w := by
  simp only [Instr.findKey, Sem.run_bind, run_underlying h.hk, Result.andThen_ok, find_now, Sem.run_pure]
theorem run_lookupI (h : MapT P M K E z) (hw : Has 0 R (mapI l) w) (k : Int) : (Instr.lookup M (.map (some R)) (.int .i64 k) false).run P w = .ok (lkI z l k) w := by
  unfold Instr.lookup
  simp only [Sem.run_bind, run_underlying h.hm, Result.andThen_ok, run_gI hw, Sem.run_pure, run_cI h]
  rw [run_fI h]
  unfold lkI
  cases posI l k with
  | none => simp [h.hz]
  | some q => simp
theorem run_updateI (h : MapT P M K E z) (hw : Has 0 R (mapI l) w) (k : Int) (v : Value) : (Instr.mapUpdate M (.map (some R)) (.int .i64 k) v).run P w = .ok () (setBlock w R (mapI (upI l k v))) := by
  unfold Instr.mapUpdate
  simp only [Sem.run_bind, run_underlying h.hm, Result.andThen_ok, run_gI hw, run_cI h]
  rw [run_fI h]
  cases hp : posI l k with
  | none =>
    simp only [Option.map_none, Result.andThen_ok]
    rw [run_sI _ hw, upI_none hp]
    have e : (entI 0 l).toArray.push { key := .int .i64 k, val := v, born := l.length } = (entI 0 (l ++ [(k, v)])).toArray := by rw [entI_app]; simp
    rw [e]
    simp [setBlock, mapI]
  | some q =>
    obtain ⟨i, u⟩ := q
    obtain ⟨c1, c2, c3⟩ := upI_some (v := v) 0 hp
    have c1' : ((entI 0 l).toArray[0 + i]?).map (·.key) = some (.int .i64 k) := by rw [Nat.zero_add]; simpa using c1
    simp only [Option.map_some, Result.andThen_ok, c1', Option.getD_some]
    have e : (Instr.keyThatStays (.int .i64 k) (.int .i64 k)).run P w = .ok (.int .i64 k) w := by unfold Instr.keyThatStays Instr.sameBits; simp
    simp only [Sem.run_bind, e, Result.andThen_ok]
    rw [run_sI _ hw]
    unfold mapI setBlock
    rw [c2, c3]
    congr 3
    rw [Nat.zero_add]
    simp
end
section
variable {P : Program} {V : World} {ops : Array Oper} {Q : Act → World → Prop} {f0 fs fs' : List Ft} {n : Nat} {ks : List Nat} {o : Oper} {rest : List Oper} {a a' : Act} {z v : Value} {R : Nat} {l : List (Int × Value)} {M K E : TypeId} {x y u : Operand} {k : Int}
theorem eMm {a2 : Nat → Act} (h : ∀ R, Sx P V ops Q f0 ks rest (bx R (mapI []) :: fs) (a2 R)) (hg : Wants ops o a := by first | exact wants0 rfl | exact wantsg rfl rfl rfl rfl) (h1 : ∀ w, (execOp a.eval o).run P w = .ok (.value (.map (some w.heap.size))) (w.alloc (mapI [])) := by intro w'; go_simp; rfl) (ha : ∀ R, a.put o.dst (.map (some R)) = a2 R := by intro R; (simp only [mkOf, Act.put, pA, pB, pC, pD, pE]) <;> exact rfl) : Sx P V ops Q f0 (3 :: ks) (o :: rest) fs a :=
  sx3 (f := fun R => .map (some R)) (mapI []) hg h1 fun R => by rw [ha]; exact h R
theorem lk_flt (hT : MapT P M K E z) (ho : o.op = .lookup M x y false) (hx : a.eval x = .map (some R)) (hy : a.eval y = .int .i64 k) {w : World} (hw : Has 0 R (mapI l) w) : Flt (lkI z l k) w ((execOp a.eval o).run P w) := by
  unfold execOp
  simp only [ho, Sem.run_bind, hx, hy, run_lookupI hT hw, Result.andThen_ok, Sem.run_pure]
  exact ⟨rfl, rfl⟩
theorem eLk (hT : MapT P M K E z) (hm : bx R (mapI l) ∈ fs) (h : Sx P V ops Q f0 ks rest fs a') (ho : o.op = .lookup M x y false := by rfl) (hx : a.eval x = .map (some R) := by rfl) (hy : a.eval y = .int .i64 k := by rfl) (hg : Wants ops o a := by first | exact wants0 rfl | exact wantsg rfl rfl rfl rfl) (ha : a.put o.dst (lkI z l k) = a' := by (simp only [mkOf, Act.put, pA, pB, pC, pD, pE]) <;> exact rfl) : Sx P V ops Q f0 (1 :: ks) (o :: rest) fs a :=
  sx1 hg (fun w hw => Flt.does ⟨rfl, Below.refl _ _⟩ (lk_flt hT ho hx hy (hw.box hm))) (by rw [ha]; exact h)
theorem eLk0 (hT : MapT P M K E z) (hm : bx R (mapI l) ∈ f0) (h : Sx P V ops Q f0 ks rest fs a') (ho : o.op = .lookup M x y false := by rfl) (hx : a.eval x = .map (some R) := by rfl) (hy : a.eval y = .int .i64 k := by rfl) (hg : Wants ops o a := by first | exact wants0 rfl | exact wantsg rfl rfl rfl rfl) (ha : a.put o.dst (lkI z l k) = a' := by (simp only [mkOf, Act.put, pA, pB, pC, pD, pE]) <;> exact rfl) : Sx P V ops Q f0 (0 :: ks) (o :: rest) fs a :=
  sx0 hg (fun w hw => lk_flt hT ho hx hy (hw.box hm)) (by rw [ha]; exact h)
theorem map_qt {w : World} {i : Nat} (h : Has 0 R (mapI l) w) : Qt (some R) w i fs := fun R' e _ _ _ _ v hv => by
  injection e with e
  subst e
  have h2 := h.2
  unfold mapI at h2
  simp [World.cell?, h2] at hv
theorem eUp (hT : MapT P M K E z) (i : Nat) (h : Sx P V ops Q f0 ks rest fs' a') (hi : fs[i]? = some (bx R (mapI l)) := by rfl) (ho : o.op = .mapUpdate M x y u ∨ o.op = .insert M x y u := by first | exact .inl rfl | exact .inr rfl) (hx : a.eval x = .map (some R) := by rfl) (hy : a.eval y = .int .i64 k := by rfl) (hu : a.eval u = v := by rfl) (hf : fs.set i (bx R (mapI (upI l k v))) = fs' := by (simp only [pB, pC]) <;> exact rfl) (hs : f0.Sublist fs' := by exact List.nil_sublist _) (hg : Wants ops o a := by first | exact wants0 rfl | exact wantsg rfl rfl rfl rfl) (ha : a.put o.dst undef = a' := by (simp only [mkOf, Act.put, pA, pB, pC, pD, pE]) <;> exact rfl) : Sx P V ops Q f0 (4 :: ks) (o :: rest) fs a :=
  sx4 (α := Unit) (f := fun _ => undef) (l' := fun _ => fs.set i (bx R (mapI (upI l k v)))) hg (fun _ => by rw [hf]; exact hs) (fun w hw => by
    have hb : Has 0 R (mapI l) w := hw.box (List.mem_of_getElem? hi)
    have hr : (execOp a.eval o).run P w = .ok .skip (setBlock w R (mapI (upI l k v))) := by
      unfold execOp
      rcases ho with ho | ho <;> simp only [ho, Sem.run_bind, hx, hy, hu, run_updateI hT hb, Result.andThen_ok, Sem.run_pure]
    rw [hr]
    have hsz : (setBlock w R (mapI (upI l k v))).heap.size = w.heap.size := by simp [setBlock]
    have hgr : w.grownBy (setBlock w R (mapI (upI l k v))) (some R) := ⟨rfl, rfl, rfl, by rw [hsz]; exact Nat.le_refl _, fun j _ hne => heap_setBlock_other (by have := hb.2; unfold mapI at this; exact this) _ (fun e => hne (by rw [e]))⟩
    exact ⟨(), rfl, hw.turn hi hgr (fun R' e => by injection e with e; subst e; rfl) (map_qt hb) ⟨Nat.zero_le _, heap_setBlock_same (by have := hb.2; unfold mapI at this; exact this) _⟩ fun g hg => .inl hg⟩) fun _ => by rw [hf, ha]; exact h
end
end Go.Proofs.YtmcfomainmppdaaGreatDoor
