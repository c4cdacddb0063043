/- Maps whose keys are pairs of integers, in the separation logic; the caches of encode. -/
import Derived.DeepKeys3
import Derived.ChangeKeysEq
import Derived.WideKeyRuns
import Derived.Test.YtmcfomainmppdaaGreatDoorFSm
import Derived.Test.YtmcfomainmppdaaGreatDoorFWeP
namespace Go.Proofs.YtmcfomainmppdaaGreatDoor
open Go.RowKit Go.WideShapes Go.ChangeMaps
abbrev Duk := Int × Int
def dukV (k : Duk) : Value := .agg #[.int .i64 k.1, .int .i64 k.2]
def ent2 : Nat → List (Duk × Bool) → List MapEntry
  | _, [] => []
  | n, e :: l => { key := dukV e.1, val := .bool e.2, born := n } :: ent2 (n + 1) l
def map2 (l : List (Duk × Bool)) : Obj := .map (ent2 0 l).toArray l.length
def pos2 : List (Duk × Bool) → Duk → Option (Nat × Bool)
  | [], _ => none
  | e :: l, k => if k = e.1 then some (0, e.2) else (pos2 l k).map fun q => (q.1 + 1, q.2)
theorem pos2_some : ∀ {l : List (Duk × Bool)} {k : Duk} {q : Nat × Bool}, pos2 l k = some q → (k, q.2) ∈ l
  | [], _, _, h => by cases h
  | e :: l, k, q, h => by
    unfold pos2 at h
    split at h
    · rename_i h1
      injection h with h; subst h; subst h1
      exact List.mem_cons_self ..
    · cases hp : pos2 l k with
      | none => rw [hp] at h; cases h
      | some r =>
        rw [hp] at h
        injection h with h; subst h
        exact List.mem_cons_of_mem _ (show (k, r.2) ∈ l from pos2_some hp)
theorem ent2_app : ∀ (l : List (Duk × Bool)) (n : Nat) (k : Duk) (v : Bool), ent2 n (l ++ [(k, v)]) = ent2 n l ++ [{ key := dukV k, val := .bool v, born := n + l.length }]
  | [], n, k, v => by simp [ent2]
  | x :: l, n, k, v => by
    rw [List.cons_append, ent2, ent2, ent2_app l (n + 1) k, List.cons_append, List.length_cons]
    rw [show n + 1 + l.length = n + (l.length + 1) by omega]
structure Map2Ok (P : Program) (M K I B : TypeId) : Prop where
  hm : P.underlying M = some (.map K B)
  hu : P.underlying K = some (.array 2 I)
  hi : P.underlying I = some (.int .i64)
  hI : ∃ i, P.info? I = some i
  hc : P.cellsOf I = 1
  hs : ∀ w, (sizeOf I).run P w = .ok 1 w
  ha : ∀ w, (isAgg I).run P w = .ok false w
  hz : ∀ w, (zeroValue B).run P w = .ok (.bool false) w
section
variable {P : Program} {M K I B : TypeId} {w : World} {R : Nat} {l : List (Duk × Bool)}
theorem run_part2 (h : Map2Ok P M K I B) (k : Duk) (w : World) : (part I #[.int .i64 k.1, .int .i64 k.2] 0).run P w = .ok (.int .i64 k.1) w ∧ (part I #[.int .i64 k.1, .int .i64 k.2] 1).run P w = .ok (.int .i64 k.2) w := by
  refine ⟨?_, ?_⟩ <;> simp [part, h.hs, h.ha]
theorem run_equal2 (h : Map2Ok P M K I B) (k l : Duk) (w : World) : (Op.equal K (dukV k) (dukV l)).run P w = .ok (decide (k = l)) w := by
  unfold Op.equal Op.maxDepth dukV
  obtain ⟨i, hI⟩ := h.hI
  rw [run_equalIn_array w 9999 _ _ h.hu hI, h.hc]
  have q1 := run_part2 h k
  have q2 := run_part2 h l
  have e := fun a b w => run_equalIn_int (P := P) w 9998 I .i64 .i64 a b h.hi
  simp [Op.eqItems, List.range_succ, q1, q2, e]
  obtain ⟨a, b⟩ := k
  obtain ⟨a', b'⟩ := l
  simp only [Prod.mk.injEq]
  (repeat' split) <;> simp_all
theorem run_check2 (h : Map2Ok P M K I B) (em : Bool) (k : Duk) (w : World) : (Instr.checkKey em 10000 K (dukV k)).run P w = .ok () w := by
  unfold Instr.checkKey dukV
  have q1 := run_part2 h k
  have e : ∀ (x : Int) (w : World), (Instr.checkKey em 9999 I (.int .i64 x)).run P w = .ok () w := fun x w => by
    unfold Instr.checkKey
    simp [run_underlying h.hi]
  simp [run_underlying h.hu, Std.Legacy.Range.forIn_eq_forIn_range', Std.Legacy.Range.size, List.range'_succ, h.hs, q1, e]
theorem run_find2 (h : Map2Ok P M K I B) (k : Duk) : ∀ (l : List (Duk × Bool)) (n i : Nat) (w : World), (Instr.findAsking K (dukV k) (ent2 n l) i).run P w = .ok ((pos2 l k).map fun q => (i + q.1, .bool q.2)) w
  | [], n, i, w => by simp [ent2, Instr.findAsking, pos2]
  | x :: l, n, i, w => by
    rw [ent2, pos2]
    unfold Instr.findAsking
    simp only [Sem.run_bind, run_equal2 h, Result.andThen_ok]
    by_cases e : k = x.1
    · simp [e]
    · simp only [e, decide_false, Bool.false_eq_true, if_false]
      rw [run_find2 h k l (n + 1) (i + 1) w]
      congr 1
      cases pos2 l k with
      | none => rfl
      | some q => simp only [Option.map_some]; rw [show i + 1 + q.1 = i + (q.1 + 1) by omega]
theorem wide2 (h : Map2Ok P M K I B) : (match P.underlying K with | some (.array _ _) | some (.struct _) => true | _ => false) = true := by rw [h.hu]
theorem run_g2 (hw : Has 0 R (map2 l) w) : (getObj R).run P w = .ok (.map (ent2 0 l).toArray l.length) w := by
  have := hw.2
  unfold map2 at this
  simp [getObj, Sem.run, this]
theorem run_s2 (o : Obj) (hw : Has 0 R (map2 l) w) : (setObj R o).run P w = .ok () (setBlock w R o) := by
  have := hw.2
  unfold map2 at this
  simp [setObj, Sem.run, this, setBlock]
theorem run_lookup2 (h : Map2Ok P M K I B) (hw : Has 0 R (map2 l) w) (k : Duk) {r : Bool × Bool} (hr : r = ((pos2 l k).map fun q => (q.2, true)).getD (false, false)) : (Instr.lookup M (.map (some R)) (dukV k) true).run P w = .ok (.tuple #[.bool r.1, .bool r.2]) w := by
  subst hr
  unfold Instr.lookup
  simp only [Sem.run_bind, run_underlying h.hm, Result.andThen_ok, run_g2 hw, Sem.run_pure, run_check2 h]
  rw [run_findKey_eq w (wide2 h), run_find2 h]
  cases pos2 l k with
  | none => simp [h.hz]
  | some j => simp
theorem run_update2 (h : Map2Ok P M K I B) (hw : Has 0 R (map2 l) w) {k : Duk} {v : Bool} (hk : pos2 l k = none) : (Instr.mapUpdate M (.map (some R)) (dukV k) (.bool v)).run P w = .ok () (setBlock w R (map2 (l ++ [(k, v)]))) := by
  unfold Instr.mapUpdate
  simp only [Sem.run_bind, run_underlying h.hm, Result.andThen_ok, run_g2 hw, run_check2 h]
  rw [run_findKey_eq w (wide2 h), run_find2 h, hk]
  simp only [Option.map_none, Result.andThen_ok]
  rw [run_s2 _ hw]
  have e : (ent2 0 l).toArray.push { key := dukV k, val := .bool v, born := l.length } = (ent2 0 (l ++ [(k, v)])).toArray := by rw [ent2_app]; simp
  rw [e]
  simp [setBlock, map2]
end
section
variable {P : Program} {V : World} {ops : Array Oper} {Q : Act → World → Prop} {f0 fs fs' : List Ft} {n : Nat} {ks : List Nat} {o : Oper} {rest : List Oper} {a a' : Act} {z v : Value} {R : Nat} {l : List (Duk × Bool)} {M K E I B : TypeId} {x y u : Operand} {k : Duk}
theorem eMm2 {a2 : Nat → Act} (h : ∀ R, Sx P V ops Q f0 ks rest (bx R (map2 []) :: fs) (a2 R)) (hg : Wants ops o a := by first | exact wants0 rfl | exact wantsg rfl rfl rfl rfl) (h1 : ∀ w, (execOp a.eval o).run P w = .ok (.value (.map (some w.heap.size))) (w.alloc (map2 [])) := by intro w'; go_simp; rfl) (ha : ∀ R, a.put o.dst (.map (some R)) = a2 R := by intro R; (simp only [mkOf, Act.put, pA, pB, pC, pD, pE]) <;> exact rfl) : Sx P V ops Q f0 (3 :: ks) (o :: rest) fs a :=
  sx3 (f := fun R => .map (some R)) (map2 []) hg h1 fun R => by rw [ha]; exact h R
theorem lk2_flt (hT : Map2Ok P M K I B) (r : Bool × Bool) (hr : r = ((pos2 l k).map fun q => (q.2, true)).getD (false, false)) (ho : o.op = .lookup M x y true) (hx : a.eval x = .map (some R)) (hy : a.eval y = dukV k) {w : World} (hw : Has 0 R (map2 l) w) : Flt (.tuple #[.bool r.1, .bool r.2]) w ((execOp a.eval o).run P w) := by
  unfold execOp
  simp only [ho, Sem.run_bind, hx, hy, run_lookup2 hT hw k hr, Result.andThen_ok, Sem.run_pure]
  exact ⟨rfl, rfl⟩
theorem eLk20 (hT : Map2Ok P M K I B) (r1 r2 : Bool) (hr : (r1, r2) = ((pos2 l k).map fun q => (q.2, true)).getD (false, false)) (hm : bx R (map2 l) ∈ f0) (h : Sx P V ops Q f0 ks rest fs a') (ho : o.op = .lookup M x y true := by rfl) (hx : a.eval x = .map (some R) := by rfl) (hy : a.eval y = dukV k := by rfl) (hg : Wants ops o a := by first | exact wants0 rfl | exact wantsg rfl rfl rfl rfl) (ha : a.put o.dst (.tuple #[.bool r1, .bool r2]) = a' := by (simp only [mkOf, Act.put, pA, pB, pC, pD, pE]) <;> exact rfl) : Sx P V ops Q f0 (0 :: ks) (o :: rest) fs a :=
  sx0 hg (fun w hw => lk2_flt hT (r1, r2) hr ho hx hy (hw.box hm)) (by rw [ha]; exact h)
theorem map2_qt {w : World} {i : Nat} (h : Has 0 R (map2 l) w) : Qt (some R) w i fs := fun R' e _ _ _ _ v hv => by
  injection e with e
  subst e
  have h2 := h.2
  unfold map2 at h2
  simp [World.cell?, h2] at hv
theorem eUp2 {v : Bool} (hT : Map2Ok P M K I B) (i : Nat) (hk : pos2 l k = none) (h : Sx P V ops Q f0 ks rest fs' a') (hi : fs[i]? = some (bx R (map2 l)) := by rfl) (ho : o.op = .mapUpdate M x y u := by rfl) (hx : a.eval x = .map (some R) := by rfl) (hy : a.eval y = dukV k := by rfl) (hu : a.eval u = .bool v := by rfl) (hf : fs.set i (bx R (map2 (l ++ [(k, v)]))) = fs' := by (simp only [pB, pC]) <;> exact rfl) (hs : f0.Sublist fs' := by exact List.nil_sublist _) (hg : Wants ops o a := by first | exact wants0 rfl | exact wantsg rfl rfl rfl rfl) (ha : a.put o.dst undef = a' := by (simp only [mkOf, Act.put, pA, pB, pC, pD, pE]) <;> exact rfl) : Sx P V ops Q f0 (4 :: ks) (o :: rest) fs a :=
  sx4 (α := Unit) (f := fun _ => undef) (l' := fun _ => fs.set i (bx R (map2 (l ++ [(k, v)])))) hg (fun _ => by rw [hf]; exact hs) (fun w hw => by
    have hb : Has 0 R (map2 l) w := hw.box (List.mem_of_getElem? hi)
    have hr : (execOp a.eval o).run P w = .ok .skip (setBlock w R (map2 (l ++ [(k, v)]))) := by
      unfold execOp
      simp only [ho, Sem.run_bind, hx, hy, hu, run_update2 hT hb hk, Result.andThen_ok, Sem.run_pure]
    rw [hr]
    have hsz : (setBlock w R (map2 (l ++ [(k, v)]))).heap.size = w.heap.size := by simp [setBlock]
    have hgr : w.grownBy (setBlock w R (map2 (l ++ [(k, v)]))) (some R) := ⟨rfl, rfl, rfl, by rw [hsz]; exact Nat.le_refl _, fun j _ hne => heap_setBlock_other (by have := hb.2; unfold map2 at this; exact this) _ (fun e => hne (by rw [e]))⟩
    exact ⟨(), rfl, hw.turn hi hgr (fun R' e => by injection e with e; subst e; rfl) (map2_qt hb) ⟨Nat.zero_le _, heap_setBlock_same (by have := hb.2; unfold map2 at this; exact this) _⟩ fun g hg => .inl hg⟩) fun _ => by rw [hf, ha]; exact h
end
def mapD (M : List (Nat × Sl)) : Obj := mapI (M.map fun e => ((e.1 : Int), .slice e.2.p e.2.l e.2.c))
noncomputable def drF (t : TopD) (down : List Bool) (e : Nat × Sl) : Ft := rO intK 3 e.2.p e.2.l e.2.c (dstD t down e.1)
noncomputable def drL (t : TopD) (down : List Bool) (W : List (Nat × Sl)) (l : List Ft) : List Ft := W.map (drF t down) ++ l
def slM (M : List (Nat × Sl)) (k : Nat) : Sl := ((M.find? fun e => e.1 == k).map (·.2)).getD ⟨none, 0, 0⟩
theorem drL_oz {t : TopD} {down : List Bool} {l : List Ft} (h : OzA l) : ∀ W, OzA (drL t down W l)
  | [] => h
  | _ :: W => ⟨rfl, drL_oz h W⟩
theorem posI_D : ∀ (M : List (Nat × Sl)) (k : Nat), lkI (.slice none 0 0) (M.map fun e => ((e.1 : Int), .slice e.2.p e.2.l e.2.c)) (k : Int) = .slice (slM M k).p (slM M k).l (slM M k).c
  | [], _ => rfl
  | e :: M, k => by
    have ih := posI_D M k
    rw [List.map_cons]
    have key : ∀ (p : Int × Value) l', lkI (.slice none 0 0) (p :: l') (k : Int) = if (k : Int) = p.1 then p.2 else lkI (.slice none 0 0) l' (k : Int) := fun p l' => by
      unfold lkI
      rw [posI]
      split
      · rfl
      · cases posI l' (k : Int) <;> rfl
    rw [key]
    by_cases h : e.1 = k
    · rw [if_pos (by rw [h])]
      have : slM (e :: M) k = e.2 := by unfold slM; rw [List.find?_cons, show (e.1 == k) = true from by simp [h]]; rfl
      rw [this]
    · rw [if_neg (fun q => h (by have : (k : Int) = (e.1 : Int) := q; omega)), ih]
      have : slM (e :: M) k = slM M k := by unfold slM; rw [List.find?_cons, show (e.1 == k) = false from by simp [h]]
      rw [this]
theorem slM_some {M : List (Nat × Sl)} {k : Nat} (h : (slM M k).p ≠ none) : (k, slM M k) ∈ M := by
  cases hf : M.find? fun e => e.1 == k with
  | none => exact absurd (show (slM M k).p = none by unfold slM; rw [hf]; rfl) h
  | some e =>
    have h1 := List.mem_of_find?_eq_some hf
    have h2 : e.1 = k := by have := List.find?_some hf; simpa using this
    have h3 : slM M k = e.2 := by unfold slM; rw [hf]; rfl
    rw [h3, ← h2]; exact h1
theorem slM_none {M : List (Nat × Sl)} {k : Nat} {s : Sl} (hM : ∀ e ∈ M, e.2.p ≠ none) (h : (slM M k).p = none) : slM (M ++ [(k, s)]) k = s := by
  have hf : M.find? (fun e => e.1 == k) = none := by
    cases hf : M.find? fun e => e.1 == k with
    | none => rfl
    | some e => exact absurd (show e.2.p = none by have h3 : slM M k = e.2 := by unfold slM; rw [hf]; rfl
                                                   rw [← h3]; exact h) (hM e (List.mem_of_find?_eq_some hf))
  unfold slM
  rw [List.find?_append, hf]
  simp
theorem slM_up {M : List (Nat × Sl)} {k : Nat} {s : Sl} (hM : ∀ e ∈ M, e.2.p ≠ none) (h : (slM M k).p = none) : upI (M.map fun e => ((e.1 : Int), Value.slice e.2.p e.2.l e.2.c)) (k : Int) (.slice s.p s.l s.c) = (M ++ [(k, s)]).map fun e => ((e.1 : Int), .slice e.2.p e.2.l e.2.c) := by
  rw [List.map_append]
  have hf : ∀ e ∈ M, e.1 ≠ k := fun e he q => by
    have h2 : (M.find? fun e => e.1 == k).isSome = true := List.find?_isSome.2 ⟨e, he, by simp [q]⟩
    obtain ⟨e', he'⟩ := Option.isSome_iff_exists.1 h2
    exact hM e' (List.mem_of_find?_eq_some he') (by have h3 : slM M k = e'.2 := by unfold slM; rw [he']; rfl
                                                    rw [← h3]; exact h)
  clear h hM
  induction M with
  | nil => rfl
  | cons e M ih =>
    rw [List.map_cons, upI, if_neg (fun q => hf e (List.mem_cons_self ..) (by have : (k : Int) = (e.1 : Int) := q; omega)), ih fun e he => hf e (List.mem_cons_of_mem _ he), List.cons_append]
structure TrkI (t : TopD) (down : List Bool) (M W : List (Nat × Sl)) (U : List (Duk × Bool)) : Prop where
  m : ∀ e ∈ M, e ∈ W
  s : ∀ e ∈ M, e.2.p ≠ none
  u : ∀ e ∈ U, e.2 = unqR t down e.1.1 e.1.2
  d : ∀ e ∈ M, IsDst t down e.1 (dstD t down e.1)
theorem TrkI.nil {t : TopD} {down : List Bool} : TrkI t down [] [] [] := ⟨fun _ h => (by cases h), fun _ h => (by cases h), fun _ h => (by cases h), fun _ h => (by cases h)⟩
section
variable {t : TopD} {down : List Bool} {M W : List (Nat × Sl)} {U : List (Duk × Bool)} {k : Nat} {s : Sl} {q : Duk} {l : List Ft}
theorem TrkI.addM (h : TrkI t down M W U) (hs : s.p ≠ none) (hd : IsDst t down k (dstD t down k)) : TrkI t down (M ++ [(k, s)]) ((k, s) :: W) U :=
  ⟨fun e he => by
    rcases List.mem_append.1 he with he | he
    · exact List.mem_cons_of_mem _ (h.m e he)
    · rw [List.mem_singleton.1 he]; exact List.mem_cons_self .., fun e he => by
    rcases List.mem_append.1 he with he | he
    · exact h.s e he
    · rw [List.mem_singleton.1 he]; exact hs, h.u, fun e he => by
    rcases List.mem_append.1 he with he | he
    · exact h.d e he
    · rw [List.mem_singleton.1 he]; exact hd⟩
theorem TrkI.addU (h : TrkI t down M W U) : TrkI t down M W (U ++ [(q, unqR t down q.1 q.2)]) :=
  ⟨h.m, h.s, fun e he => by
    rcases List.mem_append.1 he with he | he
    · exact h.u e he
    · rw [List.mem_singleton.1 he], h.d⟩
theorem TrkI.row (h : TrkI t down M W U) (hs : (slM M k).p ≠ none) : drF t down (k, slM M k) ∈ drL t down W l :=
  List.mem_append_left _ (List.mem_map.2 ⟨_, h.m _ (slM_some hs), rfl⟩)
theorem TrkI.rowL (h : TrkI t down M W U) (hl : ∀ e ∈ W, drF t down e ∈ l) (hs : (slM M k).p ≠ none) : drF t down (k, slM M k) ∈ l := hl _ (h.m _ (slM_some hs))
theorem TrkI.sm {fs : List Ft} {V w : World} (hk : SS V fs w) (h : TrkI t down M W U) {g : Addr} {m c : Nat} (hs : slM M k = ⟨some g, m, c⟩) (hm : drF t down (k, ⟨some g, m, c⟩) ∈ fs) (hn : 0 < nN t) : ∃ g', g = ⟨g', 0, none⟩ ∧ m = nN t ∧ IsDst t down k (dstD t down k) := by
  have hd := h.d _ (slM_some (M := M) (k := k) (by rw [hs]; exact fun e => by cases e))
  have hl := hk.len hm
  rw [hd.1] at hl
  obtain ⟨g', e⟩ := hk.pt (i := 0) hm (by rw [hl]; exact hn)
  injection e with e
  exact ⟨g', e, hl, hd⟩
theorem TrkI.pos {r : Nat × Bool} (h : TrkI t down M W U) (hp : pos2 U q = some r) : r.2 = unqR t down q.1 q.2 := h.u _ (pos2_some hp)
end
section
variable {t : TopD} {n i m k : Nat} {p : List Nat}
theorem nod_at (h : i ≤ m) : (natI (nodW t n p m))[i]? = some ((ndW t n p i : Nat) : Int) := by
  unfold natI; rw [List.getElem?_map, nodW_at h]; rfl
end
structure CovZ where
  M : List (Nat × Sl)
  W : List (Nat × Sl)
  U : List (Duk × Bool)
structure TrkZ where
  R : Nat
  n : Sl
  c : Sl
  a : Nat
  b : Nat
instance : Inhabited CovZ := ⟨⟨[], [], []⟩⟩
instance : Inhabited TrkZ := ⟨⟨0, ⟨none, 0, 0⟩, ⟨none, 0, 0⟩, 0, 0⟩⟩
theorem TopV.parts {w : World} {t : TopD} {p q : Option Addr} {n c m d : Nat} {x : Int} (h : TopV w (.agg #[.int .i64 x, .slice p n c, .slice q m d]) t) : SlV boolK w (.slice p n c) t.over ∧ SlV lnkK w (.slice q m d) t.links := by
  obtain ⟨_, _, _, _, _, _, e, h1, h2⟩ := h
  simp only [Value.agg.injEq, Array.mk.injEq, List.cons.injEq, Value.slice.injEq, Value.int.injEq] at e
  obtain ⟨_, ⟨rfl, rfl, rfl⟩, ⟨rfl, rfl, rfl⟩, _⟩ := e
  exact ⟨h1, h2⟩
theorem SS.lit1 {V w : World} {l : List Ft} {R : Nat} {x : Int} (h : SS V (bx R (.cells #[.int .i64 x] 3) :: l) w) : SS V (rO intK 3 (some ⟨R, 0, none⟩) 1 1 [x] :: l) w :=
  SS.made (K := intK) (x := x) (zs := [.int .i64 x]) (n := 1) (by
    have e : madeCells ([.int .i64 x] : List Value).toArray (1 * intK.sz) = #[.int .i64 x] := Array.ext' (made_flat [.int .i64 x] 1 (by simp))
    rw [e]; exact h) (fun _ => rfl) (by decide)
theorem mapTS : MapT Tryz.prog 79 3 29 (.slice none 0 0) := ⟨Tryz.underlying79, Tryz.underlying3, Tryz.zeroValue29⟩
theorem mapTU : Map2Ok Tryz.prog 80 57 3 4 where
  hm := Tryz.underlying80
  hu := Tryz.underlying57
  hi := Tryz.underlying3
  hI := Option.isSome_iff_exists.1 (by kernel_rfl)
  hc := by kernel_rfl
  hs := Tryz.sizeOf3
  ha := Tryz.isAgg3
  hz := Tryz.zeroValue4
end Go.Proofs.YtmcfomainmppdaaGreatDoor
