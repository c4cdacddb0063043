/- Maps whose keys are integers, in the separation logic: a map is a block with its entries. Rational numbers in the separation logic. Literal rows; numbers in a row that is read; parts of rows that are read. -/
import Derived.MapKept
import Derived.ChangeMaps5
import Derived.Test.YtokhapaffleffaaSK
import Derived.Test.YtokhapaffleffaaRatE
namespace Go.Proofs.Ytokhapaffleffaa
open Go.RowKit Go.ChangeMaps
def entI : Nat → List (Int × Value) → List MapEntry
  | _, [] => []
  | n, p :: l => { key := .int .i64 p.1, val := p.2, born := n } :: entI (n + 1) l
def mapI (l : List (Int × Value)) : Obj := .map (entI 0 l).toArray l.length
def posI : List (Int × Value) → Int → Option (Nat × Value)
  | [], _ => none
  | p :: l, k => if k = p.1 then some (0, p.2) else (posI l k).map fun q => (q.1 + 1, q.2)
def lkI (z : Value) (l : List (Int × Value)) (k : Int) : Value := ((posI l k).map (·.2)).getD z
def upI : List (Int × Value) → Int → Value → List (Int × Value)
  | [], k, v => [(k, v)]
  | p :: l, k, v => if k = p.1 then (k, v) :: l else p :: upI l k v
theorem entI_app : ∀ (l : List (Int × Value)) (n : Nat) (k : Int) (v : Value), entI n (l ++ [(k, v)]) = entI n l ++ [{ key := .int .i64 k, val := v, born := n + l.length }]
  | [], n, k, v => by simp [entI]
  | x :: l, n, k, v => by
    rw [List.cons_append, entI, entI, entI_app l (n + 1) k, List.cons_append, List.length_cons]
    rw [show n + 1 + l.length = n + (l.length + 1) by omega]
theorem find_now : ∀ (l : List (Int × Value)) (n i : Nat) (k : Int), Instr.findNow (.int .i64) (.int .i64 k) (entI n l) i = some ((posI l k).map fun q => (i + q.1, q.2))
  | [], _, _, _ => rfl
  | p :: l, n, i, k => by
    rw [entI, posI]
    unfold Instr.findNow Instr.sameNow
    by_cases e : k = p.1
    · simp [e]
    · rw [if_neg e]
      simp only [if_true, beq_eq_false_iff_ne.2 e]
      rw [find_now l (n + 1) (i + 1) k]
      cases posI l k with
      | none => rfl
      | some q => simp only [Option.map_some]; rw [show i + 1 + q.1 = i + (q.1 + 1) by omega]
theorem upI_none : ∀ {l : List (Int × Value)} {k : Int} {v : Value}, posI l k = none → upI l k v = l ++ [(k, v)]
  | [], _, _, _ => rfl
  | p :: l, k, v, h => by
    unfold posI at h
    split at h
    · cases h
    · rename_i e
      rw [upI, if_neg e, upI_none (Option.map_eq_none_iff.1 h), List.cons_append]
theorem upI_some : ∀ {l : List (Int × Value)} {k : Int} {v u : Value} {i : Nat} (n : Nat), posI l k = some (i, u) → (entI n l)[i]?.map (·.key) = some (.int .i64 k) ∧ entI n (upI l k v) = (entI n l).modify i (fun e => { e with key := .int .i64 k, val := v }) ∧ (upI l k v).length = l.length
  | [], _, _, _, _, _, h => by cases h
  | p :: l, k, v, u, i, n, h => by
    unfold posI at h
    split at h
    · rename_i e
      injection h with h
      injection h with h1 h2
      subst h1; subst e
      rw [upI, if_pos rfl, entI, entI]
      exact ⟨rfl, rfl, rfl⟩
    · rename_i e
      cases hp : posI l k with
      | none => rw [hp] at h; cases h
      | some q =>
        rw [hp] at h
        injection h with h
        injection h with h1 h2
        subst h1
        obtain ⟨j, y⟩ := q
        obtain ⟨c1, c2, c3⟩ := upI_some (v := v) (n + 1) hp
        rw [upI, if_neg e, entI, entI]
        exact ⟨c1, by rw [c2]; rfl, by rw [List.length_cons, c3, List.length_cons]⟩
theorem lk_up (z : Value) : ∀ (l : List (Int × Value)) (k : Int) (v : Value) (j : Int), lkI z (upI l k v) j = if j = k then v else lkI z l j
  | [], k, v, j => by
    unfold lkI upI posI posI
    split <;> rfl
  | p :: l, k, v, j => by
    have ih := lk_up z l k v j
    rw [upI]
    by_cases e : k = p.1
    · rw [if_pos e]
      unfold lkI posI
      by_cases e2 : j = k
      · rw [if_pos e2, if_pos e2]; rfl
      · rw [if_neg e2, if_neg e2, if_neg (fun q => e2 (q.trans e.symm))]
    · rw [if_neg e]
      have key : ∀ l', lkI z (p :: l') j = if j = p.1 then p.2 else lkI z l' j := fun l' => by
        unfold lkI
        rw [posI]
        split
        · rfl
        · cases posI l' j <;> rfl
      rw [key, key, ih]
      by_cases e2 : j = p.1
      · rw [if_pos e2, if_pos e2, if_neg (fun q => e (q.symm.trans e2))]
      · rw [if_neg e2, if_neg e2]
structure MapT (P : Program) (M K E : TypeId) (z : Value) : Prop where
  hm : P.underlying M = some (.map K E)
  hk : P.underlying K = some (.int .i64)
  hz : ∀ w, (zeroValue E).run P w = .ok z w
section
variable {P : Program} {M K E : TypeId} {z : Value} {w : World} {R : Nat} {l : List (Int × Value)}
theorem run_gI (hw : Has 0 R (mapI l) w) : (getObj R).run P w = .ok (.map (entI 0 l).toArray l.length) w := by
  have := hw.2
  unfold mapI at this
  simp [getObj, Sem.run, this]
theorem run_sI (o : Obj) (hw : Has 0 R (mapI l) w) : (setObj R o).run P w = .ok () (setBlock w R o) := by
  have := hw.2
  unfold mapI at this
  simp [setObj, Sem.run, this, setBlock]
theorem run_cI (h : MapT P M K E z) (e : Bool) (k : Int) : (Instr.checkKey e 10000 K (.int .i64 k)).run P w = .ok () w := by
  unfold Instr.checkKey
  simp [run_underlying h.hk]
theorem run_fI (h : MapT P M K E z) (k : Int) : (Instr.findKey K (.int .i64 k) (entI 0 l)).run P w = .ok ((posI l k).map fun q => (0 + q.1, q.2)) w := by
  simp only [Instr.findKey, Sem.run_bind, run_underlying h.hk, Result.andThen_ok, find_now, Sem.run_pure]
theorem run_lookupI (h : MapT P M K E z) (hw : Has 0 R (mapI l) w) (k : Int) : (Instr.lookup M (.map (some R)) (.int .i64 k) false).run P w = .ok (lkI z l k) w := by
  unfold Instr.lookup
  simp only [Sem.run_bind, run_underlying h.hm, Result.andThen_ok, run_gI hw, Sem.run_pure, run_cI h]
  rw [run_fI h]
  unfold lkI
  cases posI l k with
  | none => simp [h.hz]
  | some q => simp
theorem run_updateI (h : MapT P M K E z) (hw : Has 0 R (mapI l) w) (k : Int) (v : Value) : (Instr.mapUpdate M (.map (some R)) (.int .i64 k) v).run P w = .ok () (setBlock w R (mapI (upI l k v))) := by
  unfold Instr.mapUpdate
  simp only [Sem.run_bind, run_underlying h.hm, Result.andThen_ok, run_gI hw, run_cI h]
  rw [run_fI h]
  cases hp : posI l k with
  | none =>
    simp only [Option.map_none, Result.andThen_ok]
    rw [run_sI _ hw, upI_none hp]
    have e : (entI 0 l).toArray.push { key := .int .i64 k, val := v, born := l.length } = (entI 0 (l ++ [(k, v)])).toArray := by rw [entI_app]; simp
    rw [e]
    simp [setBlock, mapI]
  | some q =>
    obtain ⟨i, u⟩ := q
    obtain ⟨c1, c2, c3⟩ := upI_some (v := v) 0 hp
    have c1' : ((entI 0 l).toArray[0 + i]?).map (·.key) = some (.int .i64 k) := by rw [Nat.zero_add]; simpa using c1
    simp only [Option.map_some, Result.andThen_ok, c1', Option.getD_some]
    have e : (Instr.keyThatStays (.int .i64 k) (.int .i64 k)).run P w = .ok (.int .i64 k) w := by unfold Instr.keyThatStays Instr.sameBits; simp
    simp only [Sem.run_bind, e, Result.andThen_ok]
    rw [run_sI _ hw]
    unfold mapI setBlock
    rw [c2, c3]
    congr 3
    rw [Nat.zero_add]
    simp
end
section
variable {P : Program} {V : World} {ops : Array Oper} {Q : Act → World → Prop} {f0 fs fs' : List Ft} {n : Nat} {ks : List Nat} {o : Oper} {rest : List Oper} {a a' : Act} {z v : Value} {R : Nat} {l : List (Int × Value)} {M K E : TypeId} {x y u : Operand} {k : Int}
theorem eMm {a2 : Nat → Act} (h : ∀ R, Sx P V ops Q f0 ks rest (bx R (mapI []) :: fs) (a2 R)) (hg : Wants ops o a := by first | exact wants0 rfl | exact wantsg rfl rfl rfl rfl) (h1 : ∀ w, (execOp a.eval o).run P w = .ok (.value (.map (some w.heap.size))) (w.alloc (mapI [])) := by intro w'; go_simp; rfl) (ha : ∀ R, a.put o.dst (.map (some R)) = a2 R := by intro R; (simp only [mkOf, Act.put, pA, pB, pC, pD, pE]) <;> exact rfl) : Sx P V ops Q f0 (3 :: ks) (o :: rest) fs a :=
  sx3 (f := fun R => .map (some R)) (mapI []) hg h1 fun R => by rw [ha]; exact h R
theorem lk_flt (hT : MapT P M K E z) (ho : o.op = .lookup M x y false) (hx : a.eval x = .map (some R)) (hy : a.eval y = .int .i64 k) {w : World} (hw : Has 0 R (mapI l) w) : Flt (lkI z l k) w ((execOp a.eval o).run P w) := by
  unfold execOp
  simp only [ho, Sem.run_bind, hx, hy, run_lookupI hT hw, Result.andThen_ok, Sem.run_pure]
  exact ⟨rfl, rfl⟩
theorem eLk (hT : MapT P M K E z) (hm : bx R (mapI l) ∈ fs) (h : Sx P V ops Q f0 ks rest fs a') (ho : o.op = .lookup M x y false := by rfl) (hx : a.eval x = .map (some R) := by rfl) (hy : a.eval y = .int .i64 k := by rfl) (hg : Wants ops o a := by first | exact wants0 rfl | exact wantsg rfl rfl rfl rfl) (ha : a.put o.dst (lkI z l k) = a' := by (simp only [mkOf, Act.put, pA, pB, pC, pD, pE]) <;> exact rfl) : Sx P V ops Q f0 (1 :: ks) (o :: rest) fs a :=
  sx1 hg (fun w hw => Flt.does ⟨rfl, Below.refl _ _⟩ (lk_flt hT ho hx hy (hw.box hm))) (by rw [ha]; exact h)
theorem eLk0 (hT : MapT P M K E z) (hm : bx R (mapI l) ∈ f0) (h : Sx P V ops Q f0 ks rest fs a') (ho : o.op = .lookup M x y false := by rfl) (hx : a.eval x = .map (some R) := by rfl) (hy : a.eval y = .int .i64 k := by rfl) (hg : Wants ops o a := by first | exact wants0 rfl | exact wantsg rfl rfl rfl rfl) (ha : a.put o.dst (lkI z l k) = a' := by (simp only [mkOf, Act.put, pA, pB, pC, pD, pE]) <;> exact rfl) : Sx P V ops Q f0 (0 :: ks) (o :: rest) fs a :=
  sx0 hg (fun w hw => lk_flt hT ho hx hy (hw.box hm)) (by rw [ha]; exact h)
theorem map_qt {w : World} {i : Nat} (h : Has 0 R (mapI l) w) : Qt (some R) w i fs := fun R' e _ _ _ _ v hv => by
  injection e with e
  subst e
  have h2 := h.2
  unfold mapI at h2
  simp [World.cell?, h2] at hv
theorem eUp (hT : MapT P M K E z) (i : Nat) (h : Sx P V ops Q f0 ks rest fs' a') (hi : fs[i]? = some (bx R (mapI l)) := by rfl) (ho : o.op = .mapUpdate M x y u ∨ o.op = .insert M x y u := by first | exact .inl rfl | exact .inr rfl) (hx : a.eval x = .map (some R) := by rfl) (hy : a.eval y = .int .i64 k := by rfl) (hu : a.eval u = v := by rfl) (hf : fs.set i (bx R (mapI (upI l k v))) = fs' := by (simp only [pB, pC]) <;> exact rfl) (hs : f0.Sublist fs' := by exact List.nil_sublist _) (hg : Wants ops o a := by first | exact wants0 rfl | exact wantsg rfl rfl rfl rfl) (ha : a.put o.dst undef = a' := by (simp only [mkOf, Act.put, pA, pB, pC, pD, pE]) <;> exact rfl) : Sx P V ops Q f0 (4 :: ks) (o :: rest) fs a :=
  sx4 (α := Unit) (f := fun _ => undef) (l' := fun _ => fs.set i (bx R (mapI (upI l k v)))) hg (fun _ => by rw [hf]; exact hs) (fun w hw => by
    have hb : Has 0 R (mapI l) w := hw.box (List.mem_of_getElem? hi)
    have hr : (execOp a.eval o).run P w = .ok .skip (setBlock w R (mapI (upI l k v))) := by
      unfold execOp
      rcases ho with ho | ho <;> simp only [ho, Sem.run_bind, hx, hy, hu, run_updateI hT hb, Result.andThen_ok, Sem.run_pure]
    rw [hr]
    have hsz : (setBlock w R (mapI (upI l k v))).heap.size = w.heap.size := by simp [setBlock]
    have hgr : w.grownBy (setBlock w R (mapI (upI l k v))) (some R) := ⟨rfl, rfl, rfl, by rw [hsz]; exact Nat.le_refl _, fun j _ hne => heap_setBlock_other (by have := hb.2; unfold mapI at this; exact this) _ (fun e => hne (by rw [e]))⟩
    exact ⟨(), rfl, hw.turn hi hgr (fun R' e => by injection e with e; subst e; rfl) (map_qt hb) ⟨Nat.zero_le _, heap_setBlock_same (by have := hb.2; unfold mapI at this; exact this) _⟩ fun g hg => .inl hg⟩) fun _ => by rw [hf, ha]; exact h
end
end Go.Proofs.Ytokhapaffleffaa
namespace Go.Proofs.Ytokhapaffleffaa
open Go.RowKit
theorem ratV_cells' {w : World} {a b d : Value} {x : Rat} (h : RatV w (.agg #[a, b, d]) x) : a = .bool (isN x) ∧ (∃ p n c, b = .slice p n c) ∧ ∃ p n c, d = .slice p n c := by
  obtain ⟨p, l, c, q, m, e, e1, _, _⟩ := h
  injection e1 with e1
  have := congrArg Array.toList e1
  simp at this
  exact ⟨this.1, ⟨p, l, c, this.2.1⟩, q, m, e, this.2.2⟩
theorem SS.up9 {V w : World} {l : List Ft} {x0 x1 x2 x3 x4 x5 x6 x7 x8 x9 : Ft} (h0 : SS V (x0 :: x1 :: x2 :: x3 :: x4 :: x5 :: x6 :: x7 :: x8 :: x9 :: l) w) : SS V (x9 :: x0 :: x1 :: x2 :: x3 :: x4 :: x5 :: x6 :: x7 :: x8 :: l) w := h0.perm (up_cons (up_cons (up_cons (up_cons (up_cons (up_cons (up_cons (up_cons (up_cons (.refl _))))))))))
theorem SS.up10 {V w : World} {l : List Ft} {x0 x1 x2 x3 x4 x5 x6 x7 x8 x9 x10 : Ft} (h0 : SS V (x0 :: x1 :: x2 :: x3 :: x4 :: x5 :: x6 :: x7 :: x8 :: x9 :: x10 :: l) w) : SS V (x10 :: x0 :: x1 :: x2 :: x3 :: x4 :: x5 :: x6 :: x7 :: x8 :: x9 :: l) w := h0.perm (up_cons (up_cons (up_cons (up_cons (up_cons (up_cons (up_cons (up_cons (up_cons (up_cons (.refl _)))))))))))
theorem SS.up11 {V w : World} {l : List Ft} {x0 x1 x2 x3 x4 x5 x6 x7 x8 x9 x10 x11 : Ft} (h0 : SS V (x0 :: x1 :: x2 :: x3 :: x4 :: x5 :: x6 :: x7 :: x8 :: x9 :: x10 :: x11 :: l) w) : SS V (x11 :: x0 :: x1 :: x2 :: x3 :: x4 :: x5 :: x6 :: x7 :: x8 :: x9 :: x10 :: l) w := h0.perm (up_cons (up_cons (up_cons (up_cons (up_cons (up_cons (up_cons (up_cons (up_cons (up_cons (up_cons (.refl _))))))))))))
def ratK : EK Rat where
  sz := 3
  pos := by decide
  R := fun w cs x => ∃ a b d, cs = [a, b, d] ∧ RatV w (.agg #[a, b, d]) x
  len := fun ⟨_, _, _, e, _⟩ => by rw [e]; rfl
  one := fun ⟨a, b, d, e, h⟩ u hu => by
    obtain ⟨rfl, ⟨_, _, _, rfl⟩, _, _, _, rfl⟩ := ratV_cells' h
    subst e
    simp only [List.mem_cons, List.not_mem_nil, or_false] at hu
    rcases hu with rfl | rfl | rfl <;> rfl
  below := fun ⟨a, b, d, e, h⟩ hb => ⟨a, b, d, e, h.below hb⟩
theorem ratK_hd {w : World} {cs : List Value} {x : Rat} {u : Value} (h : ratK.R w cs x) (hu : cs[0]? = some u) : rkV u = 2 := by
  obtain ⟨a, b, c, rfl, h⟩ := h
  obtain ⟨rfl, _⟩ := ratV_cells' h
  cases hu; rfl
instance : OwnK ratK := ⟨[0], fun ⟨a, b, c, e, h⟩ hg w1 h2 h3 w2 h4 => ⟨a, b, c, e, rat_spare h hg w1 h2 h3 w2 h4⟩, .inr ⟨2, rfl, ratK_hd⟩⟩
def qF (v : Value) (x : Rat) : Ft := pF [0] (fun w => RatV w v x) (fun h hb => h.below hb) (fun h hn => rat_spare h hn)
def mQ (z : Value) (l : List (Int × Value)) (F : Int → Rat) : Ft := pF [0] (fun w => ∀ k, RatV w (lkI z l k) (F k)) (fun h hb k => (h k).below hb) (fun h hn w1 h1 h2 w2 h3 k => rat_spare (h k) hn w1 h1 h2 w2 h3)
section
variable {P : Program} {f : FuncId} {args : Array Value} {w : World} {q : Rat} {c : Int}
theorem rat_S (h : Calls P f args w fun e w' => ∃ y0, e = .returned y0 ∧ RatV w' y0 q ∧ Below w.heap.size w w') : Calls P f args w fun e w' => ∃ x : Duo Sl Sl, e = .returned (.agg #[.bool (isN q), .slice x.a.p x.a.l x.a.c, .slice x.b.p x.b.l x.b.c]) ∧ SS w [qF (.agg #[.bool (isN q), .slice x.a.p x.a.l x.a.c, .slice x.b.p x.b.l x.b.c]) q] w' := h.mono fun e w' ⟨y0, h1, h2, h3⟩ => by
  have h2' := h2
  obtain ⟨p, l, c, p', m, d, rfl, h4, h5⟩ := h2
  exact ⟨⟨⟨p, l, c⟩, ⟨p', m, d⟩⟩, h1, ((SS.start w).step h3).fact (qF _ _) h2'⟩
theorem rat2_S (h : Calls P f args w fun e w' => ∃ y0, e = .returned (.tuple #[y0, .int .i64 c]) ∧ RatV w' y0 q ∧ Below w.heap.size w w') : Calls P f args w fun e w' => ∃ x : Duo Sl Sl, e = .returned (.tuple #[.agg #[.bool (isN q), .slice x.a.p x.a.l x.a.c, .slice x.b.p x.b.l x.b.c], .int .i64 c]) ∧ SS w [qF (.agg #[.bool (isN q), .slice x.a.p x.a.l x.a.c, .slice x.b.p x.b.l x.b.c]) q] w' := h.mono fun e w' ⟨y0, h1, h2, h3⟩ => by
  have h2' := h2
  obtain ⟨p, l, c, p', m, d, rfl, h4, h5⟩ := h2
  exact ⟨⟨⟨p, l, c⟩, ⟨p', m, d⟩⟩, h1, ((SS.start w).step h3).fact (qF _ _) h2'⟩
end
section
variable {V w : World} {l : List Ft} {m : List (Int × Value)} {F : Int → Rat} {z v : Value} {x : Rat} {k : Int}
theorem SS.q (h : SS V l w) (hm : qF v x ∈ l) : RatV w v x := h.get hm
theorem SS.mq (h : SS V l w) (hm : mQ z m F ∈ l) (k : Int) : RatV w (lkI z m k) (F k) := h.get hm k
theorem SS.mup (h : SS V l w) (hm : mQ z m F ∈ l) (hv : qF v x ∈ l) (k : Int) : SS V (mQ z (upI m k v) (fun j => if j = k then x else F j) :: l) w := h.fact (mQ _ _ _) fun j => by
  show RatV w (lkI z (upI m k v) j) (if j = k then x else F j)
  rw [lk_up]
  split
  · exact h.q hv
  · exact h.mq hm j
theorem SS.mnil (h : SS V l w) : SS V (mQ (.agg #[.bool false, .slice none 0 0, .slice none 0 0]) [] (fun _ => 0) :: l) w := h.fact (mQ _ _ _) fun _ => RatV.zero w
end
section
variable {P : Program} {V : World} {ops : Array Oper} {Q : Act → World → Prop} {f0 fs fs' : List Ft} {ks : List Nat} {o : Oper} {rest : List Oper} {a a' : Act}
theorem eWQ {g n c j : Nat} {t : TypeId} {xs : List Rat} {y : Rat} {v0 v1 v2 : Value} (i : Nat) (hj : j < xs.length) (hv : qF (.agg #[v0, v1, v2]) y ∈ fs) (h : Sx P V ops Q f0 ks rest fs' a') (hi : fs[i]? = some (rO ratK t (some ⟨g, 0, none⟩) n c xs) := by rfl) (hf : fs.set i (rO ratK t (some ⟨g, 0, none⟩) n c (xs.set j y)) = fs' := by (simp only [pB, pC]) <;> exact rfl) (hs : f0.Sublist fs' := by exact List.nil_sublist _) (hq : OkL 2 i fs := by repeat (first | exact trivial | (show OkA _ _; assumption) | refine ⟨rfl, ?_⟩)) (hg : Wants ops o a := by first | exact wants0 rfl | exact wantsg rfl rfl rfl rfl)
    (h1 : ∀ w u0 u1 u2, w.cell? ⟨g, j * 3, none⟩ = some u0 → w.cell? ⟨g, j * 3 + 1, none⟩ = some u1 → w.cell? ⟨g, j * 3 + 2, none⟩ = some u2 → (∀ o, w.frozen? ⟨g, o, none⟩ = false) → Does P (fun u w' => u = undef ∧ w' = putAt g (j * 3) [v0, v1, v2] w) ((execOp a.eval o).run P w) := by intro w' u0 u1 u2 c0 c1 c2 f; go_simp; exact ⟨rfl, rfl⟩) (ha : a.put o.dst undef = a' := by (simp only [mkOf, Act.put, pA, pB, pC, pD, pE]) <;> exact rfl) : Sx P V ops Q f0 (4 :: ks) (o :: rest) fs a :=
  sxS (R := g) (f2 := rO ratK t (some ⟨g, 0, none⟩) n c (xs.set j y)) hi rfl (fun _ h => h) (fun w k => qtN (fun R' e => by injection e with e; subst e; exact OwV.hd k (List.ne_nil_of_length_pos (by omega)) (fun {_ _ _ _} h hu => ratK_hd h hu)) hq) (by rw [hf]; exact hs) hg (fun w hw k => by
    obtain ⟨u0, hu0⟩ := OwV.some_cell k hj (j := 0) (by decide)
    obtain ⟨u1, hu1⟩ := OwV.some_cell k hj (j := 1) (by decide)
    obtain ⟨u2, hu2⟩ := OwV.some_cell k hj (j := 2) (by decide)
    refine (h1 w u0 u1 u2 hu0 hu1 hu2 (OwV.fz k)).mono fun u w' ⟨e1, e2⟩ => ?_
    subst e2
    exact ⟨e1, ⟨_, _, rfl⟩, OwV.put k ⟨_, _, _, rfl, hw.q hv⟩ hj _ (Below.refl _ _)⟩) (by rw [hf, ha]; exact h)
end
end Go.Proofs.Ytokhapaffleffaa
namespace Go.Proofs.Ytokhapaffleffaa
open Go.RowKit
section
variable {w w' V : World} {l : List Ft}
theorem litEls (xs : List Int) : Els intK w (xs.map fun x => [.int .i64 x]) xs := ⟨by simp, fun k cs x h1 h2 => by
  rw [List.getElem?_map, h2] at h1
  cases h1; rfl⟩
theorem litV {R : Nat} {ty : TypeId} {vs : List Value} (xs : List Int) (h : Has 0 R (.cells vs.toArray ty) w) (e : vs = xs.map fun x => .int .i64 x) (hl : xs.length ≤ 9223372036854775807) : SlV intK w (.slice (some ⟨R, 0, none⟩) xs.length xs.length) xs := by
  refine ⟨_, litEls xs, .inr ⟨R, 0, _, rfl, h.ltS, Nat.le_refl _, hl, fun k cs j u c1 c2 => ?_⟩⟩
  rw [List.getElem?_map] at c1
  cases hx : xs[k]? with
  | none => rw [hx] at c1; cases c1
  | some x =>
    rw [hx] at c1
    cases c1
    cases j with
    | succ j => simp at c2
    | zero =>
      simp at c2
      subst c2
      rw [show 0 + k * intK.sz + 0 = k by show 0 + k * 1 + 0 = k; omega]
      exact h.at k (by rw [e, List.getElem?_map, hx]; rfl)
theorem slBox2 {R : Nat} {ty : TypeId} {x y : Int} (h : Has 0 R (.cells #[.int .i64 x, .int .i64 y] ty) w) : SlV intK w (.slice (some ⟨R, 0, none⟩) 2 2) [x, y] := litV [x, y] h rfl (by simp)
theorem slBox4 {R : Nat} {ty : TypeId} {x y z u : Int} (h : Has 0 R (.cells #[.int .i64 x, .int .i64 y, .int .i64 z, .int .i64 u] ty) w) : SlV intK w (.slice (some ⟨R, 0, none⟩) 4 4) [x, y, z, u] := litV [x, y, z, u] h rfl (by simp)
def C3 (w : World) (g o : Nat) (a b d : Value) : Prop := g < w.heap.size ∧ w.cell? ⟨g, o, none⟩ = some a ∧ w.cell? ⟨g, o + 1, none⟩ = some b ∧ w.cell? ⟨g, o + 2, none⟩ = some d
theorem C3.below {g o : Nat} {a b d : Value} (h : C3 w g o a b d) (hb : Below w.heap.size w w') : C3 w' g o a b d :=
  ⟨Nat.lt_of_lt_of_le h.1 hb.size, (hb.cell (p := ⟨g, _, none⟩) h.1).trans h.2.1, (hb.cell (p := ⟨g, _, none⟩) h.1).trans h.2.2.1, (hb.cell (p := ⟨g, _, none⟩) h.1).trans h.2.2.2⟩
theorem SlV.rat {g o n c i : Nat} {sh : List Rat} {x : Rat} (h : SlV ratK w (.slice (some ⟨g, o, none⟩) n c) sh) (hx : sh[i]? = some x) : ∃ a b d, C3 w g (o + i * 3) a b d ∧ RatV w (.agg #[a, b, d]) x := by
  obtain ⟨cs, h1, a, b, d, rfl, h2⟩ := h.at hx
  exact ⟨a, b, d, ⟨h1.1, h1.2 0 _ rfl, h1.2 1 _ rfl, h1.2 2 _ rfl⟩, h2⟩
section
variable {α : Type} {K : EK α} {xs : List α} {g o n c i m : Nat}
theorem SlV.cap (h : SlV K w (.slice (some ⟨g, o, none⟩) n c) xs) (hi : i < n) : n ≤ c ∧ c ≤ 9223372036854775807 := by
  obtain ⟨css, h1, ⟨rfl, p, c', e⟩ | ⟨g', o', c', e, hl, hc1, hc2, ha⟩⟩ := h
  · injection e with _ e2 _; omega
  · injection e with e1 e2 e3; omega
theorem SlV.part (h : SlV K w (.slice (some ⟨g, o, none⟩) n c) xs) (hn : n ≤ c) (hi : i ≤ m) (hm : m ≤ n) : ∃ q : Option Addr, RowKit.Hid ((if c = i then some (⟨g, o, none⟩ : Addr) else some ⟨g, o + i * K.sz, none⟩) = q) ∧ SlV K w (.slice q (m - i) (c - i)) ((xs.take m).drop i) := by
  have hx := h.one0
  have ht := h.take (m := m) (by omega)
  have hl : (xs.take m).length = m := by rw [List.length_take]; omega
  refine ⟨_, hid rfl, ?_⟩
  by_cases e : c = i
  · rw [if_pos e, List.drop_eq_nil_of_le (by omega), show m - i = 0 by omega]
    exact .nil
  · rw [if_neg e]
    have := ht.drop (m := i) (by omega)
    rw [hl] at this
    exact this
theorem SlV.rest (h : SlV K w (.slice (some ⟨g, o, none⟩) n c) xs) (hn : n ≤ c) (hi : i ≤ n) : ∃ q : Option Addr, RowKit.Hid ((if c = i then some (⟨g, o, none⟩ : Addr) else some ⟨g, o + i * K.sz, none⟩) = q) ∧ SlV K w (.slice q (n - i) (c - i)) (xs.drop i) := by
  have := h.part (i := i) (m := n) hn hi (Nat.le_refl n)
  rwa [List.take_of_length_le (Nat.le_of_eq h.one0.symm)] at this
end
end
end Go.Proofs.Ytokhapaffleffaa
