/- The frame of a law's row of this seat. -/
import Derived.Test.YtjhgkojbpgakcaaGreatDoorNrG
import Derived.Test.YtjhgkojbpgakcaaGreatDoorDnC
import Derived.Test.YtjhgkojbpgakcaaGreatDoorRowOpen
import Derived.ChangeMaps5
import Derived.Test.YtjhgkojbpgakcaaGreatDoorRows
import Derived.Test.YtjhgkojbpgakcaaGreatDoorTie
import Derived.ProofKit
import Derived.OpenShut
import Derived.JoinedCond
import Derived.LaidMore
import Derived.Lay
import Derived.SevenTiedAt
import Derived.Stop.Joined
import Derived.Lib.LaidTab
import Derived.Lib.LaidU8
import Derived.Lib.SmallJoins
import Derived.Deep.Slices
import Derived.LaidLaws
namespace Go.Proofs.YtjhgkojbpgakcaaGreatDoor
open Go.ChangeShapes Go.WideShapes Go.ChangeAt Go.RowKit Go.Joins Go.Deep
theorem ownK : ownKnob Tryz.prog.godebug = none := by kernel_rfl
theorem laidOutK : laidOutB Tryz.prog = true := by kernel_rfl
theorem reread {H : Type} {enc : TypeId × Value → H} {P : Program} (hl : laidOutB P = true) {W W' : World} (hb : Below W.heap.size W W') :
    ∀ {ts : List TypeId} {vs : List Value} {ds : List (DataW H)} {ps : List MemPlace}, (ts.all fun t => P.readableRec t && decide (t < P.types.size)) = true → DataW.TrodAll enc P W 0 (fun _ => true) true ts vs ds ps → (∀ x ∈ ps, x.block < W.heap.size) →
      DataW.TrodAll enc P W' 0 (fun b => decide (b < W.heap.size)) true ts vs ds ps
  | [], vs, ds, ps, _, h, _ => by
    obtain ⟨rfl, rfl, rfl⟩ := trodAll_nil h
    exact trodAll_mk0
  | t :: ts, vs, ds, ps, ha, h, hlt => by
    obtain ⟨v, vs', d, ds', p, q, rfl, rfl, rfl, h1, h2⟩ := trodAll_cons h
    simp only [List.all_cons, Bool.and_eq_true, decide_eq_true_eq] at ha
    exact trodAll_cons_mk (Below.trod hl ha.1.1 ha.1.2 h1 hb fun x hx => hlt x (List.mem_append_left _ hx)) (reread hl hb (by simpa using ha.2) h2 fun x hx => hlt x (List.mem_append_right _ hx))
theorem law_post {H : Type} {enc : TypeId × Value → H} {fn : Func} {s : ChangeSpec} {W W' : World} {args : Array Value} {ds gs : List (DataW H)} {p q : List MemPlace} (hs : s.fn H (ds ++ gs) = { results := [.lit (.bool true)], args := ds }) (hvars : s.vars = [])
    (hres : fn.resultTypes = #[4]) (hts : (fn.params.toList.all fun t => Tryz.prog.readableRec t && decide (t < Tryz.prog.types.size)) = true)
    (hW : DataW.Whole enc Tryz.prog fn.params.toList s.vars false W args.toList ds gs (p ++ q)) (hA : DataW.TrodAll enc Tryz.prog W 0 (fun _ => true) true fn.params.toList args.toList ds p) (hB : Below W.heap.size W W') :
    s.post enc Tryz.prog fn false true false false W args (.bool true) W' := by
  refine ⟨ds, gs, p ++ q, [], p, [], hW, ?_, ?_, ?_, hB.frame _, fun h => by cases h⟩
  · rw [hs, hres]
    exact trodAll_cons_mk (p := []) (shut_bool Tryz.underlying4 _) trodAll_mk0
  · rw [hs]
    exact reread laidOutK hB hts hA fun x hx => hW.lt x (List.mem_append_left _ hx)
  · rw [hs, hvars]; rfl
theorem tab_of_laid {W : World} (h : laidMetH Tryz.prog Rows.demandScaleRow.laid W) : Tab W := by
  rw [MakeChecks.laidMetH_plain _ _ _ (by kernel_rfl)] at h
  obtain ⟨g, t, cs, fuel, p, hg, hty, hvar, hd⟩ := Lib.laidMet.reads h (n := "internal/strconv.uint64pow10") (d := Lib.tabData .u64 Lib.pow10Tab) (.tail _ (.tail _ (.head _)))
  obtain ⟨g', hg', hty'⟩ : ∃ g', Tryz.prog.globalNamed "internal/strconv.uint64pow10" = some g' ∧ (Tryz.prog.globals[g']?).map (·.type) = some 171 := ⟨1, by kernel_rfl, by kernel_rfl⟩
  obtain rfl := Option.some.inj (hg'.symm.trans hg)
  obtain rfl := Option.some.inj (hty'.symm.trans hty)
  have hcs := Lib.cells_of_tab Tryz.underlying171 Tryz.underlying95 (by kernel_rfl) (by kernel_rfl) hd
  unfold Tab Lib.TabIs
  rw [hvar, ← hcs]
section
variable {H : Type} {enc : TypeId × Value → H}
theorem change_and_shaped {a : Assume} {C : Checked} {os : Os} {f : FuncId} {fn : Func} {s : ChangeSpec} {conds : List PathCond} {apart fresh handsOn again : Bool} {X : World → Array Value → Prop}
    (hX : ∀ (w w' : World) (args : Array Value), w.heap = w'.heap → X w args → X w' args)
    (own : ownKnob C.prog.godebug = none) (started : os.Started) (noInit : C.prog.inits.idxOf? f = none) (hfn : C.prog.funcs[f]? = some fn)
    (witness : ∃ (w : World) (tape : Tape) (i : Input), w.os = os ∧ (w.forCall tape i).Shaped C.prog ∧ i.vars = [] ∧ Input.okWide C.prog (w.forCall tape i) .any w.heap.size f i ∧
      ((s.pre enc C.prog fn conds apart (w.forCall tape i).memory i.args ∧ X (w.forCall tape i).memory i.args) ∧ sizedMet enc C.prog fn (OpenSpec.ofChange s) apart (w.forCall tape i).memory i.args) ∧ a.holds C.prog (lone (Frame.enter C.prog f i.args .normal) [] (w.forCall tape i)))
    (contract : ∀ (W : World) (base : Nat) (args : Array Value) (ds gs : List (DataW H)) (before : List MemPlace),
      (∀ (j : Nat) t v, fn.params[j]? = some t → args[j]? = some v → Value.okWide C.prog W .any base t v) →
      DataW.Whole enc C.prog fn.params.toList s.vars apart W args.toList ds gs before →
      X W args → W.ShapedOpen C.prog →
      Calls C.prog f args W fun e W' => ∃ v, e = .returned v ∧ s.post enc C.prog fn apart fresh handsOn again W args v W') :
    ReturnsInHanded a C os f .any (fun w args => (s.pre enc C.prog fn conds apart w args ∧ X w args) ∧ sizedMet enc C.prog fn (OpenSpec.ofChange s) apart w args) (s.post enc C.prog fn apart fresh handsOn again) := by
  refine returnsInHanded_of_calls own started noInit witness ?_
  intro w tape i _ hsh _ hok hpre _
  obtain ⟨_, _, _, fn', hfn', _, _, _, _, hval⟩ := hok
  obtain rfl : fn' = fn := Option.some.inj (hfn'.symm.trans hfn)
  obtain ⟨⟨⟨ds, gs, before, hw, _⟩, hx⟩, _⟩ := hpre
  have hw' := DataW.Whole.of_heap (w' := w.forCall tape i) (by rfl) hw
  refine (contract (w.forCall tape i) w.heap.size i.args ds gs before hval hw' (hX _ _ _ (by rfl) hx) hsh).mono fun e W' ⟨v, he, hp⟩ => ?_
  subst he
  exact ChangeSpec.post_blind hp
end
section
variable {H : Type} {enc : TypeId × Value → H} {w : World} {base : Nat} {sp : Nat → Bool} {hd : Bool}
set_option maxRecDepth 100000 in
theorem open_i32 {b0 : Nat} {v : Value} {d : DataW H} {p : List MemPlace} (hv : Value.okWide Tryz.prog w .any b0 21 v) (h : DataW.Trod enc Tryz.prog w base sp hd 21 v d p) : ∃ x : Int, v = .int .i32 x ∧ -2147483648 ≤ x ∧ x ≤ 2147483647 := by
  obtain ⟨x, rfl, _, _, wx⟩ := open_int Tryz.underlying21 hv h
  exact ⟨x, rfl, by simpa [Lit.wf, IntKind.min, IntKind.max, IntKind.signed, IntKind.bits] using wx⟩
end
section
variable {H : Type} {enc : TypeId × Value → H} {w : World} {base : Nat} {sp : Nat → Bool} {hd : Bool}
set_option maxRecDepth 100000 in
theorem open_i16 {b0 : Nat} {v : Value} {d : DataW H} {p : List MemPlace} (hv : Value.okWide Tryz.prog w .any b0 23 v) (h : DataW.Trod enc Tryz.prog w base sp hd 23 v d p) : ∃ x : Int, v = .int .i16 x ∧ -32768 ≤ x ∧ x ≤ 32767 := by
  obtain ⟨x, rfl, _, _, wx⟩ := open_int Tryz.underlying23 hv h
  exact ⟨x, rfl, by simpa [Lit.wf, IntKind.min, IntKind.max, IntKind.signed, IntKind.bits] using wx⟩
end
theorem cellsK_int : Tryz.prog.cellsOf 3 = 1 := by kernel_rfl
section
variable {H : Type} {enc : TypeId × Value → H} {w : World} {base : Nat} {sp : Nat → Bool} {hd : Bool}
theorem elem_int {m : Nat} {cs : List Value} {y : DataW H × List MemPlace} (h : DataW.trod enc Tryz.prog w base sp hd m 3 cs = some y) : ∃ x : Int, cs = [.int .i64 x] ∧ -9223372036854775808 ≤ x ∧ x ≤ 9223372036854775807 := by
  obtain ⟨x, e, _, hw⟩ := DataW.trod_int Tryz.underlying3 h
  exact ⟨x, e, by simpa [Lit.wf, IntKind.min, IntKind.max, IntKind.signed, IntKind.bits] using hw⟩
set_option maxRecDepth 100000 in
theorem elem_dem {m : Nat} {cs : List Value} {y : DataW H × List MemPlace} (hl : cs.length = 4) (h : DataW.trod enc Tryz.prog w base sp hd m 53 cs = some y) : ∃ x : Dm, cs = dmC x ∧ -9223372036854775808 ≤ x.a ∧ x.a ≤ 9223372036854775807 := by
  match cs, hl with
  | [c0, c1, c2, c3], _ =>
    obtain ⟨xs, n, _, rfl, _, hlen, hf⟩ := DataW.trod_struct Tryz.underlying53 h
    match xs, hlen with
    | [y0, y1, y2, y3], _ =>
      have h0 : DataW.trod enc Tryz.prog w base sp hd n 3 [c0] = some y0 := by simpa [cellsK_int] using hf 0 _ rfl
      have h1 : DataW.trod enc Tryz.prog w base sp hd n 3 [c1] = some y1 := by simpa [cellsK_int] using hf 1 _ rfl
      have h2 : DataW.trod enc Tryz.prog w base sp hd n 3 [c2] = some y2 := by simpa [cellsK_int] using hf 2 _ rfl
      have h3 : DataW.trod enc Tryz.prog w base sp hd n 3 [c3] = some y3 := by simpa [cellsK_int] using hf 3 _ rfl
      obtain ⟨a, e0, b0⟩ := elem_int h0
      obtain ⟨b, e1, b1⟩ := elem_int h1
      obtain ⟨c, e2, b2⟩ := elem_int h2
      obtain ⟨d, e3, b3⟩ := elem_int h3
      simp at e0 e1 e2 e3
      subst e0 e1 e2 e3
      exact ⟨⟨a, b, c, d⟩, rfl, b2⟩
theorem open_dems {v : Value} {d : DataW H} {p : List MemPlace} (hv : ∃ a len cap, v = .slice a len cap) (h : DataW.Trod enc Tryz.prog w base sp hd 22 v d p) : ∃ xs : List Dm, SlV demK w v xs ∧ ∀ d ∈ xs, -9223372036854775808 ≤ d.a ∧ d.a ≤ 9223372036854775807 := by
  obtain ⟨xs, h1, h2⟩ := open_slv (K := demK) (Ok := fun d => -9223372036854775808 ≤ d.a ∧ d.a ≤ 9223372036854775807) Tryz.underlying22 (by kernel_rfl) (fun _ _ _ hl hx => by obtain ⟨x, e, hb⟩ := elem_dem hl hx; exact ⟨x, e, hb⟩) hv h
  exact ⟨xs, h1, h2⟩
end
end Go.Proofs.YtjhgkojbpgakcaaGreatDoor
