/- The frame of a law's row of this seat. -/
import Derived.Test.YtcdbgincfdejkaaGreatDoorCerI
import Derived.Test.YtcdbgincfdejkaaGreatDoorRowOpen
import Derived.ChangeMaps5
import Derived.Test.YtcdbgincfdejkaaGreatDoorRows
import Derived.Test.YtcdbgincfdejkaaGreatDoorTie
import Derived.ProofKit
import Derived.OpenShut
import Derived.JoinedCond
import Derived.LaidMore
import Derived.Lay
import Derived.SevenTiedAt
import Derived.Stop.Joined
import Derived.Lib.LaidTab
import Derived.Lib.LaidU8
import Derived.Lib.SmallJoins
import Derived.Deep.Slices
import Derived.LaidLaws
namespace Go.Proofs.YtcdbgincfdejkaaGreatDoor
open Go.ChangeShapes Go.WideShapes Go.ChangeAt Go.RowKit Go.Joins Go.Deep
theorem ownK : ownKnob Tryz.prog.godebug = none := by kernel_rfl
theorem laidOutK : laidOutB Tryz.prog = true := by kernel_rfl
theorem reread {H : Type} {enc : TypeId × Value → H} {P : Program} (hl : laidOutB P = true) {W W' : World} (hb : Below W.heap.size W W') :
    ∀ {ts : List TypeId} {vs : List Value} {ds : List (DataW H)} {ps : List MemPlace}, (ts.all fun t => P.readableRec t && decide (t < P.types.size)) = true → DataW.TrodAll enc P W 0 (fun _ => true) true ts vs ds ps → (∀ x ∈ ps, x.block < W.heap.size) →
      DataW.TrodAll enc P W' 0 (fun b => decide (b < W.heap.size)) true ts vs ds ps
  | [], vs, ds, ps, _, h, _ => by
    obtain ⟨rfl, rfl, rfl⟩ := trodAll_nil h
    exact trodAll_mk0
  | t :: ts, vs, ds, ps, ha, h, hlt => by
    obtain ⟨v, vs', d, ds', p, q, rfl, rfl, rfl, h1, h2⟩ := trodAll_cons h
    simp only [List.all_cons, Bool.and_eq_true, decide_eq_true_eq] at ha
    exact trodAll_cons_mk (Below.trod hl ha.1.1 ha.1.2 h1 hb fun x hx => hlt x (List.mem_append_left _ hx)) (reread hl hb (by simpa using ha.2) h2 fun x hx => hlt x (List.mem_append_right _ hx))
theorem law_post {H : Type} {enc : TypeId × Value → H} {fn : Func} {s : ChangeSpec} {W W' : World} {args : Array Value} {ds gs : List (DataW H)} {p q : List MemPlace} (hs : s.fn H (ds ++ gs) = { results := [.lit (.bool true)], args := ds }) (hvars : s.vars = [])
    (hres : fn.resultTypes = #[4]) (hts : (fn.params.toList.all fun t => Tryz.prog.readableRec t && decide (t < Tryz.prog.types.size)) = true)
    (hW : DataW.Whole enc Tryz.prog fn.params.toList s.vars false W args.toList ds gs (p ++ q)) (hA : DataW.TrodAll enc Tryz.prog W 0 (fun _ => true) true fn.params.toList args.toList ds p) (hB : Below W.heap.size W W') :
    s.post enc Tryz.prog fn false true false false W args (.bool true) W' := by
  refine ⟨ds, gs, p ++ q, [], p, [], hW, ?_, ?_, ?_, hB.frame _, fun h => by cases h⟩
  · rw [hs, hres]
    exact trodAll_cons_mk (p := []) (shut_bool Tryz.underlying4 _) trodAll_mk0
  · rw [hs]
    exact reread laidOutK hB hts hA fun x hx => hW.lt x (List.mem_append_left _ hx)
  · rw [hs, hvars]; rfl
theorem tab_of_laid {W : World} (h : laidMetH Tryz.prog Rows.certificateCheckRow.laid W) : Tab W := by
  rw [MakeChecks.laidMetH_plain _ _ _ (by kernel_rfl)] at h
  obtain ⟨g, t, cs, fuel, p, hg, hty, hvar, hd⟩ := Lib.laidMet.reads h (n := "internal/strconv.uint64pow10") (d := Lib.tabData .u64 Lib.pow10Tab) (.tail _ (.tail _ (.head _)))
  obtain ⟨g', hg', hty'⟩ : ∃ g', Tryz.prog.globalNamed "internal/strconv.uint64pow10" = some g' ∧ (Tryz.prog.globals[g']?).map (·.type) = some 253 := ⟨2, by kernel_rfl, by kernel_rfl⟩
  obtain rfl := Option.some.inj (hg'.symm.trans hg)
  obtain rfl := Option.some.inj (hty'.symm.trans hty)
  have hcs := Lib.cells_of_tab Tryz.underlying253 Tryz.underlying195 (by kernel_rfl) (by kernel_rfl) hd
  unfold Tab Lib.TabIs
  rw [hvar, ← hcs]
section
variable {H : Type} {enc : TypeId × Value → H}
theorem change_and_shaped {a : Assume} {C : Checked} {os : Os} {f : FuncId} {fn : Func} {s : ChangeSpec} {conds : List PathCond} {apart fresh handsOn again : Bool} {X : World → Array Value → Prop}
    (hX : ∀ (w w' : World) (args : Array Value), w.heap = w'.heap → X w args → X w' args)
    (own : ownKnob C.prog.godebug = none) (started : os.Started) (noInit : C.prog.inits.idxOf? f = none) (hfn : C.prog.funcs[f]? = some fn)
    (witness : ∃ (w : World) (tape : Tape) (i : Input), w.os = os ∧ (w.forCall tape i).Shaped C.prog ∧ i.vars = [] ∧ Input.okWide C.prog (w.forCall tape i) .any w.heap.size f i ∧
      ((s.pre enc C.prog fn conds apart (w.forCall tape i).memory i.args ∧ X (w.forCall tape i).memory i.args) ∧ sizedMet enc C.prog fn (OpenSpec.ofChange s) apart (w.forCall tape i).memory i.args) ∧ a.holds C.prog (lone (Frame.enter C.prog f i.args .normal) [] (w.forCall tape i)))
    (contract : ∀ (W : World) (base : Nat) (args : Array Value) (ds gs : List (DataW H)) (before : List MemPlace),
      (∀ (j : Nat) t v, fn.params[j]? = some t → args[j]? = some v → Value.okWide C.prog W .any base t v) →
      DataW.Whole enc C.prog fn.params.toList s.vars apart W args.toList ds gs before →
      X W args → W.ShapedOpen C.prog →
      Calls C.prog f args W fun e W' => ∃ v, e = .returned v ∧ s.post enc C.prog fn apart fresh handsOn again W args v W') :
    ReturnsInHanded a C os f .any (fun w args => (s.pre enc C.prog fn conds apart w args ∧ X w args) ∧ sizedMet enc C.prog fn (OpenSpec.ofChange s) apart w args) (s.post enc C.prog fn apart fresh handsOn again) := by
  refine returnsInHanded_of_calls own started noInit witness ?_
  intro w tape i _ hsh _ hok hpre _
  obtain ⟨_, _, _, fn', hfn', _, _, _, _, hval⟩ := hok
  obtain rfl : fn' = fn := Option.some.inj (hfn'.symm.trans hfn)
  obtain ⟨⟨⟨ds, gs, before, hw, _⟩, hx⟩, _⟩ := hpre
  have hw' := DataW.Whole.of_heap (w' := w.forCall tape i) (by rfl) hw
  refine (contract (w.forCall tape i) w.heap.size i.args ds gs before hval hw' (hX _ _ _ (by rfl) hx) hsh).mono fun e W' ⟨v, he, hp⟩ => ?_
  subst he
  exact ChangeSpec.post_blind hp
end
section
variable {H : Type} {enc : TypeId × Value → H} {w : World} {base : Nat} {sp : Nat → Bool} {hd : Bool}
end
theorem cellsK_i8 : Tryz.prog.cellsOf 25 = 1 := by kernel_rfl
theorem cellsK_i8s : Tryz.prog.cellsOf 22 = 1 := by kernel_rfl
theorem cellsK_fr : Tryz.prog.cellsOf 28 = 2 := by kernel_rfl
section
variable {H : Type} {enc : TypeId × Value → H} {w : World} {base : Nat} {sp : Nat → Bool} {hd : Bool}
theorem i8_wf {x : Int} (wx : (Lit.int .i8 x).wf = true) : Rng8 x := by
  simp [Lit.wf, IntKind.min, IntKind.max, IntKind.signed, IntKind.bits] at wx
  exact ⟨by omega, by omega⟩
theorem elem_i8 {m : Nat} {cs : List Value} {y : DataW H × List MemPlace} (h : DataW.trod enc Tryz.prog w base sp hd m 25 cs = some y) : ∃ x : Int, cs = [.int .i8 x] ∧ Rng8 x := by
  obtain ⟨x, e, _, wx⟩ := DataW.trod_int Tryz.underlying25 h
  exact ⟨x, e, i8_wf wx⟩
theorem cell_slice {m : Nat} {t e : TypeId} {c : Value} {y : DataW H × List MemPlace} (ht : Tryz.prog.underlying t = some (.slice e)) (h : DataW.trod enc Tryz.prog w base sp hd m t [c] = some y) : ∃ a len cap, c = .slice a len cap := by
  rcases open_slice ht h with ⟨hcs, _⟩ | ⟨a, len, cap, _, _, _, _, hcs, _⟩
  · exact ⟨_, _, _, by simpa using hcs⟩
  · exact ⟨_, _, _, by simpa using hcs⟩
theorem open_i8s {v : Value} {d : DataW H} {p : List MemPlace} (hv : ∃ a len cap, v = .slice a len cap) (h : DataW.Trod enc Tryz.prog w base sp hd 22 v d p) : ∃ xs : List Int, SlV i8K w v xs ∧ ∀ x ∈ xs, Rng8 x :=
  open_slv (K := i8K) (Ok := Rng8) Tryz.underlying22 cellsK_i8 (fun _ _ _ _ hx => elem_i8 hx) hv h
theorem cell_i8s {m : Nat} {c : Value} {y : DataW H × List MemPlace} (h : DataW.trod enc Tryz.prog w base sp hd m 22 [c] = some y) : ∃ xs : List Int, SlV i8K w c xs ∧ ∀ x ∈ xs, Rng8 x := by
  obtain ⟨a, l, cp, rfl⟩ := cell_slice Tryz.underlying22 h
  exact open_i8s (d := y.1) (p := y.2) ⟨_, _, _, rfl⟩ ⟨m, h⟩
theorem SlV.len63 {α : Type} {K : EK α} {v : Value} {xs : List α} (h : SlV K w v xs) : xs.length ≤ 9223372036854775807 := by
  obtain ⟨p, c, rfl, hn⟩ := h.sh
  by_cases hx : xs = []
  · subst hx; exact Nat.zero_le _
  · obtain ⟨_, _, _, _, h1, h2⟩ := hn hx
    exact Nat.le_trans h1 h2
set_option maxRecDepth 100000 in
theorem elem_fr {m : Nat} {cs : List Value} {y : DataW H × List MemPlace} (hl : cs.length = 2) (h : DataW.trod enc Tryz.prog w base sp hd m 28 cs = some y) : ∃ x : Frc, cs = frC x ∧ x.Ok := by
  match cs, hl with
  | [c0, c1], _ =>
    obtain ⟨xs, n, _, rfl, _, hlen, hf⟩ := DataW.trod_struct Tryz.underlying28 h
    match xs, hlen with
    | [y0, y1], _ =>
      have h0 : DataW.trod enc Tryz.prog w base sp hd n 25 [c0] = some y0 := by simpa [cellsK_i8] using hf 0 _ rfl
      have h1 : DataW.trod enc Tryz.prog w base sp hd n 25 [c1] = some y1 := by simpa [cellsK_i8] using hf 1 _ rfl
      obtain ⟨a, e0, r0⟩ := elem_i8 h0
      obtain ⟨b, e1, r1⟩ := elem_i8 h1
      simp at e0 e1
      subst e0 e1
      exact ⟨⟨a, b⟩, rfl, r0, r1⟩
theorem open_frs {v : Value} {d : DataW H} {p : List MemPlace} (hv : ∃ a len cap, v = .slice a len cap) (h : DataW.Trod enc Tryz.prog w base sp hd 26 v d p) : ∃ xs : List Frc, SlV frK w v xs ∧ ∀ x ∈ xs, x.Ok :=
  open_slv (K := frK) (Ok := Frc.Ok) Tryz.underlying26 cellsK_fr (fun _ _ _ hl hx => elem_fr hl hx) hv h
set_option maxRecDepth 100000 in
theorem open_sm {b0 : Nat} {v : Value} {d : DataW H} {p : List MemPlace} (hv : Value.okWide Tryz.prog w .any b0 24 v) (h : DataW.Trod enc Tryz.prog w base sp hd 24 v d p) : ∃ s : Sm, SmV w v s ∧ s.Ok := by
  obtain ⟨cs, rfl, hsz⟩ := okWide_struct Tryz.underlying24 hv
  rw [show Tryz.prog.cellsOf 24 = 3 by kernel_rfl] at hsz
  obtain ⟨l⟩ := cs
  match l, hsz with
  | [c0, c1, c2], _ =>
  obtain ⟨fuel, hf⟩ := h
  obtain ⟨xs, n, _, _, _, hlen, hf⟩ := DataW.trod_struct Tryz.underlying24 hf
  match xs, hlen with
  | [y0, y1, y2], _ =>
  obtain ⟨c, k0, r0⟩ := cell_i8s (c := c0) (m := n) (y := y0) (by simpa [Value.cells, cellsK_i8s] using hf 0 _ rfl)
  obtain ⟨a, k1, r1⟩ := cell_i8s (c := c1) (m := n) (y := y1) (by simpa [Value.cells, cellsK_i8s] using hf 1 _ rfl)
  obtain ⟨b, k2, r2⟩ := cell_i8s (c := c2) (m := n) (y := y2) (by simpa [Value.cells, cellsK_i8s] using hf 2 _ rfl)
  obtain ⟨p0, e0, rfl, _⟩ := k0.sh
  obtain ⟨p1, e1, rfl, _⟩ := k1.sh
  obtain ⟨p2, e2, rfl, _⟩ := k2.sh
  exact ⟨⟨c, a, b⟩, ⟨⟨p0, 0, e0⟩, ⟨p1, 0, e1⟩, ⟨p2, 0, e2⟩, rfl, k0, k1, k2⟩, ⟨r0, r1, r2, k0.len63, k1.len63, k2.len63⟩⟩
end
theorem bas_of {W : World} (h : laidMetH Tryz.prog Rows.certificateCheckRow.laid W) (hs : W.ShapedOpen Tryz.prog) : Bas W := ⟨tab_of_laid h, Tryz.laysM145.s1_3 W hs⟩
end Go.Proofs.YtcdbgincfdejkaaGreatDoor
