/- The frame of a law's row: what came in reads again; a slice of calls, opened. -/
import Derived.Test.YtklkldnpgecajaaLaws
import Derived.Test.YtklkldnpgecajaaRows
import Derived.ProofKit
import Derived.OpenShut
import Derived.JoinedCond
import Derived.Lib.SmallJoins
import Derived.Deep.Slices
namespace Go.Proofs.Ytklkldnpgecajaa
open Go.ChangeShapes Go.WideShapes Go.ChangeAt Go.RowKit Go.Joins Go.Deep

theorem ownK : ownKnob Try.prog.godebug = none := by kernel_rfl
theorem laidOutK : laidOutB Try.prog = true := by kernel_rfl
theorem cellsK3 : Try.prog.cellsOf 3 = 1 := by kernel_rfl
theorem cellsK4 : Try.prog.cellsOf 4 = 1 := by kernel_rfl
theorem cellsK33 : Try.prog.cellsOf 33 = 1 := by kernel_rfl
theorem cellsK35 : Try.prog.cellsOf 35 = 2 := by kernel_rfl
theorem cellsK37 : Try.prog.cellsOf 37 = 3 := by kernel_rfl
theorem cellsK60 : Try.prog.cellsOf 60 = 4 := by kernel_rfl

/-- What came in reads again. -/
theorem reread {H : Type} {enc : TypeId × Value → H} {P : Program} (hl : laidOutB P = true) {W W' : World} (hb : Below W.heap.size W W') :
    ∀ {ts : List TypeId} {vs : List Value} {ds : List (DataW H)} {ps : List MemPlace}, (ts.all fun t => P.readableRec t && decide (t < P.types.size)) = true → DataW.TrodAll enc P W 0 (fun _ => true) true ts vs ds ps → (∀ x ∈ ps, x.block < W.heap.size) →
      DataW.TrodAll enc P W' 0 (fun b => decide (b < W.heap.size)) true ts vs ds ps
  | [], vs, ds, ps, _, h, _ => by
    obtain ⟨rfl, rfl, rfl⟩ := trodAll_nil h
    exact trodAll_mk0
  | t :: ts, vs, ds, ps, ha, h, hlt => by
    obtain ⟨v, vs', d, ds', p, q, rfl, rfl, rfl, h1, h2⟩ := trodAll_cons h
    simp only [List.all_cons, Bool.and_eq_true, decide_eq_true_eq] at ha
    exact trodAll_cons_mk (Below.trod hl ha.1.1 ha.1.2 h1 hb fun x hx => hlt x (List.mem_append_left _ hx)) (reread hl hb (by simpa using ha.2) h2 fun x hx => hlt x (List.mem_append_right _ hx))

/-- The end of a law's row: it returned true and left the old memory as it was. -/
theorem law_post {H : Type} {enc : TypeId × Value → H} {fn : Func} {s : ChangeSpec} {W W' : World} {args : Array Value} {ds gs : List (DataW H)} {p q : List MemPlace} (hs : s.fn H (ds ++ gs) = { results := [.lit (.bool true)], args := ds }) (hvars : s.vars = [])
    (hres : fn.resultTypes = #[4]) (hts : (fn.params.toList.all fun t => Try.prog.readableRec t && decide (t < Try.prog.types.size)) = true)
    (hW : DataW.Whole enc Try.prog fn.params.toList s.vars false W args.toList ds gs (p ++ q)) (hA : DataW.TrodAll enc Try.prog W 0 (fun _ => true) true fn.params.toList args.toList ds p) (hB : Below W.heap.size W W') :
    s.post enc Try.prog fn false true false false W args (.bool true) W' := by
  refine ⟨ds, gs, p ++ q, [], p, [], hW, ?_, ?_, ?_, hB.frame _, fun h => by cases h⟩
  · rw [hs, hres]
    exact trodAll_cons_mk (p := []) (shut_bool Try.underlying4 _) trodAll_mk0
  · rw [hs]
    exact reread laidOutK hB hts hA fun x hx => hW.lt x (List.mem_append_left _ hx)
  · rw [hs, hvars]; rfl

section
variable {H : Type} {enc : TypeId × Value → H} {w : World} {base : Nat} {sp : Nat → Bool} {hd : Bool}
theorem u32_wf {a : Int} (h : (Lit.int .u32 a).wf = true) : ∃ k : Nat, a = (k : Int) ∧ W32 k := by
  refine ⟨a.toNat, ?_, ?_⟩
  · simp [Lit.wf, IntKind.min, IntKind.max, IntKind.signed, IntKind.bits] at h; omega
  · unfold W32; simp [Lit.wf, IntKind.min, IntKind.max, IntKind.signed, IntKind.bits] at h; omega
/-- A prefix, by value. -/
theorem open_pfx {v : Value} {d : DataW H} {p : List MemPlace} (hv : ∃ cs : Array Value, v = .agg cs ∧ cs.size = 2) (h : DataW.Trod enc Try.prog w base sp hd 35 v d p) : ∃ (a : Nat) (n : Int), v = .agg #[.int .u32 (a : Int), .int .i64 n] ∧ W32 a := by
  obtain ⟨cs, rfl, hsz⟩ := hv
  obtain ⟨l⟩ := cs
  match l, hsz with
  | [c0, c1], _ =>
    obtain ⟨fuel, hf⟩ := h
    obtain ⟨y0, y1, n, hx, _, h0, h1⟩ := trod_struct2 Try.underlying35 hf
    have h0' : DataW.trod enc Try.prog w base sp hd n 33 [c0] = some y0 := by simpa [cellsK33, Value.cells] using h0
    have h1' : DataW.trod enc Try.prog w base sp hd n 3 [c1] = some y1 := by simpa [cellsK3, Value.cells] using h1
    obtain ⟨a, e0, _, w0⟩ := DataW.trod_int Try.underlying33 h0'
    obtain ⟨n, e1, _, w1⟩ := DataW.trod_int Try.underlying3 h1'
    simp at e0 e1
    subst e0 e1
    obtain ⟨k, rfl, hk⟩ := u32_wf w0
    exact ⟨k, n, rfl, hk⟩
/-- A call's four cells. -/
theorem elem_op {n : Nat} {cs : List Value} {x : DataW H × List MemPlace} (hlen : cs.length = 4) (h : DataW.trod enc Try.prog w base sp hd n 60 cs = some x) : ∃ o : Op, W32 o.a ∧ cs = [.bool o.rm, .int .u32 (o.a : Int), .int .i64 o.n, .int .i64 o.v] := by
  match cs, hlen with
  | [c0, c1, c2, c3], _ =>
    obtain ⟨y0, y1, n, hx, _, h0, h1⟩ := trod_struct2 Try.underlying60 h
    have h0' : DataW.trod enc Try.prog w base sp hd n 4 [c0] = some y0 := by simpa [cellsK4] using h0
    have h1' : DataW.trod enc Try.prog w base sp hd n 37 [c1, c2, c3] = some y1 := by simpa [cellsK37] using h1
    obtain ⟨y2, y3, n', _, _, h2, h3⟩ := trod_struct2 Try.underlying37 h1'
    have h2' : DataW.trod enc Try.prog w base sp hd n' 35 [c1, c2] = some y2 := by simpa [cellsK35] using h2
    have h3' : DataW.trod enc Try.prog w base sp hd n' 3 [c3] = some y3 := by simpa [cellsK3] using h3
    obtain ⟨y4, y5, n'', _, _, h4, h5⟩ := trod_struct2 Try.underlying35 h2'
    have h4' : DataW.trod enc Try.prog w base sp hd n'' 33 [c1] = some y4 := by simpa [cellsK33] using h4
    have h5' : DataW.trod enc Try.prog w base sp hd n'' 3 [c2] = some y5 := by simpa [cellsK3] using h5
    obtain ⟨b, e0, _⟩ := DataW.trod_bool Try.underlying4 h0'
    obtain ⟨a, e1, _, w1⟩ := DataW.trod_int Try.underlying33 h4'
    obtain ⟨m, e2, _, w2⟩ := DataW.trod_int Try.underlying3 h5'
    obtain ⟨u, e3, _, w3⟩ := DataW.trod_int Try.underlying3 h3'
    simp at e0 e1 e2 e3
    subst e0 e1 e2 e3
    obtain ⟨k, rfl, hk⟩ := u32_wf w1
    exact ⟨⟨b, k, m, u⟩, hk, rfl⟩
instance : Inhabited Op := ⟨⟨false, 0, 0, 0⟩⟩
/-- A slice of calls. -/
theorem open_ops {t : TypeId} (ht : Try.prog.underlying t = some (.slice 60)) {v : Value} {d : DataW H} {p : List MemPlace} (hv : ∃ a len cap, v = .slice a len cap) (h : DataW.Trod enc Try.prog w base sp hd t v d p) : ∃ ops : List Op, OpsV w v ops ∧ ∀ o ∈ ops, W32 o.a := by
  obtain ⟨a0, len0, cap0, rfl⟩ := hv
  obtain ⟨fuel, hf⟩ := h
  rcases open_slice ht hf with ⟨hcs, _⟩ | ⟨a, len, cap, m, n, D, Pl, hcs, _, hl, hm, hmm, hx, hi⟩
  · simp [Value.cells] at hcs
    obtain ⟨rfl, rfl, rfl⟩ := hcs
    exact ⟨[], .inl ⟨rfl, _, _, rfl⟩, fun _ h => by cases h⟩
  · simp [Value.cells] at hcs
    obtain ⟨rfl, rfl, rfl⟩ := hcs
    have hlm : len0 ≤ m := by rw [hmm]; split <;> omega
    by_cases h0 : len0 = 0
    · subst h0
      exact ⟨[], .inl ⟨rfl, _, _, rfl⟩, fun _ h => by cases h⟩
    have each : ∀ i, i < len0 → ∃ o : Op, W32 o.a ∧ w.cell? (a.add (i * 4)) = some (.bool o.rm) ∧ w.cell? (a.add (i * 4 + 1)) = some (.int .u32 (o.a : Int)) ∧ w.cell? (a.add (i * 4 + 2)) = some (.int .i64 o.n) ∧ w.cell? (a.add (i * 4 + 3)) = some (.int .i64 o.v) := fun i hil => by
      obtain ⟨cs', hc, ht'⟩ := hi i (by omega)
      rw [cellsK60] at hc
      obtain ⟨_, hcl, hat⟩ := World.cells?_some hc
      obtain ⟨o, ho, rfl⟩ := elem_op hcl ht'
      refine ⟨o, ho, ?_, ?_, ?_, ?_⟩
      · have := hat 0 (by omega); rw [add_add] at this; simpa using this
      · have := hat 1 (by omega); rw [add_add] at this; simpa using this
      · have := hat 2 (by omega); rw [add_add] at this; simpa using this
      · have := hat 3 (by omega); rw [add_add] at this; simpa using this
    obtain ⟨f, hf⟩ := choose_lt each
    obtain ⟨b, off, spot⟩ := a
    have hspot : spot = none := by
      have := World.cell?_spot (hf 0 (by omega)).2.1
      simpa [Addr.add] using this
    subst hspot
    have he : ∀ k, (⟨b, off, none⟩ : Addr).add k = ⟨b, off + k, none⟩ := fun k => by unfold Addr.add; split <;> simp_all
    refine ⟨(List.range len0).map f, .inr ⟨b, off, cap0, by simp, ⟨?_, fun k hk => ?_, fun k hk => ?_, fun k hk => ?_, fun k hk => ?_⟩⟩, fun o ho => ?_⟩
    · have := (hf 0 (by omega)).2.1
      rw [he] at this
      unfold World.cell? at this
      refine Nat.lt_of_not_le fun hge => ?_
      rw [Array.getElem?_eq_none hge] at this
      cases this
    · simp only [List.length_map, List.length_range] at hk
      have := (hf k hk).2.1; rw [he] at this; simpa using this
    · simp only [List.length_map, List.length_range] at hk
      have := (hf k hk).2.2.1; rw [he] at this; simpa [Nat.add_assoc] using this
    · simp only [List.length_map, List.length_range] at hk
      have := (hf k hk).2.2.2.1; rw [he] at this; simpa [Nat.add_assoc] using this
    · simp only [List.length_map, List.length_range] at hk
      have := (hf k hk).2.2.2.2; rw [he] at this; simpa [Nat.add_assoc] using this
    · obtain ⟨i, hi, rfl⟩ := List.mem_map.1 ho
      exact (hf i (List.mem_range.1 hi)).1
end

end Go.Proofs.Ytklkldnpgecajaa
