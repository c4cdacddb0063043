/- The frame of a law's row of this seat: what came in reads again; topologies and rows, opened. -/
import Derived.Test.YtokhapaffleffaaDsZ
import Derived.Test.YtokhapaffleffaaRowX
import Derived.Test.YtokhapaffleffaaRows
import Derived.ProofKit
import Derived.OpenShut
import Derived.JoinedCond
import Derived.Lib.SmallJoins
import Derived.Deep.Slices
namespace Go.Proofs.Ytokhapaffleffaa
open Go.ChangeShapes Go.WideShapes Go.ChangeAt Go.RowKit Go.Joins Go.Deep
theorem ownK : ownKnob Try.prog.godebug = none := by kernel_rfl
theorem laidOutK : laidOutB Try.prog = true := by kernel_rfl
theorem cellsK_int : Try.prog.cellsOf 3 = 1 := by kernel_rfl
theorem cellsK_bool : Try.prog.cellsOf 4 = 1 := by kernel_rfl
theorem cellsK_two : Try.prog.cellsOf 26 = 2 := by kernel_rfl
theorem cellsK_lnk : Try.prog.cellsOf 38 = 7 := by kernel_rfl
theorem cellsK_bs : Try.prog.cellsOf 22 = 1 := by kernel_rfl
theorem cellsK_ls : Try.prog.cellsOf 23 = 1 := by kernel_rfl
theorem reread {H : Type} {enc : TypeId × Value → H} {P : Program} (hl : laidOutB P = true) {W W' : World} (hb : Below W.heap.size W W') :
    ∀ {ts : List TypeId} {vs : List Value} {ds : List (DataW H)} {ps : List MemPlace}, (ts.all fun t => P.readableRec t && decide (t < P.types.size)) = true → DataW.TrodAll enc P W 0 (fun _ => true) true ts vs ds ps → (∀ x ∈ ps, x.block < W.heap.size) →
      DataW.TrodAll enc P W' 0 (fun b => decide (b < W.heap.size)) true ts vs ds ps
  | [], vs, ds, ps, _, h, _ => by
    obtain ⟨rfl, rfl, rfl⟩ := trodAll_nil h
    exact trodAll_mk0
  | t :: ts, vs, ds, ps, ha, h, hlt => by
    obtain ⟨v, vs', d, ds', p, q, rfl, rfl, rfl, h1, h2⟩ := trodAll_cons h
    simp only [List.all_cons, Bool.and_eq_true, decide_eq_true_eq] at ha
    exact trodAll_cons_mk (Below.trod hl ha.1.1 ha.1.2 h1 hb fun x hx => hlt x (List.mem_append_left _ hx)) (reread hl hb (by simpa using ha.2) h2 fun x hx => hlt x (List.mem_append_right _ hx))
theorem law_post {H : Type} {enc : TypeId × Value → H} {fn : Func} {s : ChangeSpec} {W W' : World} {args : Array Value} {ds gs : List (DataW H)} {p q : List MemPlace} (hs : s.fn H (ds ++ gs) = { results := [.lit (.bool true)], args := ds }) (hvars : s.vars = [])
    (hres : fn.resultTypes = #[4]) (hts : (fn.params.toList.all fun t => Try.prog.readableRec t && decide (t < Try.prog.types.size)) = true)
    (hW : DataW.Whole enc Try.prog fn.params.toList s.vars false W args.toList ds gs (p ++ q)) (hA : DataW.TrodAll enc Try.prog W 0 (fun _ => true) true fn.params.toList args.toList ds p) (hB : Below W.heap.size W W') :
    s.post enc Try.prog fn false true false false W args (.bool true) W' := by
  refine ⟨ds, gs, p ++ q, [], p, [], hW, ?_, ?_, ?_, hB.frame _, fun h => by cases h⟩
  · rw [hs, hres]
    exact trodAll_cons_mk (p := []) (shut_bool Try.underlying4 _) trodAll_mk0
  · rw [hs]
    exact reread laidOutK hB hts hA fun x hx => hW.lt x (List.mem_append_left _ hx)
  · rw [hs, hvars]; rfl
section
variable {H : Type} {enc : TypeId × Value → H} {w : World} {base : Nat} {sp : Nat → Bool} {hd : Bool}
theorem i64_wf {x : Int} (wx : (Lit.int .i64 x).wf = true) : -9223372036854775808 ≤ x ∧ x ≤ 9223372036854775807 := by
  simpa [Lit.wf, IntKind.min, IntKind.max, IntKind.signed, IntKind.bits] using wx
theorem elem_int {m : Nat} {cs : List Value} {y : DataW H × List MemPlace} (h : DataW.trod enc Try.prog w base sp hd m 3 cs = some y) : ∃ x : Int, cs = [.int .i64 x] ∧ x ≤ 9223372036854775807 := by
  obtain ⟨x, e, _, wx⟩ := DataW.trod_int Try.underlying3 h
  exact ⟨x, e, (i64_wf wx).2⟩
theorem open_bools {v : Value} {d : DataW H} {p : List MemPlace} (hv : ∃ a len cap, v = .slice a len cap) (h : DataW.Trod enc Try.prog w base sp hd 22 v d p) : ∃ xs : List Bool, ∃ q n c, v = .slice q n c ∧ SlV boolK w (.slice q n c) xs := by
  obtain ⟨a, l, c, rfl⟩ := hv
  obtain ⟨xs, h1, _⟩ := open_slv (K := boolK) (Ok := fun _ => True) Try.underlying22 cellsK_bool (fun _ _ _ _ hx => by obtain ⟨x, e, _⟩ := DataW.trod_bool Try.underlying4 hx; exact ⟨x, e, trivial⟩) ⟨_, _, _, rfl⟩ h
  exact ⟨xs, _, _, _, rfl, h1⟩
set_option maxRecDepth 100000 in
theorem elem_lnk {m : Nat} {cs : List Value} {y : DataW H × List MemPlace} (hl : cs.length = 7) (h : DataW.trod enc Try.prog w base sp hd m 38 cs = some y) : ∃ x : LnkD, cs = lnkC x := by
  match cs, hl with
  | [c0, c1, c2, c3, c4, c5, c6], _ =>
    obtain ⟨xs, n, _, rfl, _, hlen, hf⟩ := DataW.trod_struct Try.underlying38 h
    match xs, hlen with
    | [y0, y1, y2, y3, y4, y5], _ =>
      have h0 : DataW.trod enc Try.prog w base sp hd n 3 [c0] = some y0 := by simpa [cellsK_int, cellsK_two] using hf 0 _ rfl
      have h1 : DataW.trod enc Try.prog w base sp hd n 3 [c1] = some y1 := by simpa [cellsK_int, cellsK_two] using hf 1 _ rfl
      have h2 : DataW.trod enc Try.prog w base sp hd n 26 [c2, c3] = some y2 := by simpa [cellsK_int, cellsK_two] using hf 2 _ rfl
      have h3 : DataW.trod enc Try.prog w base sp hd n 3 [c4] = some y3 := by simpa [cellsK_int, cellsK_two] using hf 3 _ rfl
      have h4 : DataW.trod enc Try.prog w base sp hd n 3 [c5] = some y4 := by simpa [cellsK_int, cellsK_two] using hf 4 _ rfl
      have h5 : DataW.trod enc Try.prog w base sp hd n 3 [c6] = some y5 := by simpa [cellsK_int, cellsK_two] using hf 5 _ rfl
      obtain ⟨zs, m2, _, _, _, hz, hi⟩ := DataW.trod_array Try.underlying26 h2
      match zs, hz with
      | [z0, z1], _ =>
        have g0 : DataW.trod enc Try.prog w base sp hd m2 3 [c2] = some z0 := by simpa [cellsK_int] using hi 0 (by decide)
        have g1 : DataW.trod enc Try.prog w base sp hd m2 3 [c3] = some z1 := by simpa [cellsK_int] using hi 1 (by decide)
        obtain ⟨a, e0, _⟩ := elem_int h0
        obtain ⟨b, e1, _⟩ := elem_int h1
        obtain ⟨c, e2, _⟩ := elem_int g0
        obtain ⟨d, e3, _⟩ := elem_int g1
        obtain ⟨e, e4, _⟩ := elem_int h3
        obtain ⟨f, e5, _⟩ := elem_int h4
        obtain ⟨g, e6, _⟩ := elem_int h5
        simp at e0 e1 e2 e3 e4 e5 e6
        subst e0 e1 e2 e3 e4 e5 e6
        exact ⟨⟨a, b, c, d, e, f, g⟩, rfl⟩
theorem open_lnks {v : Value} {d : DataW H} {p : List MemPlace} (hv : ∃ a len cap, v = .slice a len cap) (h : DataW.Trod enc Try.prog w base sp hd 23 v d p) : ∃ xs : List LnkD, SlV lnkK w v xs := by
  obtain ⟨xs, h1, _⟩ := open_slv (K := lnkK) (Ok := fun _ => True) Try.underlying23 cellsK_lnk (fun _ _ _ hl hx => by obtain ⟨x, e⟩ := elem_lnk hl hx; exact ⟨x, e, trivial⟩) hv h
  exact ⟨xs, h1⟩
theorem cell_slice {m : Nat} {t e : TypeId} {c : Value} {y : DataW H × List MemPlace} (ht : Try.prog.underlying t = some (.slice e)) (h : DataW.trod enc Try.prog w base sp hd m t [c] = some y) : ∃ a len cap, c = .slice a len cap := by
  rcases open_slice ht h with ⟨hcs, _⟩ | ⟨a, len, cap, _, _, _, _, hcs, _⟩
  · exact ⟨_, _, _, by simpa using hcs⟩
  · exact ⟨_, _, _, by simpa using hcs⟩
set_option maxRecDepth 100000 in
theorem open_top {b0 : Nat} {v : Value} {d : DataW H} {p : List MemPlace} (hv : Value.okWide Try.prog w .any b0 25 v) (h : DataW.Trod enc Try.prog w base sp hd 25 v d p) : ∃ t : TopD, TopV w v t := by
  obtain ⟨cs, rfl, hsz⟩ := okWide_struct Try.underlying25 hv
  rw [show Try.prog.cellsOf 25 = 3 by kernel_rfl] at hsz
  obtain ⟨l⟩ := cs
  match l, hsz with
  | [c0, c1, c2], _ =>
  obtain ⟨fuel, hf⟩ := h
  obtain ⟨xs, n, _, _, _, hlen, hf⟩ := DataW.trod_struct Try.underlying25 hf
  match xs, hlen with
  | [y0, y1, y2], _ =>
  have h0 : DataW.trod enc Try.prog w base sp hd n 3 [c0] = some y0 := by simpa [Value.cells, cellsK_int, cellsK_bs, cellsK_ls] using hf 0 _ rfl
  have h1 : DataW.trod enc Try.prog w base sp hd n 22 [c1] = some y1 := by simpa [Value.cells, cellsK_int, cellsK_bs, cellsK_ls] using hf 1 _ rfl
  have h2 : DataW.trod enc Try.prog w base sp hd n 23 [c2] = some y2 := by simpa [Value.cells, cellsK_int, cellsK_bs, cellsK_ls] using hf 2 _ rfl
  obtain ⟨x, e0, _⟩ := elem_int h0
  obtain ⟨a1, l1, p1, rfl⟩ := cell_slice Try.underlying22 h1
  obtain ⟨a2, l2, p2, rfl⟩ := cell_slice Try.underlying23 h2
  obtain ⟨ov, q, m, c, e1, k1⟩ := open_bools (d := y1.1) (p := y1.2) ⟨_, _, _, rfl⟩ ⟨n, h1⟩
  obtain ⟨ls, k2⟩ := open_lnks (d := y2.1) (p := y2.2) ⟨_, _, _, rfl⟩ ⟨n, h2⟩
  simp at e0
  subst e0
  rw [← e1] at k1
  exact ⟨⟨x, ov, ls⟩, _, _, _, _, _, _, rfl, k1, k2⟩
set_option maxRecDepth 100000 in
theorem open_pair {b0 : Nat} {v : Value} {d : DataW H} {p : List MemPlace} (hv : Value.okWide Try.prog w .any b0 26 v) (h : DataW.Trod enc Try.prog w base sp hd 26 v d p) : ∃ s d : Int, v = .agg #[.int .i64 s, .int .i64 d] := by
  simp only [Value.okWide, Try.underlying26] at hv
  obtain ⟨cs, rfl, hsz, _⟩ := hv
  obtain ⟨fuel, hf⟩ := h
  obtain ⟨xs, m, _, _, hl, hlen, hi⟩ := DataW.trod_array Try.underlying26 hf
  obtain ⟨l⟩ := cs
  have hc : l.length = 2 := by simpa [cellsK_two] using hsz
  match l, hc, xs, hlen with
  | [c0, c1], _, [y0, y1], _ =>
    have h0 : DataW.trod enc Try.prog w base sp hd m 3 [c0] = some y0 := by simpa [cellsK_int, Value.cells] using hi 0 (by decide)
    have h1 : DataW.trod enc Try.prog w base sp hd m 3 [c1] = some y1 := by simpa [cellsK_int, Value.cells] using hi 1 (by decide)
    obtain ⟨a, e0, _⟩ := elem_int h0
    obtain ⟨b, e1, _⟩ := elem_int h1
    simp at e0 e1
    subst e0 e1
    exact ⟨a, b, rfl⟩
end
end Go.Proofs.Ytokhapaffleffaa
