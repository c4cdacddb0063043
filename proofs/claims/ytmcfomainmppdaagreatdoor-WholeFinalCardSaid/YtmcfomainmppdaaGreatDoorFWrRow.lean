/- A slice that is handed in reads as a list, if each of its elements does as one. The frame of a law's row of this seat. -/
import Derived.Test.YtmcfomainmppdaaGreatDoorFRowG
import Derived.ChangeMaps5
import Derived.ProofKit
import Derived.OpenShut
import Derived.Lib.LaidTab
import Derived.Deep.Slices
import Derived.Test.YtmcfomainmppdaaGreatDoorFDsC
import Derived.Test.YtmcfomainmppdaaGreatDoorRows
import Derived.Test.YtmcfomainmppdaaGreatDoorTie
import Derived.JoinedCond
import Derived.LaidMore
import Derived.Lay
import Derived.SevenTiedAt
import Derived.Stop.Joined
import Derived.Lib.LaidU8
import Derived.Lib.SmallJoins
import Derived.LaidLaws
namespace Go.Proofs.YtmcfomainmppdaaGreatDoor
open Go.RowKit Go.ChangeShapes Go.WideShapes Go.ChangeAt Go.Deep
section
variable {α H : Type} {enc : TypeId × Value → H} {P : Program} {w : World} {base : Nat} {sp : Nat → Bool} {hd : Bool}
theorem open_slv {K : EK α} {t e : TypeId} {Ok : α → Prop} (ht : P.underlying t = some (.slice e)) (hsz : P.cellsOf e = K.sz)
    (hel : ∀ (cs : List Value) (m : Nat) (y : DataW H × List MemPlace), cs.length = K.sz → DataW.trod enc P w base sp hd m e cs = some y → ∃ x, K.R w cs x ∧ Ok x)
    {v : Value} {d : DataW H} {p : List MemPlace} (hv : ∃ a len cap, v = .slice a len cap) (h : DataW.Trod enc P w base sp hd t v d p) : ∃ xs : List α, SlV K w v xs ∧ ∀ x ∈ xs, Ok x := by
  obtain ⟨a0, len0, cap0, rfl⟩ := hv
  obtain ⟨fuel, hf⟩ := h
  rcases open_slice ht hf with ⟨hcs, _⟩ | ⟨a, len, cap, m, n, D, Pl, hcs, _, hl, hm, hmm, hx, hi⟩
  · simp [Value.cells] at hcs
    obtain ⟨rfl, rfl, rfl⟩ := hcs
    exact ⟨[], .nil, fun _ h => by cases h⟩
  · simp [Value.cells] at hcs
    obtain ⟨rfl, rfl, rfl⟩ := hcs
    have hlm : len0 ≤ m := by rw [hmm]; split <;> omega
    by_cases h0 : len0 = 0
    · subst h0
      exact ⟨[], .nil, fun _ h => by cases h⟩
    have each : ∀ i, i < len0 → ∃ q : List Value × α, K.R w q.1 q.2 ∧ Ok q.2 ∧ ∀ j, j < K.sz → w.cell? ((a.add (i * K.sz)).add j) = q.1[j]? := fun i hil => by
      obtain ⟨cs', hc, ht'⟩ := hi i (by omega)
      rw [hsz] at hc
      obtain ⟨_, hcl, hat⟩ := World.cells?_some hc
      obtain ⟨x, h1, h2⟩ := hel cs' _ _ hcl ht'
      exact ⟨(cs', x), h1, h2, hat⟩
    haveI : Inhabited (List Value × α) := ⟨(each 0 (by omega)).choose⟩
    obtain ⟨f, hf⟩ := choose_lt each
    obtain ⟨b, off, spot⟩ := a
    have hp := K.pos
    have hfl := fun i (hil : i < len0) => K.len (hf i hil).1
    have hspot : spot = none := by
      have h1 := (hf 0 (by omega)).2.2 0 hp
      have h2 : (f 0).1[0]? = some ((f 0).1[0]'(by rw [hfl 0 (by omega)]; exact hp)) := List.getElem?_eq_getElem _
      have := World.cell?_spot (h1.trans h2)
      simpa [Addr.add] using this
    subst hspot
    have he : ∀ k o, (⟨b, o, none⟩ : Addr).add k = ⟨b, o + k, none⟩ := fun k o => by unfold Addr.add; split <;> simp_all
    refine ⟨(List.range len0).map fun i => (f i).2, ⟨(List.range len0).map fun i => (f i).1, ⟨by simp, fun k cs x h1 h2 => ?_⟩, .inr ⟨b, off, cap0, by simp, ?_, by simpa using hl, by simpa [maxLen] using hm, fun k cs j u h1 h2 => ?_⟩⟩, fun x hx => ?_⟩
    · have hk : k < len0 := by
        have := (List.getElem?_eq_some_iff.1 h1).1
        simpa using this
      simp [hk] at h1 h2
      subst h1; subst h2
      exact (hf k hk).1
    · have h1 := (hf 0 (by omega)).2.2 0 hp
      have h2 : (f 0).1[0]? = some ((f 0).1[0]'(by rw [hfl 0 (by omega)]; exact hp)) := List.getElem?_eq_getElem _
      rw [he, he] at h1
      exact World.block_lt_of_cell? w _ (h1.trans h2)
    · have hk : k < len0 := by
        have := (List.getElem?_eq_some_iff.1 h1).1
        simpa using this
      simp [hk] at h1
      subst h1
      have hj : j < K.sz := (hfl k hk) ▸ (List.getElem?_eq_some_iff.1 h2).1
      have h3 := (hf k hk).2.2 j hj
      rw [he, he] at h3
      exact h3.trans h2
    · obtain ⟨k, hk, rfl⟩ := List.mem_map.1 hx
      exact (hf k (List.mem_range.1 hk)).2.1
end
end Go.Proofs.YtmcfomainmppdaaGreatDoor
namespace Go.Proofs.YtmcfomainmppdaaGreatDoor
open Go.ChangeShapes Go.WideShapes Go.ChangeAt Go.RowKit Go.Joins Go.Deep
theorem ownK : ownKnob Tryz.prog.godebug = none := by kernel_rfl
theorem laidOutK : laidOutB Tryz.prog = true := by kernel_rfl
theorem reread {H : Type} {enc : TypeId × Value → H} {P : Program} (hl : laidOutB P = true) {W W' : World} (hb : Below W.heap.size W W') :
    ∀ {ts : List TypeId} {vs : List Value} {ds : List (DataW H)} {ps : List MemPlace}, (ts.all fun t => P.readableRec t && decide (t < P.types.size)) = true → DataW.TrodAll enc P W 0 (fun _ => true) true ts vs ds ps → (∀ x ∈ ps, x.block < W.heap.size) →
      DataW.TrodAll enc P W' 0 (fun b => decide (b < W.heap.size)) true ts vs ds ps
  | [], vs, ds, ps, _, h, _ => by
    obtain ⟨rfl, rfl, rfl⟩ := trodAll_nil h
    exact trodAll_mk0
  | t :: ts, vs, ds, ps, ha, h, hlt => by
    obtain ⟨v, vs', d, ds', p, q, rfl, rfl, rfl, h1, h2⟩ := trodAll_cons h
    simp only [List.all_cons, Bool.and_eq_true, decide_eq_true_eq] at ha
    exact trodAll_cons_mk (Below.trod hl ha.1.1 ha.1.2 h1 hb fun x hx => hlt x (List.mem_append_left _ hx)) (reread hl hb (by simpa using ha.2) h2 fun x hx => hlt x (List.mem_append_right _ hx))
theorem law_post {H : Type} {enc : TypeId × Value → H} {fn : Func} {s : ChangeSpec} {W W' : World} {args : Array Value} {ds gs : List (DataW H)} {p q : List MemPlace} (hs : s.fn H (ds ++ gs) = { results := [.lit (.bool true)], args := ds }) (hvars : s.vars = [])
    (hres : fn.resultTypes = #[4]) (hts : (fn.params.toList.all fun t => Tryz.prog.readableRec t && decide (t < Tryz.prog.types.size)) = true)
    (hW : DataW.Whole enc Tryz.prog fn.params.toList s.vars false W args.toList ds gs (p ++ q)) (hA : DataW.TrodAll enc Tryz.prog W 0 (fun _ => true) true fn.params.toList args.toList ds p) (hB : Below W.heap.size W W') :
    s.post enc Tryz.prog fn false true false false W args (.bool true) W' := by
  refine ⟨ds, gs, p ++ q, [], p, [], hW, ?_, ?_, ?_, hB.frame _, fun h => by cases h⟩
  · rw [hs, hres]
    exact trodAll_cons_mk (p := []) (shut_bool Tryz.underlying4 _) trodAll_mk0
  · rw [hs]
    exact reread laidOutK hB hts hA fun x hx => hW.lt x (List.mem_append_left _ hx)
  · rw [hs, hvars]; rfl
section
variable {H : Type} {enc : TypeId × Value → H}
theorem change_and_shaped {a : Assume} {C : Checked} {os : Os} {f : FuncId} {fn : Func} {s : ChangeSpec} {conds : List PathCond} {apart fresh handsOn again : Bool} {X : World → Array Value → Prop}
    (hX : ∀ (w w' : World) (args : Array Value), w.heap = w'.heap → X w args → X w' args)
    (own : ownKnob C.prog.godebug = none) (started : os.Started) (noInit : C.prog.inits.idxOf? f = none) (hfn : C.prog.funcs[f]? = some fn)
    (witness : ∃ (w : World) (tape : Tape) (i : Input), w.os = os ∧ (w.forCall tape i).Shaped C.prog ∧ i.vars = [] ∧ Input.okWide C.prog (w.forCall tape i) .any w.heap.size f i ∧
      ((s.pre enc C.prog fn conds apart (w.forCall tape i).memory i.args ∧ X (w.forCall tape i).memory i.args) ∧ sizedMet enc C.prog fn (OpenSpec.ofChange s) apart (w.forCall tape i).memory i.args) ∧ a.holds C.prog (lone (Frame.enter C.prog f i.args .normal) [] (w.forCall tape i)))
    (contract : ∀ (W : World) (base : Nat) (args : Array Value) (ds gs : List (DataW H)) (before : List MemPlace),
      (∀ (j : Nat) t v, fn.params[j]? = some t → args[j]? = some v → Value.okWide C.prog W .any base t v) →
      DataW.Whole enc C.prog fn.params.toList s.vars apart W args.toList ds gs before →
      X W args → W.ShapedOpen C.prog →
      Calls C.prog f args W fun e W' => ∃ v, e = .returned v ∧ s.post enc C.prog fn apart fresh handsOn again W args v W') :
    ReturnsInHanded a C os f .any (fun w args => (s.pre enc C.prog fn conds apart w args ∧ X w args) ∧ sizedMet enc C.prog fn (OpenSpec.ofChange s) apart w args) (s.post enc C.prog fn apart fresh handsOn again) := by
  refine returnsInHanded_of_calls own started noInit witness ?_
  intro w tape i _ hsh _ hok hpre _
  obtain ⟨_, _, _, fn', hfn', _, _, _, _, hval⟩ := hok
  obtain rfl : fn' = fn := Option.some.inj (hfn'.symm.trans hfn)
  obtain ⟨⟨⟨ds, gs, before, hw, _⟩, hx⟩, _⟩ := hpre
  have hw' := DataW.Whole.of_heap (w' := w.forCall tape i) (by rfl) hw
  refine (contract (w.forCall tape i) w.heap.size i.args ds gs before hval hw' (hX _ _ _ (by rfl) hx) hsh).mono fun e W' ⟨v, he, hp⟩ => ?_
  subst he
  exact ChangeSpec.post_blind hp
end
section
variable {H : Type} {enc : TypeId × Value → H} {w : World} {base : Nat} {sp : Nat → Bool} {hd : Bool}
set_option maxRecDepth 100000 in
theorem open_u8 {b0 : Nat} {v : Value} {d : DataW H} {p : List MemPlace} (hv : Value.okWide Tryz.prog w .any b0 5 v) (h : DataW.Trod enc Tryz.prog w base sp hd 5 v d p) : ∃ x : Nat, v = .int .u8 (x : Int) ∧ x < 256 := by
  obtain ⟨x, rfl, _, _, wx⟩ := open_int Tryz.underlying5 hv h
  have hz : 0 ≤ x ∧ x < 256 := by simp [Lit.wf, IntKind.min, IntKind.max, IntKind.signed, IntKind.bits] at wx; omega
  exact ⟨x.toNat, by rw [Int.toNat_of_nonneg hz.1], by omega⟩
end
theorem cellsK_int : Tryz.prog.cellsOf 3 = 1 := by kernel_rfl
theorem cellsK_bool : Tryz.prog.cellsOf 4 = 1 := by kernel_rfl
theorem cellsK_two : Tryz.prog.cellsOf 57 = 2 := by kernel_rfl
theorem cellsK_lnk : Tryz.prog.cellsOf 59 = 7 := by kernel_rfl
theorem cellsK_bs : Tryz.prog.cellsOf 22 = 1 := by kernel_rfl
theorem cellsK_ls : Tryz.prog.cellsOf 23 = 1 := by kernel_rfl
section
variable {H : Type} {enc : TypeId × Value → H} {w : World} {base : Nat} {sp : Nat → Bool} {hd : Bool}
theorem i64_wf {x : Int} (wx : (Lit.int .i64 x).wf = true) : -9223372036854775808 ≤ x ∧ x ≤ 9223372036854775807 := by
  simpa [Lit.wf, IntKind.min, IntKind.max, IntKind.signed, IntKind.bits] using wx
theorem elem_int {m : Nat} {cs : List Value} {y : DataW H × List MemPlace} (h : DataW.trod enc Tryz.prog w base sp hd m 3 cs = some y) : ∃ x : Int, cs = [.int .i64 x] ∧ x ≤ 9223372036854775807 := by
  obtain ⟨x, e, _, wx⟩ := DataW.trod_int Tryz.underlying3 h
  exact ⟨x, e, (i64_wf wx).2⟩
theorem open_bools {v : Value} {d : DataW H} {p : List MemPlace} (hv : ∃ a len cap, v = .slice a len cap) (h : DataW.Trod enc Tryz.prog w base sp hd 22 v d p) : ∃ xs : List Bool, ∃ q n c, v = .slice q n c ∧ SlV boolK w (.slice q n c) xs := by
  obtain ⟨a, l, c, rfl⟩ := hv
  obtain ⟨xs, h1, _⟩ := open_slv (K := boolK) (Ok := fun _ => True) Tryz.underlying22 cellsK_bool (fun _ _ _ _ hx => by obtain ⟨x, e, _⟩ := DataW.trod_bool Tryz.underlying4 hx; exact ⟨x, e, trivial⟩) ⟨_, _, _, rfl⟩ h
  exact ⟨xs, _, _, _, rfl, h1⟩
set_option maxRecDepth 100000 in
theorem elem_lnk {m : Nat} {cs : List Value} {y : DataW H × List MemPlace} (hl : cs.length = 7) (h : DataW.trod enc Tryz.prog w base sp hd m 59 cs = some y) : ∃ x : LnkD, cs = lnkC x := by
  match cs, hl with
  | [c0, c1, c2, c3, c4, c5, c6], _ =>
    obtain ⟨xs, n, _, rfl, _, hlen, hf⟩ := DataW.trod_struct Tryz.underlying59 h
    match xs, hlen with
    | [y0, y1, y2, y3, y4, y5], _ =>
      have h0 : DataW.trod enc Tryz.prog w base sp hd n 3 [c0] = some y0 := by simpa [cellsK_int, cellsK_two] using hf 0 _ rfl
      have h1 : DataW.trod enc Tryz.prog w base sp hd n 3 [c1] = some y1 := by simpa [cellsK_int, cellsK_two] using hf 1 _ rfl
      have h2 : DataW.trod enc Tryz.prog w base sp hd n 57 [c2, c3] = some y2 := by simpa [cellsK_int, cellsK_two] using hf 2 _ rfl
      have h3 : DataW.trod enc Tryz.prog w base sp hd n 3 [c4] = some y3 := by simpa [cellsK_int, cellsK_two] using hf 3 _ rfl
      have h4 : DataW.trod enc Tryz.prog w base sp hd n 3 [c5] = some y4 := by simpa [cellsK_int, cellsK_two] using hf 4 _ rfl
      have h5 : DataW.trod enc Tryz.prog w base sp hd n 3 [c6] = some y5 := by simpa [cellsK_int, cellsK_two] using hf 5 _ rfl
      obtain ⟨zs, m2, _, _, _, hz, hi⟩ := DataW.trod_array Tryz.underlying57 h2
      match zs, hz with
      | [z0, z1], _ =>
        have g0 : DataW.trod enc Tryz.prog w base sp hd m2 3 [c2] = some z0 := by simpa [cellsK_int] using hi 0 (by decide)
        have g1 : DataW.trod enc Tryz.prog w base sp hd m2 3 [c3] = some z1 := by simpa [cellsK_int] using hi 1 (by decide)
        obtain ⟨a, e0, _⟩ := elem_int h0
        obtain ⟨b, e1, _⟩ := elem_int h1
        obtain ⟨c, e2, _⟩ := elem_int g0
        obtain ⟨d, e3, _⟩ := elem_int g1
        obtain ⟨e, e4, _⟩ := elem_int h3
        obtain ⟨f, e5, _⟩ := elem_int h4
        obtain ⟨g, e6, _⟩ := elem_int h5
        simp at e0 e1 e2 e3 e4 e5 e6
        subst e0 e1 e2 e3 e4 e5 e6
        exact ⟨⟨a, b, c, d, e, f, g⟩, rfl⟩
theorem open_lnks {v : Value} {d : DataW H} {p : List MemPlace} (hv : ∃ a len cap, v = .slice a len cap) (h : DataW.Trod enc Tryz.prog w base sp hd 23 v d p) : ∃ xs : List LnkD, SlV lnkK w v xs := by
  obtain ⟨xs, h1, _⟩ := open_slv (K := lnkK) (Ok := fun _ => True) Tryz.underlying23 cellsK_lnk (fun _ _ _ hl hx => by obtain ⟨x, e⟩ := elem_lnk hl hx; exact ⟨x, e, trivial⟩) hv h
  exact ⟨xs, h1⟩
theorem cell_slice {m : Nat} {t e : TypeId} {c : Value} {y : DataW H × List MemPlace} (ht : Tryz.prog.underlying t = some (.slice e)) (h : DataW.trod enc Tryz.prog w base sp hd m t [c] = some y) : ∃ a len cap, c = .slice a len cap := by
  rcases open_slice ht h with ⟨hcs, _⟩ | ⟨a, len, cap, _, _, _, _, hcs, _⟩
  · exact ⟨_, _, _, by simpa using hcs⟩
  · exact ⟨_, _, _, by simpa using hcs⟩
set_option maxRecDepth 100000 in
theorem open_top {b0 : Nat} {v : Value} {d : DataW H} {p : List MemPlace} (hv : Value.okWide Tryz.prog w .any b0 25 v) (h : DataW.Trod enc Tryz.prog w base sp hd 25 v d p) : ∃ t : TopD, TopV w v t := by
  obtain ⟨cs, rfl, hsz⟩ := okWide_struct Tryz.underlying25 hv
  rw [show Tryz.prog.cellsOf 25 = 3 by kernel_rfl] at hsz
  obtain ⟨l⟩ := cs
  match l, hsz with
  | [c0, c1, c2], _ =>
  obtain ⟨fuel, hf⟩ := h
  obtain ⟨xs, n, _, _, _, hlen, hf⟩ := DataW.trod_struct Tryz.underlying25 hf
  match xs, hlen with
  | [y0, y1, y2], _ =>
  have h0 : DataW.trod enc Tryz.prog w base sp hd n 3 [c0] = some y0 := by simpa [Value.cells, cellsK_int, cellsK_bs, cellsK_ls] using hf 0 _ rfl
  have h1 : DataW.trod enc Tryz.prog w base sp hd n 22 [c1] = some y1 := by simpa [Value.cells, cellsK_int, cellsK_bs, cellsK_ls] using hf 1 _ rfl
  have h2 : DataW.trod enc Tryz.prog w base sp hd n 23 [c2] = some y2 := by simpa [Value.cells, cellsK_int, cellsK_bs, cellsK_ls] using hf 2 _ rfl
  obtain ⟨x, e0, _⟩ := elem_int h0
  obtain ⟨a1, l1, p1, rfl⟩ := cell_slice Tryz.underlying22 h1
  obtain ⟨a2, l2, p2, rfl⟩ := cell_slice Tryz.underlying23 h2
  obtain ⟨ov, q, m, c, e1, k1⟩ := open_bools (d := y1.1) (p := y1.2) ⟨_, _, _, rfl⟩ ⟨n, h1⟩
  obtain ⟨ls, k2⟩ := open_lnks (d := y2.1) (p := y2.2) ⟨_, _, _, rfl⟩ ⟨n, h2⟩
  simp at e0
  subst e0
  rw [← e1] at k1
  exact ⟨⟨x, ov, ls⟩, _, _, _, _, _, _, rfl, k1, k2⟩
end
end Go.Proofs.YtmcfomainmppdaaGreatDoor
