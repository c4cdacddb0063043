/- The frame of a law's row of the rational seat. -/
import Derived.Test.YtiilkcdefpmimaaGreatDoorRatL0
import Derived.ChangeMaps5
import Derived.Test.YtiilkcdefpmimaaGreatDoorRows
import Derived.Test.YtiilkcdefpmimaaGreatDoorTie
import Derived.ProofKit
import Derived.OpenShut
import Derived.JoinedCond
import Derived.LaidMore
import Derived.Lay
import Derived.SevenTiedAt
import Derived.Stop.Joined
import Derived.Lib.LaidTab
import Derived.Lib.LaidU8
import Derived.Lib.SmallJoins
import Derived.Deep.Slices
namespace Go.Proofs.YtiilkcdefpmimaaGreatDoor
open Go.ChangeShapes Go.WideShapes Go.ChangeAt Go.RowKit Go.Joins Go.Deep
theorem ownK : ownKnob Tryz.prog.godebug = none := by kernel_rfl
theorem laidOutK : laidOutB Tryz.prog = true := by kernel_rfl
theorem cellsU : Tryz.prog.cellsOf 97 = 1 := by kernel_rfl
theorem reread {H : Type} {enc : TypeId × Value → H} {P : Program} (hl : laidOutB P = true) {W W' : World} (hb : Below W.heap.size W W') :
    ∀ {ts : List TypeId} {vs : List Value} {ds : List (DataW H)} {ps : List MemPlace}, (ts.all fun t => P.readableRec t && decide (t < P.types.size)) = true → DataW.TrodAll enc P W 0 (fun _ => true) true ts vs ds ps → (∀ x ∈ ps, x.block < W.heap.size) →
      DataW.TrodAll enc P W' 0 (fun b => decide (b < W.heap.size)) true ts vs ds ps
  | [], vs, ds, ps, _, h, _ => by
    obtain ⟨rfl, rfl, rfl⟩ := trodAll_nil h
    exact trodAll_mk0
  | t :: ts, vs, ds, ps, ha, h, hlt => by
    obtain ⟨v, vs', d, ds', p, q, rfl, rfl, rfl, h1, h2⟩ := trodAll_cons h
    simp only [List.all_cons, Bool.and_eq_true, decide_eq_true_eq] at ha
    exact trodAll_cons_mk (Below.trod hl ha.1.1 ha.1.2 h1 hb fun x hx => hlt x (List.mem_append_left _ hx)) (reread hl hb (by simpa using ha.2) h2 fun x hx => hlt x (List.mem_append_right _ hx))
theorem law_post {H : Type} {enc : TypeId × Value → H} {fn : Func} {s : ChangeSpec} {W W' : World} {args : Array Value} {ds gs : List (DataW H)} {p q : List MemPlace} (hs : s.fn H (ds ++ gs) = { results := [.lit (.bool true)], args := ds }) (hvars : s.vars = [])
    (hres : fn.resultTypes = #[4]) (hts : (fn.params.toList.all fun t => Tryz.prog.readableRec t && decide (t < Tryz.prog.types.size)) = true)
    (hW : DataW.Whole enc Tryz.prog fn.params.toList s.vars false W args.toList ds gs (p ++ q)) (hA : DataW.TrodAll enc Tryz.prog W 0 (fun _ => true) true fn.params.toList args.toList ds p) (hB : Below W.heap.size W W') :
    s.post enc Tryz.prog fn false true false false W args (.bool true) W' := by
  refine ⟨ds, gs, p ++ q, [], p, [], hW, ?_, ?_, ?_, hB.frame _, fun h => by cases h⟩
  · rw [hs, hres]
    exact trodAll_cons_mk (p := []) (shut_bool Tryz.underlying4 _) trodAll_mk0
  · rw [hs]
    exact reread laidOutK hB hts hA fun x hx => hW.lt x (List.mem_append_left _ hx)
  · rw [hs, hvars]; rfl
theorem tab_of_laid {W : World} (h : laidMetH Tryz.prog Rows.rationalTextRow.laid W) : Tab W := by
  rw [MakeChecks.laidMetH_plain _ _ _ (by kernel_rfl)] at h
  obtain ⟨g, t, cs, fuel, p, hg, hty, hvar, hd⟩ := Lib.laidMet.reads h (n := "internal/strconv.uint64pow10") (d := Lib.tabData .u64 Lib.pow10Tab) (.tail _ (.tail _ (.head _)))
  obtain ⟨g', hg', hty'⟩ : ∃ g', Tryz.prog.globalNamed "internal/strconv.uint64pow10" = some g' ∧ (Tryz.prog.globals[g']?).map (·.type) = some 166 := ⟨2, by kernel_rfl, by kernel_rfl⟩
  obtain rfl := Option.some.inj (hg'.symm.trans hg)
  obtain rfl := Option.some.inj (hty'.symm.trans hty)
  have hcs := Lib.cells_of_tab Tryz.underlying166 Tryz.underlying48 (by kernel_rfl) (by kernel_rfl) hd
  unfold Tab Lib.TabIs
  rw [hvar, ← hcs]
section
variable {H : Type} {enc : TypeId × Value → H} {w : World} {base : Nat} {sp : Nat → Bool} {hd : Bool}
theorem open_digs {v : Value} {d : DataW H} {p : List MemPlace} (hv : ∃ a len cap, v = .slice a len cap) (h : DataW.Trod enc Tryz.prog w base sp hd 25 v d p) : ∃ ds : List Nat, InV w v ds ∧ ∀ x ∈ ds, x < B32 := by
  obtain ⟨a0, len0, cap0, rfl⟩ := hv
  obtain ⟨fuel, hf⟩ := h
  rcases open_slice Tryz.underlying25 hf with ⟨hcs, _⟩ | ⟨a, len, cap, m, n, D, Pl, hcs, _, hl, hm, hmm, hx, hi⟩
  · simp [Value.cells] at hcs
    obtain ⟨rfl, rfl, rfl⟩ := hcs
    exact ⟨[], .inl ⟨rfl, _, _, rfl⟩, fun _ h => by cases h⟩
  · simp [Value.cells] at hcs
    obtain ⟨rfl, rfl, rfl⟩ := hcs
    have hlm : len0 ≤ m := by rw [hmm]; split <;> omega
    by_cases h0 : len0 = 0
    · subst h0
      exact ⟨[], .inl ⟨rfl, _, _, rfl⟩, fun _ h => by cases h⟩
    have each : ∀ i, i < len0 → ∃ x : Nat, x < B32 ∧ w.cell? (a.add i) = some (.int .u32 (x : Int)) := fun i hil => by
      obtain ⟨cs', hc, ht'⟩ := hi i (by omega)
      rw [cellsU] at hc
      obtain ⟨_, hcl, hat⟩ := World.cells?_some hc
      obtain ⟨z, e1, _, wz⟩ := DataW.trod_int Tryz.underlying97 ht'
      have hz : 0 ≤ z ∧ z < 4294967296 := by simp [Lit.wf, IntKind.min, IntKind.max, IntKind.signed, IntKind.bits] at wz; omega
      refine ⟨z.toNat, by rw [b32]; omega, ?_⟩
      have h1 := hat 0 (by omega)
      rw [add_add] at h1
      simp only [Nat.mul_one, Nat.add_zero] at h1
      rw [h1]
      subst e1
      simp
      omega
    obtain ⟨f, hf⟩ := choose_lt each
    obtain ⟨b, off, spot⟩ := a
    have hspot : spot = none := by
      have := World.cell?_spot (hf 0 (by omega)).2
      simpa [Addr.add] using this
    subst hspot
    have he : ∀ k, (⟨b, off, none⟩ : Addr).add k = ⟨b, off + k, none⟩ := fun k => by unfold Addr.add; split <;> simp_all
    refine ⟨(List.range len0).map f, .inr ⟨b, off, cap0, by simp, ?_, fun k hk => ?_⟩, fun x hx => ?_⟩
    · have h1 := (hf 0 (by omega)).2
      rw [he] at h1
      unfold World.cell? at h1
      refine Nat.lt_of_not_le fun hge => ?_
      rw [Array.getElem?_eq_none hge] at h1
      cases h1
    · have h1 := (hf k (by simpa using hk)).2
      rw [he] at h1
      rw [h1]; simp
    · obtain ⟨k, hk, rfl⟩ := List.mem_map.1 hx
      exact (hf k (List.mem_range.1 hk)).1
end
section
variable {H : Type} {enc : TypeId × Value → H} {w : World} {base : Nat} {sp : Nat → Bool} {hd : Bool}
end
theorem bas_of {W : World} (h : laidMetH Tryz.prog Rows.rationalTextRow.laid W) (hs : W.ShapedOpen Tryz.prog) : Bas W := ⟨tab_of_laid h, Tryz.laysM145.s1_3 W hs⟩
section
variable {H : Type} {enc : TypeId × Value → H}
theorem change_and_shaped {a : Assume} {C : Checked} {os : Os} {f : FuncId} {fn : Func} {s : ChangeSpec} {conds : List PathCond} {apart fresh handsOn again : Bool} {X : World → Array Value → Prop}
    (hX : ∀ (w w' : World) (args : Array Value), w.heap = w'.heap → X w args → X w' args)
    (own : ownKnob C.prog.godebug = none) (started : os.Started) (noInit : C.prog.inits.idxOf? f = none) (hfn : C.prog.funcs[f]? = some fn)
    (witness : ∃ (w : World) (tape : Tape) (i : Input), w.os = os ∧ (w.forCall tape i).Shaped C.prog ∧ i.vars = [] ∧ Input.okWide C.prog (w.forCall tape i) .any w.heap.size f i ∧
      ((s.pre enc C.prog fn conds apart (w.forCall tape i).memory i.args ∧ X (w.forCall tape i).memory i.args) ∧ sizedMet enc C.prog fn (OpenSpec.ofChange s) apart (w.forCall tape i).memory i.args) ∧ a.holds C.prog (lone (Frame.enter C.prog f i.args .normal) [] (w.forCall tape i)))
    (contract : ∀ (W : World) (base : Nat) (args : Array Value) (ds gs : List (DataW H)) (before : List MemPlace),
      (∀ (j : Nat) t v, fn.params[j]? = some t → args[j]? = some v → Value.okWide C.prog W .any base t v) →
      DataW.Whole enc C.prog fn.params.toList s.vars apart W args.toList ds gs before →
      X W args → W.ShapedOpen C.prog →
      Calls C.prog f args W fun e W' => ∃ v, e = .returned v ∧ s.post enc C.prog fn apart fresh handsOn again W args v W') :
    ReturnsInHanded a C os f .any (fun w args => (s.pre enc C.prog fn conds apart w args ∧ X w args) ∧ sizedMet enc C.prog fn (OpenSpec.ofChange s) apart w args) (s.post enc C.prog fn apart fresh handsOn again) := by
  refine returnsInHanded_of_calls own started noInit witness ?_
  intro w tape i _ hsh _ hok hpre _
  obtain ⟨_, _, _, fn', hfn', _, _, _, _, hval⟩ := hok
  obtain rfl : fn' = fn := Option.some.inj (hfn'.symm.trans hfn)
  obtain ⟨⟨⟨ds, gs, before, hw, _⟩, hx⟩, _⟩ := hpre
  have hw' := DataW.Whole.of_heap (w' := w.forCall tape i) (by rfl) hw
  refine (contract (w.forCall tape i) w.heap.size i.args ds gs before hval hw' (hX _ _ _ (by rfl) hx) hsh).mono fun e W' ⟨v, he, hp⟩ => ?_
  subst he
  exact ChangeSpec.post_blind hp
end
section
variable {H : Type} {enc : TypeId × Value → H} {w : World} {base : Nat} {sp : Nat → Bool} {hd : Bool}
set_option maxRecDepth 100000 in
theorem digs_cell {c : Value} {m : Nat} {y : DataW H × List MemPlace} (h : DataW.trod enc Tryz.prog w base sp hd m 25 [c] = some y) : ∃ ds : List Nat, InV w c ds ∧ ∀ x ∈ ds, x < B32 := by
  have hc : ∃ a len cap, c = .slice a len cap := by
    rcases open_slice Tryz.underlying25 h with ⟨hcs, _⟩ | ⟨a, len, cap, _, _, _, _, hcs, _⟩
    · exact ⟨_, _, _, by simpa using hcs⟩
    · exact ⟨_, _, _, by simpa using hcs⟩
  obtain ⟨a, l, cp, rfl⟩ := hc
  exact open_digs (d := y.1) (p := y.2) ⟨_, _, _, rfl⟩ ⟨m, h⟩
end
end Go.Proofs.YtiilkcdefpmimaaGreatDoor
