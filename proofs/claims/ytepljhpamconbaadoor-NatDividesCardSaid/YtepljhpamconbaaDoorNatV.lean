/- The frame of a law's row of the nat seat. -/
import Derived.Test.YtepljhpamconbaaDoorNatU
import Derived.Test.YtepljhpamconbaaDoorRows
import Derived.Test.YtepljhpamconbaaDoorTie
import Derived.ProofKit
import Derived.OpenShut
import Derived.JoinedCond
import Derived.LaidMore
import Derived.Lay
import Derived.SevenTiedAt
import Derived.Stop.Joined
import Derived.Lib.LaidTab
import Derived.Lib.LaidU8
import Derived.Lib.SmallJoins
import Derived.Deep.Slices
namespace Go.Proofs.YtepljhpamconbaaDoor
open Go.ChangeShapes Go.WideShapes Go.ChangeAt Go.RowKit Go.Joins Go.Deep

theorem ownK : ownKnob Tryd.prog.godebug = none := by kernel_rfl
theorem laidOutK : laidOutB Tryd.prog = true := by kernel_rfl
theorem cellsU : Tryd.prog.cellsOf 69 = 1 := by kernel_rfl
/-- What came in reads again. -/
theorem reread {H : Type} {enc : TypeId × Value → H} {P : Program} (hl : laidOutB P = true) {W W' : World} (hb : Below W.heap.size W W') :
    ∀ {ts : List TypeId} {vs : List Value} {ds : List (DataW H)} {ps : List MemPlace}, (ts.all fun t => P.readableRec t && decide (t < P.types.size)) = true → DataW.TrodAll enc P W 0 (fun _ => true) true ts vs ds ps → (∀ x ∈ ps, x.block < W.heap.size) →
      DataW.TrodAll enc P W' 0 (fun b => decide (b < W.heap.size)) true ts vs ds ps
  | [], vs, ds, ps, _, h, _ => by
    obtain ⟨rfl, rfl, rfl⟩ := trodAll_nil h
    exact trodAll_mk0
  | t :: ts, vs, ds, ps, ha, h, hlt => by
    obtain ⟨v, vs', d, ds', p, q, rfl, rfl, rfl, h1, h2⟩ := trodAll_cons h
    simp only [List.all_cons, Bool.and_eq_true, decide_eq_true_eq] at ha
    exact trodAll_cons_mk (Below.trod hl ha.1.1 ha.1.2 h1 hb fun x hx => hlt x (List.mem_append_left _ hx)) (reread hl hb (by simpa using ha.2) h2 fun x hx => hlt x (List.mem_append_right _ hx))

/-- The end of a law's row: it returned true and left the old memory as it was. -/
theorem law_post {H : Type} {enc : TypeId × Value → H} {fn : Func} {s : ChangeSpec} {W W' : World} {args : Array Value} {ds gs : List (DataW H)} {p q : List MemPlace} (hs : s.fn H (ds ++ gs) = { results := [.lit (.bool true)], args := ds }) (hvars : s.vars = [])
    (hres : fn.resultTypes = #[4]) (hts : (fn.params.toList.all fun t => Tryd.prog.readableRec t && decide (t < Tryd.prog.types.size)) = true)
    (hW : DataW.Whole enc Tryd.prog fn.params.toList s.vars false W args.toList ds gs (p ++ q)) (hA : DataW.TrodAll enc Tryd.prog W 0 (fun _ => true) true fn.params.toList args.toList ds p) (hB : Below W.heap.size W W') :
    s.post enc Tryd.prog fn false true false false W args (.bool true) W' := by
  refine ⟨ds, gs, p ++ q, [], p, [], hW, ?_, ?_, ?_, hB.frame _, fun h => by cases h⟩
  · rw [hs, hres]
    exact trodAll_cons_mk (p := []) (shut_bool Tryd.underlying4 _) trodAll_mk0
  · rw [hs]
    exact reread laidOutK hB hts hA fun x hx => hW.lt x (List.mem_append_left _ hx)
  · rw [hs, hvars]; rfl

/-- The table of powers of ten, out of the row's condition. -/
theorem tab_of_laid {W : World} (h : laidMetH Tryd.prog Rows.natTextRow.laid W) : Tab W := by
  rw [MakeChecks.laidMetH_plain _ _ _ (by kernel_rfl)] at h
  obtain ⟨g, t, cs, fuel, p, hg, hty, hvar, hd⟩ := Lib.laidMet.reads h (n := "internal/strconv.uint64pow10") (d := Lib.tabData .u64 Lib.pow10Tab) (.tail _ (.tail _ (.head _)))
  obtain ⟨g', hg', hty'⟩ : ∃ g', Tryd.prog.globalNamed "internal/strconv.uint64pow10" = some g' ∧ (Tryd.prog.globals[g']?).map (·.type) = some 113 := ⟨1, by kernel_rfl, by kernel_rfl⟩
  obtain rfl := Option.some.inj (hg'.symm.trans hg)
  obtain rfl := Option.some.inj (hty'.symm.trans hty)
  have hcs := Lib.cells_of_tab Tryd.underlying113 Tryd.underlying50 (by kernel_rfl) (by kernel_rfl) hd
  unfold Tab Lib.TabIs
  rw [hvar, ← hcs]
section
variable {H : Type} {enc : TypeId × Value → H} {w : World} {base : Nat} {sp : Nat → Bool} {hd : Bool}
/-- A slice of digits. -/
theorem open_digs {v : Value} {d : DataW H} {p : List MemPlace} (hv : ∃ a len cap, v = .slice a len cap) (h : DataW.Trod enc Tryd.prog w base sp hd 22 v d p) : ∃ ds : List Nat, InV w v ds ∧ ∀ x ∈ ds, x < B32 := by
  obtain ⟨a0, len0, cap0, rfl⟩ := hv
  obtain ⟨fuel, hf⟩ := h
  rcases open_slice Tryd.underlying22 hf with ⟨hcs, _⟩ | ⟨a, len, cap, m, n, D, Pl, hcs, _, hl, hm, hmm, hx, hi⟩
  · simp [Value.cells] at hcs
    obtain ⟨rfl, rfl, rfl⟩ := hcs
    exact ⟨[], .inl ⟨rfl, _, _, rfl⟩, fun _ h => by cases h⟩
  · simp [Value.cells] at hcs
    obtain ⟨rfl, rfl, rfl⟩ := hcs
    have hlm : len0 ≤ m := by rw [hmm]; split <;> omega
    by_cases h0 : len0 = 0
    · subst h0
      exact ⟨[], .inl ⟨rfl, _, _, rfl⟩, fun _ h => by cases h⟩
    have each : ∀ i, i < len0 → ∃ x : Nat, x < B32 ∧ w.cell? (a.add i) = some (.int .u32 (x : Int)) := fun i hil => by
      obtain ⟨cs', hc, ht'⟩ := hi i (by omega)
      rw [cellsU] at hc
      obtain ⟨_, hcl, hat⟩ := World.cells?_some hc
      obtain ⟨z, e1, _, wz⟩ := DataW.trod_int Tryd.underlying69 ht'
      have hz : 0 ≤ z ∧ z < 4294967296 := by simp [Lit.wf, IntKind.min, IntKind.max, IntKind.signed, IntKind.bits] at wz; omega
      refine ⟨z.toNat, by rw [b32]; omega, ?_⟩
      have h1 := hat 0 (by omega)
      rw [add_add] at h1
      simp only [Nat.mul_one, Nat.add_zero] at h1
      rw [h1]
      subst e1
      simp
      omega
    obtain ⟨f, hf⟩ := choose_lt each
    obtain ⟨b, off, spot⟩ := a
    have hspot : spot = none := by
      have := World.cell?_spot (hf 0 (by omega)).2
      simpa [Addr.add] using this
    subst hspot
    have he : ∀ k, (⟨b, off, none⟩ : Addr).add k = ⟨b, off + k, none⟩ := fun k => by unfold Addr.add; split <;> simp_all
    refine ⟨(List.range len0).map f, .inr ⟨b, off, cap0, by simp, ?_, fun k hk => ?_⟩, fun x hx => ?_⟩
    · have h1 := (hf 0 (by omega)).2
      rw [he] at h1
      unfold World.cell? at h1
      refine Nat.lt_of_not_le fun hge => ?_
      rw [Array.getElem?_eq_none hge] at h1
      cases h1
    · have h1 := (hf k (by simpa using hk)).2
      rw [he] at h1
      rw [h1]; simp
    · obtain ⟨k, hk, rfl⟩ := List.mem_map.1 hx
      exact (hf k (List.mem_range.1 hk)).1
end
end Go.Proofs.YtepljhpamconbaaDoor
