/- build: any calls on a trie and on the table: the two agree. -/
import Derived.Test.YtklkldnpgecajaaBuildA
namespace Go.Proofs.Ytklkldnpgecajaa
open Go.RowKit Go.Shelf

/-- A slice of calls, as it came in. -/
structure OpsIn (W : World) (b off : Nat) (ops : List Op) : Prop where
  lt : b < W.heap.size
  at0 : ∀ k (h : k < ops.length), W.cell? ⟨b, off + k * 4, none⟩ = some (.bool ops[k].rm)
  at1 : ∀ k (h : k < ops.length), W.cell? ⟨b, off + k * 4 + 1, none⟩ = some (.int .u32 (ops[k].a : Int))
  at2 : ∀ k (h : k < ops.length), W.cell? ⟨b, off + k * 4 + 2, none⟩ = some (.int .i64 ops[k].n)
  at3 : ∀ k (h : k < ops.length), W.cell? ⟨b, off + k * 4 + 3, none⟩ = some (.int .i64 ops[k].v)
theorem OpsIn.below {W W' : World} {b off : Nat} {ops : List Op} (h : OpsIn W b off ops) (hb : Below W.heap.size W W') : OpsIn W' b off ops :=
  ⟨Nat.lt_of_lt_of_le h.lt hb.size, fun k hk => (hb.cell (p := ⟨b, off + k * 4, none⟩) h.lt).trans (h.at0 k hk), fun k hk => (hb.cell (p := ⟨b, off + k * 4 + 1, none⟩) h.lt).trans (h.at1 k hk), fun k hk => (hb.cell (p := ⟨b, off + k * 4 + 2, none⟩) h.lt).trans (h.at2 k hk), fun k hk => (hb.cell (p := ⟨b, off + k * 4 + 3, none⟩) h.lt).trans (h.at3 k hk)⟩
def OpsV (W : World) (v : Value) (ops : List Op) : Prop := (ops = [] ∧ ∃ p c, v = .slice p 0 c) ∨ ∃ b off c, v = .slice (some ⟨b, off, none⟩) ops.length c ∧ OpsIn W b off ops
theorem OpsV.below {W W' : World} {v : Value} {ops : List Op} (h : OpsV W v ops) (hb : Below W.heap.size W W') : OpsV W' v ops :=
  h.imp id fun ⟨g, o, c, e, t⟩ => ⟨g, o, c, e, t.below hb⟩

/-- The blocks of a table of one's own. -/
def ownB (v : Value) : List Nat := v.ownBlock.toList
theorem ownB_mem {v : Value} {k : Nat} : k ∈ ownB v ↔ v.ownBlock = some k := by unfold ownB; cases v.ownBlock <;> simp [eq_comm]
theorem row_same {W W' : World} {base : Nat} {e : TypeId} {size n : Nat} {v : Value} {xs : List Value} (h : W.ownsRow base e size v n xs) (hs : ∀ k ∈ ownB v, W'.heap[k]? = W.heap[k]?) : W'.ownsRow base e size v n xs := by
  refine ⟨h.1, h.2.imp id fun ⟨g, cap, cur, e, h1, h2, h3⟩ => ⟨g, cap, cur, e, h1, ?_, h3⟩⟩
  rw [hs g (ownB_mem.2 (by rw [e]; rfl))]
  exact h2

/-- A trie and a table that agree. -/
structure Both (n₀ : Nat) (w₀ : World) (tb : Nat) (t : T) (v : Value) (w : World) : Prop where
  ok : t.Ok
  has : Has n₀ w₀ w tb t (ownB v)
  row : RowL w n₀ v t.list
theorem Both.below {n₀ : Nat} {w₀ : World} {tb : Nat} {t : T} {v : Value} {w w' : World} (h : Both n₀ w₀ tb t v w) (hb : Below w.heap.size w w') : Both n₀ w₀ tb t v w' :=
  ⟨h.ok, h.has.below hb, row_kept_none h.row (grown_of_below hb)⟩
theorem Both.tab {n₀ : Nat} {w₀ : World} {tb : Nat} {t : T} {v : Value} {w : World} (h : Both n₀ w₀ tb t v w) : TabV w v t.list := tab_of_row h.row
theorem Has.old {n₀ tb : Nat} {w₀ w : World} {t : T} {S : List Nat} (h : Has n₀ w₀ w tb t S) : Below n₀ w₀ w ∧ n₀ ≤ w.heap.size := by
  obtain ⟨_, _, _, _, _, h4, h5⟩ := h; exact ⟨h5, h4⟩

/-- A call on both. -/
theorem both_step {n₀ tb : Nat} {w₀ w w2 : World} {t : T} {v v' : Value} {r : List Rt × Int} (h : Both n₀ w₀ tb t v w) (hv : (v' = v ∧ r.1 = t.list) ∨ RowL w2 w.heap.size v' r.1) (hb : Below w.heap.size w w2) :
    Has n₀ w₀ w2 tb t (ownB v') ∧ RowL w2 n₀ v' r.1 := by
  have hn := h.has.old.2
  rcases hv with ⟨rfl, e⟩ | hr
  · rw [e]; exact ⟨h.has.below hb, row_kept_none h.row (grown_of_below hb)⟩
  · refine ⟨(h.has.add hb (ownB v') fun k hk => hr.lt k (ownB_mem.1 hk)).sub fun k hk => List.mem_append_left _ hk, row_mono hr hn⟩

def BuildPost (N : Nat) (w : World) (e : Ending) (w' : World) : Prop :=
  ∃ tb t v, e = .returned (.tuple #[.pointer (some ⟨tb, 0, none⟩), v, .bool true]) ∧ Both w.heap.size w tb t v w' ∧ t.list.length ≤ N

set_option maxHeartbeats 1000000 in
theorem build_nil (p : Option Addr) (c : Nat) (w : World) :
    Calls Try.prog 11 #[.slice p 0 c] w (BuildPost 0 w) := by
  go_enter Try.func11, Try.ntmps11
  go_wp2_with (go_at_call 21; refine (has_new _).mono ?_; rintro e w1 ⟨rfl, H0, hb1, hl1⟩)
  go_loop [6, 7] (fun v i => v = .slice none 0 0 ∧ i = .int .i64 0) (fun _ _ => 0)
  case atStart => exact ⟨rfl, rfl⟩
  case round =>
    obtain ⟨rfl, rfl⟩ := hrel
    go_wp2
    refine bodyPost_ret (v := .tuple #[.pointer (some ⟨w.heap.size, 0, none⟩), .slice none 0 0, .bool true]) (by simp [results, Try.results11, go_sem]) rfl ?_
    exact ⟨_, .nil, _, rfl, ⟨show T.Wf .nil 0 0 from trivial, H0, World.ownsRow_nil _ _ _ _⟩, Nat.le_refl _⟩

set_option maxRecDepth 100000 in
set_option maxHeartbeats 2000000 in
theorem build_some (b off c : Nat) (ops : List Op) (w : World) (hO : OpsIn w b off ops) (hlen : ops.length ≤ 80) (hw : ∀ o ∈ ops, W32 o.a) :
    Calls Try.prog 11 #[.slice (some ⟨b, off, none⟩) ops.length c] w (BuildPost ops.length w) := by
  have HW := hid hw
  clear hw
  have hbl := hO.lt
  go_enter Try.func11, Try.ntmps11
  go_wp2_with (go_at_call 21; refine (has_new _).mono ?_; rintro e w1 ⟨rfl, H0, hb1, hl1⟩)
  go_loopw [6, 7] (fun v i wr => ∃ (k : Nat) (t : T), k ≤ ops.length ∧ i = .int .i64 k ∧ Both w.heap.size w w.heap.size t v wr ∧ t.list.length ≤ k) (fun _ i _ => ops.length - (intOf i).toNat)
  case atStart => exact ⟨0, .nil, Nat.zero_le _, rfl, ⟨show T.Wf .nil 0 0 from trivial, H0, World.ownsRow_nil _ _ _ _⟩, Nat.le_refl _⟩
  case round =>
    clear H0 hb1 hl1
    obtain ⟨k, t, hk, rfl, hB, htl⟩ := hrel
    by_cases hlt : k < ops.length
    · obtain ⟨hbw, hbs⟩ := hB.has.old
      have hbr : b < wr.heap.size := by omega
      have g0 := (hbw.cell (p := ⟨b, off + k * 4, none⟩) hbl).trans (hO.at0 k hlt)
      have g1 := (hbw.cell (p := ⟨b, off + k * 4 + 1, none⟩) hbl).trans (hO.at1 k hlt)
      have g2 := (hbw.cell (p := ⟨b, off + k * 4 + 2, none⟩) hbl).trans (hO.at2 k hlt)
      have g3 := (hbw.cell (p := ⟨b, off + k * 4 + 3, none⟩) hbl).trans (hO.at3 k hlt)
      have hoa := HW.out ops[k] (List.getElem_mem hlt)
      have hst := stepL_len ops[k] t.list
      go_wp2_with (first
        | (go_at_call 29; refine (rdo_any _ t.list ops[k] _ hB.tab (by omega) hB.ok.sorted hoa).mono ?_; rintro e w2 ⟨v', rfl, hv', hw2⟩; obtain ⟨hh, hrow⟩ := both_step hB hv' hw2; have hcc := cellsBelow hw2)
        | (go_at_call 30; refine (tdo_any hh hB.ok ops[k] hoa).mono ?_; rintro e w3 ⟨rfl, ⟨t', ht1, ht2, ht3⟩, hsame⟩))
      exact ⟨⟨k + 1, t', by omega, by go_num, ⟨ht1, ht3, by rw [ht2]; exact row_same hrow hsame⟩, by rw [ht2]; omega⟩, by simp [intOf]; omega⟩
    · obtain rfl : k = ops.length := by omega
      go_wp2
      refine bodyPost_ret (v := .tuple #[.pointer (some ⟨w.heap.size, 0, none⟩), u6, .bool true]) (by simp [results, Try.results11, go_sem]) rfl ?_
      exact ⟨_, t, _, rfl, hB, htl⟩

theorem build_any (v : Value) (ops : List Op) (w : World) (hO : OpsV w v ops) (hlen : ops.length ≤ 80) (hw : ∀ o ∈ ops, W32 o.a) :
    Calls Try.prog 11 #[v] w (BuildPost 80 w) := by
  rcases hO with ⟨rfl, p, c, rfl⟩ | ⟨b, off, c, rfl, h⟩
  · exact (build_nil p c w).mono fun _ _ ⟨tb, t, v, h1, h2, h3⟩ => ⟨tb, t, v, h1, h2, by omega⟩
  · exact (build_some b off c ops w h hlen hw).mono fun _ _ ⟨tb, t, v, h1, h2, h3⟩ => ⟨tb, t, v, h1, h2, by omega⟩

/-! ### What the laws call of a trie that was built -/
section
variable {n₀ tb : Nat} {w₀ w : World} {t : T} {v : Value}
theorem row_len {base : Nat} {o : List Rt} (h : RowL w base v o) : ∃ p c, v = .slice p o.length c := by
  rcases h.2 with ⟨e, hn⟩ | ⟨g, cap, cur, e, _⟩
  · exact ⟨_, _, by rw [hn]; exact e⟩
  · exact ⟨_, _, e⟩
theorem b_routes (h : Both n₀ w₀ tb t v w) (hl : t.list.length ≤ 80) : Calls Try.prog 13 #[.pointer (some ⟨tb, 0, none⟩)] w fun e w' => ∃ u, e = .returned u ∧ TabV w' u t.list ∧ Both n₀ w₀ tb t v w' ∧ Below w.heap.size w w' :=
  (routes_any _ _ w h.has.all (by omega)).mono fun _ _ ⟨u, e, hr, hb⟩ => ⟨u, e, tab_of_row hr, h.below hb, hb⟩
theorem b_len (h : Both n₀ w₀ tb t v w) (hl : t.list.length ≤ 80) : Calls Try.prog 14 #[.pointer (some ⟨tb, 0, none⟩)] w fun e w' => e = .returned (.int .i64 ((t.list.length : Nat) : Int)) ∧ Both n₀ w₀ tb t v w' ∧ Below w.heap.size w w' :=
  (len_any _ _ w h.has.all (by omega)).mono fun _ _ ⟨e, hb⟩ => ⟨e, h.below hb, hb⟩
theorem count_le (ht : t.Ok) : t.count ≤ 2 * t.list.length := by
  by_cases h : t = .nil
  · subst h; simp [T.count]
  · have := (size_law ht).2 h; omega
theorem b_nodes (h : Both n₀ w₀ tb t v w) (hl : t.list.length ≤ 80) : Calls Try.prog 15 #[.pointer (some ⟨tb, 0, none⟩)] w fun e w' => e = .returned (.int .i64 ((t.count : Nat) : Int)) ∧ Both n₀ w₀ tb t v w' ∧ Below w.heap.size w w' :=
  (has_nodes h.has (by have := count_le h.ok; omega)).mono fun _ _ ⟨e, hb⟩ => ⟨e, h.below hb, hb⟩
theorem b_rnodes (h : Both n₀ w₀ tb t v w) (hl : t.list.length ≤ 80) : Calls Try.prog 16 #[v] w fun e w' => e = .returned (.int .i64 ((t.count : Nat) : Int)) ∧ Both n₀ w₀ tb t v w' ∧ Below w.heap.size w w' :=
  (rnodes_any v t w h.tab (by omega) h.ok).mono fun _ _ ⟨e, hb⟩ => ⟨e, h.below hb, hb⟩
theorem b_same (h : Both n₀ w₀ tb t v w) {u u' : Value} {L : List Rt} (hu : TabV w u L) (hu' : TabV w u' L) (hl : L.length ≤ 80) : Calls Try.prog 12 #[u, u'] w fun e w' => e = .returned (.bool true) ∧ Both n₀ w₀ tb t v w' ∧ Below w.heap.size w w' :=
  (same_any u u' L w hu hu' (by omega)).mono fun _ _ ⟨e, hb⟩ => ⟨e, h.below hb, hb⟩
theorem b_look (h : Both n₀ w₀ tb t v w) (x : Nat) (hx : W32 x) : Calls Try.prog 17 #[.pointer (some ⟨tb, 0, none⟩), .int .u32 (x : Int)] w fun e w' => e = .returned (lookV (bestL x t.list ⟨0, 0, 0, false⟩)) ∧ Both n₀ w₀ tb t v w' ∧ Below w.heap.size w w' :=
  (has_look h.has x h.ok.fine hx).mono fun _ _ ⟨e, hb⟩ => ⟨by rw [e, look_law x t 0 0 _ h.ok (fun e => by cases e)], h.below hb, hb⟩
theorem b_rlook (h : Both n₀ w₀ tb t v w) (hl : t.list.length ≤ 80) (x : Nat) (hx : W32 x) : Calls Try.prog 18 #[v, .int .u32 (x : Int)] w fun e w' => e = .returned (lookV (bestL x t.list ⟨0, 0, 0, false⟩)) ∧ Both n₀ w₀ tb t v w' ∧ Below w.heap.size w w' :=
  (rlook_any v t.list x w h.tab (by omega) hx fun y hy => (h.ok.mem y hy).2.1.w32).mono fun _ _ ⟨e, hb⟩ => ⟨e, h.below hb, hb⟩
theorem getL_bad {a : Nat} {n : Int} {t : T} (ht : t.Ok) (hv : vld a n = false) : getL a n t.list = none := by
  have : ∀ l : List Rt, (∀ x ∈ l, V x.a x.n) → getL a n l = none := fun l => by
    induction l with
    | nil => intro _; rfl
    | cons x l ih =>
      intro h
      unfold getL
      rw [if_neg, ih fun y hy => h y (List.mem_cons_of_mem _ hy)]
      rintro ⟨rfl, rfl⟩
      rw [(h x (List.mem_cons_self ..)).vld] at hv
      cases hv
  exact this _ fun x hx => (ht.mem x hx).2.1
theorem b_get (h : Both n₀ w₀ tb t v w) (a : Nat) (n : Int) (ha : W32 a) : Calls Try.prog 19 #[.pointer (some ⟨tb, 0, none⟩), .agg #[.int .u32 (a : Int), .int .i64 n]] w fun e w' => e = .returned (getV (getL a n t.list)) ∧ Both n₀ w₀ tb t v w' ∧ Below w.heap.size w w' := by
  cases hv : vld a n with
  | false => exact (get_bad tb a n w ha hv).mono fun _ _ ⟨e, hb⟩ => ⟨by rw [e, getL_bad h.ok hv], h.below hb, hb⟩
  | true =>
    obtain ⟨k, rfl⟩ := Int.eq_ofNat_of_zero_le (vld_iff.1 hv).1
    exact (has_get h.has a k h.ok.fine ha hv).mono fun _ _ ⟨e, hb⟩ => ⟨by rw [e, get_list h.ok (V.of ha hv)], h.below hb, hb⟩
theorem b_rget (h : Both n₀ w₀ tb t v w) (hl : t.list.length ≤ 80) (a : Nat) (n : Int) : Calls Try.prog 20 #[v, .agg #[.int .u32 (a : Int), .int .i64 n]] w fun e w' => e = .returned (getV (getL a n t.list)) ∧ Both n₀ w₀ tb t v w' ∧ Below w.heap.size w w' :=
  (rget_any v t.list a n w h.tab (by omega)).mono fun _ _ ⟨e, hb⟩ => ⟨e, h.below hb, hb⟩
theorem b_under (h : Both n₀ w₀ tb t v w) (hl : t.list.length ≤ 80) (a : Nat) (n : Int) (ha : W32 a) : Calls Try.prog 24 #[.pointer (some ⟨tb, 0, none⟩), .agg #[.int .u32 (a : Int), .int .i64 n]] w fun e w' => ∃ u, e = .returned u ∧ TabV w' u (undL a n t.list) ∧ Both n₀ w₀ tb t v w' ∧ Below w.heap.size w w' :=
  (under_any _ _ w h.has.all (by omega) (fun y hy => (h.ok.mem y hy).2.1.w32) a n ha).mono fun _ _ ⟨u, e, hr, hb⟩ => ⟨u, e, tab_of_row hr, h.below hb, hb⟩
theorem b_runder (h : Both n₀ w₀ tb t v w) (hl : t.list.length ≤ 80) (a : Nat) (n : Int) (ha : W32 a) : Calls Try.prog 25 #[v, .agg #[.int .u32 (a : Int), .int .i64 n]] w fun e w' => ∃ u, e = .returned u ∧ TabV w' u (undL a n t.list) ∧ Both n₀ w₀ tb t v w' ∧ Below w.heap.size w w' :=
  (runder_any v t.list a n w h.tab (by omega) ha fun y hy => (h.ok.mem y hy).2.1.w32).mono fun _ _ ⟨u, e, hr, hb⟩ => ⟨u, e, tab_of_row hr, h.below hb, hb⟩
theorem und_le (a : Nat) (n : Int) (L : List Rt) : (undL a n L).length ≤ L.length := List.length_filter_le _ _
end

end Go.Proofs.Ytklkldnpgecajaa
